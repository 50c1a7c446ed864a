/- Part of the proof of BusProof. MADE BY PROGRAM (gen_stt.py): the parameter store: cases checked by the kernel. -/
import Derived.Test.YtbegodiligmphaaGreatDoorQb13
namespace Go.Proofs.YtbegodiligmphaaGreatDoor.Sy
open Go
theorem saved_0 : (List.range 4).all (fun c=>(savedB c).auto (mkCx st4) 20 6000 112 (sh c) tabs3 (copyP (sh c))) = true := by decide +kernel
theorem broken_0 : (List.range' 0 4).all (fun c=>(brokenW' c).all fun W=>W.ok (mkCx st4) 20 6000 161 sh c 0 brk tabs3) = true := by decide +kernel
theorem set_0 : (List.range' 0 4).all (fun c=>(setW' c).all fun W=>W.ok (mkCx st4) 20 6000 151 sh c 2 jk tabs3) = true := by decide +kernel
theorem step_0 : (List.range' 0 4).all (fun c=>(stepW' c).all fun W=>W.ok (mkCx st4) 20 6000 103 sh c 0 jk2 tabs3) = true := by decide +kernel
theorem begin_1 : (List.range' 1 3).all (fun c=>(beginW' c).all fun W=>W.ok (mkCx st4) 20 6000 152 sh c 0 jk tabs3) = true := by decide +kernel
theorem begin0_0 : (begW 0 0).all (fun W=>W.ok (mkCx st4) 20 6000 152 sh 0 0 jk tabs3) = true := by decide +kernel
theorem begin0_1 : (begW 0 1).all (fun W=>W.ok (mkCx st4) 20 6000 152 sh 0 0 jk tabs3) = true := by decide +kernel
theorem begin0_2 : (begW 0 2).all (fun W=>W.ok (mkCx st4) 20 6000 152 sh 0 0 jk tabs3) = true := by decide +kernel
theorem begin0_3 : (begW 0 3).all (fun W=>W.ok (mkCx st4) 20 6000 152 sh 0 0 jk tabs3) = true := by decide +kernel
theorem begin0_4 : (begW 0 4).all (fun W=>W.ok (mkCx st4) 20 6000 152 sh 0 0 jk tabs3) = true := by decide +kernel
theorem begin0_5 : (begW 0 5).all (fun W=>W.ok (mkCx st4) 20 6000 152 sh 0 0 jk tabs3) = true := by decide +kernel
theorem begin0_6 : (begW 0 6).all (fun W=>W.ok (mkCx st4) 20 6000 152 sh 0 0 jk tabs3) = true := by decide +kernel
theorem begin0_7 : (begW 0 7).all (fun W=>W.ok (mkCx st4) 20 6000 152 sh 0 0 jk tabs3) = true := by decide +kernel
theorem begin0_8 : (begW 0 8).all (fun W=>W.ok (mkCx st4) 20 6000 152 sh 0 0 jk tabs3) = true := by decide +kernel
end Go.Proofs.YtbegodiligmphaaGreatDoor.Sy
