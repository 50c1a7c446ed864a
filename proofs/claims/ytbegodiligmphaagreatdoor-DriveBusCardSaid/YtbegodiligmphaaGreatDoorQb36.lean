/- Part of the proof of BusProof. MADE BY PROGRAM (gen_awxt.py): methods at known numbers, checked by the kernel. -/
import Derived.Test.YtbegodiligmphaaGreatDoorQb14
namespace Go.Proofs.YtbegodiligmphaaGreatDoor.Sy
open Go
theorem w94k1_chk : w94k1.check (mkCx ax10) 20 6000 94 = true := by decide +kernel
theorem w95k0_chk : w95k0.check (mkCx ax11) 20 6000 95 = true := by decide +kernel
theorem w95k4_chk : w95k4.check (mkCx ax11) 20 6000 95 = true := by decide +kernel
theorem w99k2_chk : w99k2.check (mkCx ax13) 20 6000 99 = true := by decide +kernel
theorem w100k1_chk : w100k1.check (mkCx ax14) 20 6000 100 = true := by decide +kernel
theorem w102k0_chk : w102k0.check (mkCx ax15) 20 6000 102 = true := by decide +kernel
theorem w104k1_chk : w104k1.check (mkCx ax16) 20 6000 104 = true := by decide +kernel
theorem w19k0_chk : w19k0.check (mkCx ax18) 20 6000 19 = true := by decide +kernel
theorem w35k1_chk : w35k1.check (mkCx ax20) 20 6000 35 = true := by decide +kernel
theorem v33_chk : v33.check (mkCx ax21) 20 6000 33 = true := by decide +kernel
end Go.Proofs.YtbegodiligmphaaGreatDoor.Sy
