/- Part of the proof of BusProof. MADE BY PROGRAM (gen_awxt.py): methods at known numbers, checked by the kernel. -/
import Derived.Test.YtbegodiligmphaaGreatDoorQb14
namespace Go.Proofs.YtbegodiligmphaaGreatDoor.Sy
open Go
theorem w94k0_chk : w94k0.check (mkCx ax10) 20 6000 94 = true := by decide +kernel
theorem w94k4_chk : w94k4.check (mkCx ax10) 20 6000 94 = true := by decide +kernel
theorem w95k3_chk : w95k3.check (mkCx ax11) 20 6000 95 = true := by decide +kernel
theorem w99k1_chk : w99k1.check (mkCx ax13) 20 6000 99 = true := by decide +kernel
theorem w100k0_chk : w100k0.check (mkCx ax14) 20 6000 100 = true := by decide +kernel
theorem w100k4_chk : w100k4.check (mkCx ax14) 20 6000 100 = true := by decide +kernel
theorem w104k0_chk : w104k0.check (mkCx ax16) 20 6000 104 = true := by decide +kernel
theorem w104k4_chk : w104k4.check (mkCx ax16) 20 6000 104 = true := by decide +kernel
theorem w35k0_chk : w35k0.check (mkCx ax20) 20 6000 35 = true := by decide +kernel
theorem w35k4_chk : w35k4.check (mkCx ax20) 20 6000 35 = true := by decide +kernel
end Go.Proofs.YtbegodiligmphaaGreatDoor.Sy
