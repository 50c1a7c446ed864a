/- Part of the proof of BusProof. MADE BY PROGRAM (gen_awxt.py): methods at known numbers, checked by the kernel. -/
import Derived.Test.YtbegodiligmphaaGreatDoorQb14
namespace Go.Proofs.YtbegodiligmphaaGreatDoor.Sy
open Go
theorem w93k1_chk : w93k1.check (mkCx ax9) 20 6000 93 = true := by decide +kernel
theorem w94k3_chk : w94k3.check (mkCx ax10) 20 6000 94 = true := by decide +kernel
theorem w95k2_chk : w95k2.check (mkCx ax11) 20 6000 95 = true := by decide +kernel
theorem w99k0_chk : w99k0.check (mkCx ax13) 20 6000 99 = true := by decide +kernel
theorem w99k4_chk : w99k4.check (mkCx ax13) 20 6000 99 = true := by decide +kernel
theorem w100k3_chk : w100k3.check (mkCx ax14) 20 6000 100 = true := by decide +kernel
theorem w102k4_chk : w102k4.check (mkCx ax15) 20 6000 102 = true := by decide +kernel
theorem w104k3_chk : w104k3.check (mkCx ax16) 20 6000 104 = true := by decide +kernel
theorem w30k1_chk : w30k1.check (mkCx ax19) 20 6000 30 = true := by decide +kernel
theorem w35k3_chk : w35k3.check (mkCx ax20) 20 6000 35 = true := by decide +kernel
end Go.Proofs.YtbegodiligmphaaGreatDoor.Sy
