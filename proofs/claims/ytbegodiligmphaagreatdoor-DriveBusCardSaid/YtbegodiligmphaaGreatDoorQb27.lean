/- Part of the proof of BusProof. MADE BY PROGRAM (gen_awxt.py): fresh at known numbers, checked by the kernel. -/
import Derived.Test.YtbegodiligmphaaGreatDoorQb14
namespace Go.Proofs.YtbegodiligmphaaGreatDoor.Sy
open Go
theorem m126_chk : m126.check (mkCx ax5) 20 6000 126 = true := by decide +kernel
theorem m55_chk : m55.check (mkCx ax6) 20 6000 55 = true := by decide +kernel
theorem w18_chk : w18.check (mkCx ax7) 20 6000 18 = true := by decide +kernel
end Go.Proofs.YtbegodiligmphaaGreatDoor.Sy
