/- Part of the proof of BusProof. MADE BY PROGRAM (gen_awxt.py): a tick of Awake, checked by the kernel. -/
import Derived.Test.YtbegodiligmphaaGreatDoorQb14
namespace Go.Proofs.YtbegodiligmphaaGreatDoor.Sy
open Go
theorem w29k3_chk : w29k3.check (mkCx ax17) 20 6000 29 = true := by decide +kernel
end Go.Proofs.YtbegodiligmphaaGreatDoor.Sy
