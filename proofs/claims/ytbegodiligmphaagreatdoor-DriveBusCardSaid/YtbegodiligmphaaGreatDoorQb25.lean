/- Part of the proof of BusProof. MADE BY PROGRAM (genmeth.py): contracts checked by the kernel. -/
import Derived.Test.YtbegodiligmphaaGreatDoorQb14
namespace Go.Proofs.YtbegodiligmphaaGreatDoor.Sy
open Go
theorem m104_check : m104.check (mkCx tm14) 20 400 104 = true := by decide +kernel
end Go.Proofs.YtbegodiligmphaaGreatDoor.Sy
