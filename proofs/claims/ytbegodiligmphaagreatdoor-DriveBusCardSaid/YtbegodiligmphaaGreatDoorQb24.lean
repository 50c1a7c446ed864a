/- Part of the proof of BusProof. MADE BY PROGRAM (genmeth.py): contracts checked by the kernel. -/
import Derived.Test.YtbegodiligmphaaGreatDoorQb14
namespace Go.Proofs.YtbegodiligmphaaGreatDoor.Sy
open Go
theorem m102_check : m102.check (mkCx tm13) 20 400 102 = true := by decide +kernel
end Go.Proofs.YtbegodiligmphaaGreatDoor.Sy
