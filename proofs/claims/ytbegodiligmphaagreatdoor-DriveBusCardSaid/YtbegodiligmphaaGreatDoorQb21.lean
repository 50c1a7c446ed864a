/- Part of the proof of BusProof. MADE BY PROGRAM (genmeth.py): contracts checked by the kernel. -/
import Derived.Test.YtbegodiligmphaaGreatDoorQb14
namespace Go.Proofs.YtbegodiligmphaaGreatDoor.Sy
open Go
theorem m93_check : m93.check (mkCx tm7) 20 400 93 = true := by decide +kernel
end Go.Proofs.YtbegodiligmphaaGreatDoor.Sy
