/- Part of the proof of BusProof. MADE BY PROGRAM (genmeth.py): contracts checked by the kernel. -/
import Derived.Test.YtbegodiligmphaaGreatDoorQb14
namespace Go.Proofs.YtbegodiligmphaaGreatDoor.Sy
open Go
theorem m94_check : m94.check (mkCx tm8) 20 400 94 = true := by decide +kernel
end Go.Proofs.YtbegodiligmphaaGreatDoor.Sy
