/- Part of the proof of BusProof. MADE BY PROGRAM (genmeth.py): contracts checked by the kernel. -/
import Derived.Test.YtbegodiligmphaaGreatDoorQb14
namespace Go.Proofs.YtbegodiligmphaaGreatDoor.Sy
open Go
theorem m162_check : m162.check (mkCx tm5) 20 400 162 = true := by decide +kernel
end Go.Proofs.YtbegodiligmphaaGreatDoor.Sy
