/- Part of the proof of BusProof. MADE BY PROGRAM (genmeth.py): contracts checked by the kernel. -/
import Derived.Test.YtbegodiligmphaaGreatDoorQb14
namespace Go.Proofs.YtbegodiligmphaaGreatDoor.Sy
open Go
theorem m101_check : m101.check (mkCx tm12) 20 400 101 = true := by decide +kernel
end Go.Proofs.YtbegodiligmphaaGreatDoor.Sy
