/- Part of the proof of BusProof. MADE BY PROGRAM (genmeth.py): contracts checked by the kernel. -/
import Derived.Test.YtbegodiligmphaaGreatDoorQb14
namespace Go.Proofs.YtbegodiligmphaaGreatDoor.Sy
open Go
theorem m265a_check : m265a.check (mkCx tm0) 20 400 265 = true := by decide +kernel
theorem m265b_check : m265b.check (mkCx tm0) 20 400 265 = true := by decide +kernel
theorem m225_check : m225.check (mkCx tm1) 20 400 225 = true := by decide +kernel
theorem m109_check : m109.check (mkCx tm2) 20 400 109 = true := by decide +kernel
theorem m222_check : m222.check (mkCx tm3) 20 400 222 = true := by decide +kernel
theorem m223_check : m223.check (mkCx tm4) 20 400 223 = true := by decide +kernel
theorem m92_check : m92.check (mkCx tm6) 20 400 92 = true := by decide +kernel
theorem m96_check : m96.check (mkCx tm9) 20 400 96 = true := by decide +kernel
theorem m99_check : m99.check (mkCx tm10) 20 400 99 = true := by decide +kernel
theorem m100_check : m100.check (mkCx tm11) 20 400 100 = true := by decide +kernel
end Go.Proofs.YtbegodiligmphaaGreatDoor.Sy
