/- Part of the proof of BusProof. fresh, checked by the kernel; written by gen_fresh.py. -/
import Derived.Test.YtbegodiligmphaaGreatDoorQb14
namespace Go.Proofs.YtbegodiligmphaaGreatDoor.Sy
open Go
theorem m28a_check : m28a.check (mkCx fb7) 20 6000 28 = true := by decide +kernel
theorem m28b_check : m28b.check (mkCx fb7) 20 6000 28 = true := by decide +kernel
theorem m28c_check : m28c.check (mkCx fb7) 20 6000 28 = true := by decide +kernel
theorem m28d_check : m28d.check (mkCx fb7) 20 6000 28 = true := by decide +kernel
end Go.Proofs.YtbegodiligmphaaGreatDoor.Sy
