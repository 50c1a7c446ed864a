/- Part of the proof of BusProof. New and fresh, checked by the kernel; written by gen_fresh.py. -/
import Derived.Test.YtbegodiligmphaaGreatDoorQb14
namespace Go.Proofs.YtbegodiligmphaaGreatDoor.Sy
open Go
theorem m126_check : m126.check (mkCx fb4) 20 6000 126 = true := by decide +kernel
theorem m55_check : m55.check (mkCx fb5) 20 6000 55 = true := by decide +kernel
theorem m18a_check : m18a.check (mkCx fb6) 20 6000 18 = true := by decide +kernel
theorem m18b_check : m18b.check (mkCx fb6) 20 6000 18 = true := by decide +kernel
theorem m18c_check : m18c.check (mkCx fb6) 20 6000 18 = true := by decide +kernel
theorem m18d_check : m18d.check (mkCx fb6) 20 6000 18 = true := by decide +kernel
end Go.Proofs.YtbegodiligmphaaGreatDoor.Sy
