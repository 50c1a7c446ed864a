/- Part of the proof of BusProof. MADE BY PROGRAM (gen_bus.py): a tick of DriveBus, checked by the kernel. -/
import Derived.Test.YtbegodiligmphaaGreatDoorQb37
namespace Go.Proofs.YtbegodiligmphaaGreatDoor.Sy
open Go
theorem m29c_check : m29c.check (mkCx tq4) 20 400 29 = true := by decide +kernel
theorem hold_m29c : m29c.Holds (mkCx tq4) ObjD 20 400 29 := MLit.holds (C := mkCx tq4) cx_mix cx_name tq4_ok m29c_check
theorem m29c_ok : tickOk m29c = true ∧ callOk m29c = true := by decide +kernel
theorem m29c_defs : m29c.defAt (mkCx tq4) 20 400 29 busDefs = true := by decide +kernel
end Go.Proofs.YtbegodiligmphaaGreatDoor.Sy
