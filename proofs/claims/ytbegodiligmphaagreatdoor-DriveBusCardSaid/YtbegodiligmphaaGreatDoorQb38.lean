/- Part of the proof of BusProof. MADE BY PROGRAM (gen_bus.py): a tick of DriveBus, checked by the kernel. -/
import Derived.Test.YtbegodiligmphaaGreatDoorQb37
namespace Go.Proofs.YtbegodiligmphaaGreatDoor.Sy
open Go
theorem m29p_check : m29p.check (mkCx tq4) 20 400 29 = true := by decide +kernel
theorem hold_m29p : m29p.Holds (mkCx tq4) ObjD 20 400 29 := MLit.holds (C := mkCx tq4) cx_mix cx_name tq4_ok m29p_check
theorem m29p_ok : tickOk m29p = true ∧ callOk m29p = true := by decide +kernel
theorem m29p_defs : m29p.defAt (mkCx tq4) 20 400 29 busDefs = true := by decide +kernel
end Go.Proofs.YtbegodiligmphaaGreatDoor.Sy
