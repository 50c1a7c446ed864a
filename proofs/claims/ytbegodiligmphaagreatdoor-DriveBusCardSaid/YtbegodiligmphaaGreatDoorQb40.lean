/- Part of the proof of BusProof. MADE BY PROGRAM (gen_bus.py): a tick of DriveBus, checked by the kernel. -/
import Derived.Test.YtbegodiligmphaaGreatDoorQb37
namespace Go.Proofs.YtbegodiligmphaaGreatDoor.Sy
open Go
theorem m29v_check : m29v.check (mkCx tq4) 20 400 29 = true := by decide +kernel
theorem hold_m29v : m29v.Holds (mkCx tq4) ObjD 20 400 29 := MLit.holds (C := mkCx tq4) cx_mix cx_name tq4_ok m29v_check
theorem m29v_ok : tickOk m29v = true ∧ callOk m29v = true := by decide +kernel
theorem m29v_defs : m29v.defAt (mkCx tq4) 20 400 29 busDefsV = true := by decide +kernel
end Go.Proofs.YtbegodiligmphaaGreatDoor.Sy
