/- Part of the proof of BusProof. MADE BY PROGRAM (gen_cfgt.py): Config, Input, View, Faults, checked by the kernel. -/
import Derived.Test.YtbegodiligmphaaGreatDoorQb10
import Derived.Test.YtbegodiligmphaaGreatDoorQb14
namespace Go.Proofs.YtbegodiligmphaaGreatDoor.Sy
open Go
theorem m19_check : m19.check (mkCx tb60) 20 6000 19 = true := by decide +kernel
theorem hold_m19 (O : Objs) : m19.Holds (mkCx tb60) O 20 6000 19 := MLit.holds (C := mkCx tb60) cx_mix cx_name (tb60_ok O) m19_check
theorem m30n_check : m30n.check (mkCx tb60) 20 6000 30 = true := by decide +kernel
theorem hold_m30n (O : Objs) : m30n.Holds (mkCx tb60) O 20 6000 30 := MLit.holds (C := mkCx tb60) cx_mix cx_name (tb60_ok O) m30n_check
theorem m30s_check : m30s.check (mkCx tb60) 20 6000 30 = true := by decide +kernel
theorem hold_m30s (O : Objs) : m30s.Holds (mkCx tb60) O 20 6000 30 := MLit.holds (C := mkCx tb60) cx_mix cx_name (tb60_ok O) m30s_check
theorem m30t_check : m30t.check (mkCx tb60) 20 6000 30 = true := by decide +kernel
theorem hold_m30t (O : Objs) : m30t.Holds (mkCx tb60) O 20 6000 30 := MLit.holds (C := mkCx tb60) cx_mix cx_name (tb60_ok O) m30t_check
end Go.Proofs.YtbegodiligmphaaGreatDoor.Sy
