/- Part of the proof of BusProof. Closed facts of the row DriveBus, each by the kernel. -/
import Derived.SevenTiedAt
import Derived.Test.YtbegodiligmphaaGreatDoorChecked
import Derived.Test.YtbegodiligmphaaGreatDoorRows
namespace Go.Proofs.YtbegodiligmphaaGreatDoor
open Go
theorem driveBus_F0 : (Rows.driveBusRow.wf (OpenSpec.ofChange Rows.driveBusSpec)) = true := by kernel_rfl
theorem driveBus_F1 : (laidOutB Tryz.prog) = true := by kernel_rfl
theorem driveBus_F2 : (mapsRowed Tryz.prog) = true := by kernel_rfl
theorem driveBus_F3 : (Tryz.f8.params.all (Tryz.prog.readableRec ·)) = true := by kernel_rfl
theorem driveBus_F4 : (namedTie Tryz.prog Rows.driveBusRow.named Rows.driveBusSpec.vars) = true := by kernel_rfl
theorem driveBus_F5 : ((Rows.driveBusRow.stops == [])) = true := by kernel_rfl
theorem driveBus_F6 : ((Tryz.prog.stops == [])) = true := by kernel_rfl
theorem driveBus_F7 : ((Rows.driveBusRow.knobs == [])) = true := by kernel_rfl
theorem driveBus_F8 : ((Tryz.prog.stopKnobs == [])) = true := by kernel_rfl
theorem driveBus_F9 : ((Rows.driveBusRow.inPlace == Tryz.prog.inPlace 8)) = true := by kernel_rfl
theorem driveBus_F10 : ((Rows.driveBusRow.unfollowed == Tryz.prog.unfollowed 8)) = true := by kernel_rfl
theorem driveBus_F11 : ((Rows.driveBusRow.recurses == Tryz.prog.recurses 8)) = true := by kernel_rfl
end Go.Proofs.YtbegodiligmphaaGreatDoor
