/- Part of the proof of BusProof. Closed facts of the row DriveBus, each by the kernel. -/
import Derived.SevenTiedAt
import Derived.Test.YtbegodiligmphaaGreatDoorChecked
import Derived.Test.YtbegodiligmphaaGreatDoorRows
namespace Go.Proofs.YtbegodiligmphaaGreatDoor
open Go
theorem driveBus_F12 : ((Rows.driveBusRow.named == Tryz.prog.varsNamed 8)) = true := by kernel_rfl
theorem driveBus_F13 : ((Rows.driveBusRow.maps == (Tryz.f8.params.toList ++ Rows.driveBusSpec.plain.varTypes Tryz.prog).any (Tryz.prog.mapsRec ·))) = true := by kernel_rfl
theorem driveBus_F14 : ((Rows.driveBusRow.ifaces == (Tryz.f8.params.toList ++ Rows.driveBusSpec.plain.varTypes Tryz.prog).any (Tryz.prog.ifacesRec ·))) = true := by kernel_rfl
theorem driveBus_F15 : ((Rows.driveBusRow.mapsOut == Tryz.prog.mapsAmong Tryz.f8.resultTypes.toList)) = true := by kernel_rfl
theorem driveBus_F16 : ((Rows.driveBusRow.loops == (Tryz.f8.params.toList ++ Rows.driveBusSpec.plain.varTypes Tryz.prog).any (Tryz.prog.loopsFrom ·))) = true := by kernel_rfl
theorem driveBus_F17 : ((Rows.driveBusRow.wideKeys == (Tryz.f8.params.toList ++ Rows.driveBusSpec.plain.varTypes Tryz.prog ++ Tryz.f8.resultTypes.toList).any (Tryz.prog.wideKeysFrom ·))) = true := by kernel_rfl
theorem driveBus_F18 : (Rows.driveBusSpec.vars.all (Tryz.prog.varReadable ·)) = true := by kernel_rfl
theorem driveBus_F19 : (Tryz.f8.resultTypes.all (fun t=>Tryz.prog.readableRec t && decide (t < Tryz.prog.types.size))) = true := by kernel_rfl
theorem driveBus_F20 : ((Rows.driveBusRow.ifacesOut == Tryz.f8.resultTypes.toList.any (Tryz.prog.ifacesRec ·))) = true := by kernel_rfl
theorem driveBus_F21 : ((Rows.driveBusRow.loopsOut == Tryz.f8.resultTypes.toList.any (Tryz.prog.loopsFrom ·))) = true := by kernel_rfl
theorem driveBus_F22 : ((Rows.driveBusRow.plainKeys == Tryz.prog.plainKeys)) = true := by kernel_rfl
theorem driveBus_F23 : (Rows.driveBusRow.shortTexts.isNone) = true := by kernel_rfl
theorem driveBus_F24 : (Tryz.prog.stopsHeard) = true := by kernel_rfl
theorem driveBus_F25 : (Tryz.prog.mayEnter) = true := by kernel_rfl
theorem driveBus_F26 : ((Rows.driveBusRow.lifted == Tryz.prog.liftsFinal)) = true := by kernel_rfl
theorem driveBus_F27 : ((Tryz.prog.make == some Rows.driveBusRow.make)) = true := by kernel_rfl
theorem driveBus_F29 : ((Rows.driveBusRow.pinned == Rows.driveBusRow.pinnedBy)) = true := by kernel_rfl
theorem driveBus_F30 : ((Rows.driveBusRow.veiled == (Tryz.f8.params.toList ++ Rows.driveBusSpec.plain.varTypes Tryz.prog ++ Tryz.f8.resultTypes.toList).any (Tryz.prog.veiledRec ·))) = true := by kernel_rfl
theorem driveBus_F31 : (Rows.driveBusRow.veiledFits Tryz.prog Tryz.f8.params.toList (Tryz.f8.params.toList ++ Rows.driveBusSpec.plain.varTypes Tryz.prog ++ Tryz.f8.resultTypes.toList)) = true := by kernel_rfl
theorem driveBus_fn : Tryz.prog.funcNamed "commutator/commutatorlaw58.DriveBus" = some 8 := by kernel_rfl
theorem driveBus_wft : Rows.driveBusRow.wfByText (OpenSpec.ofChange Rows.driveBusSpec) = true := by kernel_rfl
theorem driveBus_main : Tryz.prog.mainIs = some ((true,"dd880b5c2480c704d62e73ef35ba69c7d75ea1272b4fe6e3683ff66b59a2e9aa").1,(true,"dd880b5c2480c704d62e73ef35ba69c7d75ea1272b4fe6e3683ff66b59a2e9aa").2.toList) := by kernel_rfl
theorem driveBus_looks : true = Tryz.prog.looks [] := by kernel_rfl
theorem driveBus_goes : false = Rows.driveBusRow.goesBy Tryz.prog := by kernel_rfl
end Go.Proofs.YtbegodiligmphaaGreatDoor
