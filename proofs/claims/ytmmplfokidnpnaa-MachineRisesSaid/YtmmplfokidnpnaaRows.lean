/-
  No cell of these rows narrows 'for every input' (looked for: loops, veiled, ifaces, maps, wideKeys, modest, calm, conditions, laid).
  DERIVED. THE GIVEN ROWS OF THIS SEAT. 9 by the template 'for every input the law returns true; each argument reads behind the call as it read before'; 0 by the template 'total and deterministic' (their statements: YtmmplfokidnpnaaTotals.lean).
  GIVEN WITH THE SEED: the statements are not yours to turn. If you find one false, say at which input.
  Laid BY PROGRAM, IN A SANDBOX (cutbox-rows.mjs): the forced cells as the released guide's own fill.sh prints them over the translation 261c47626599dc0f… (all of the seat's roots in one cut). By AI agents, Wed Nov 11 2026. No macro, syntax, notation, axiom, sorry.
-/
import Derived.Test.YtmmplfokidnpnaaChecked
import GoSem.Claim
import GoSem.ClaimJoined
import GoSem.ClaimMapViews
import Derived.JoinedTies
import Derived.KernelRfl
namespace Go.Proofs.Ytmmplfokidnpnaa
/- THE CELL 'sum', in the pinned program and in every row, IS THE sha256 OF THE DUMP (.gsa) THAT YtmmplfokidnpnaaProg.lean LOADS. Nothing in Lean hashes anything: it is a label: what it is worth is what the hold of that sum in a sandbox is worth. -/
noncomputable def Try.pinned : Pinned := { name := "ytmmplfokidnpnaa", sum := "261c47626599dc0f34ed5b7b4263c5f1fd68fcb7aca5b3f4ef60b3861b8064ae", checked := Try.checked }
namespace Rows
def none {H : Type} : Left H := { results := [], args := [] }

/-- 'commutatorlaw26.MachineChecks': WHATEVER THE INPUT: true; the input reads as it did. -/
def machineChecksSpec : ChangeSpec := { name := "machineChecks", fn := fun _ => fun
  | [d] => { results := [.lit (.bool true)], args := [d] }
  | _ => none }
def machineChecksRow : OpenClaim := { program := "ytmmplfokidnpnaa", sum := "261c47626599dc0f34ed5b7b4263c5f1fd68fcb7aca5b3f4ef60b3861b8064ae", func := "commutator/commutatorlaw26.MachineChecks", spec := "machineChecks", unfollowed := true, recurses := true, apart := false }
def MachineChecksSaid : Prop := machineChecksRow.holds Try.pinned (OpenSpec.ofChange machineChecksSpec)

/-- ITS FALSE NEIGHBOUR: 'it returns false'. Refute it at one input. -/
def machineChecksWrong : ChangeSpec := { name := "machineChecks", fn := fun _ => fun
  | [d] => { results := [.lit (.bool false)], args := [d] }
  | _ => none }
def MachineChecksWrongFalsely : Prop := machineChecksRow.holds Try.pinned (OpenSpec.ofChange machineChecksWrong)

/-- 'commutatorlaw26.MachineCurrents': WHATEVER THE INPUT: true; the input reads as it did. -/
def machineCurrentsSpec : ChangeSpec := { name := "machineCurrents", fn := fun _ => fun
  | [d1, d2] => { results := [.lit (.bool true)], args := [d1, d2] }
  | _ => none }
def machineCurrentsRow : OpenClaim := { program := "ytmmplfokidnpnaa", sum := "261c47626599dc0f34ed5b7b4263c5f1fd68fcb7aca5b3f4ef60b3861b8064ae", func := "commutator/commutatorlaw26.MachineCurrents", spec := "machineCurrents", unfollowed := true, recurses := true, apart := false }
def MachineCurrentsSaid : Prop := machineCurrentsRow.holds Try.pinned (OpenSpec.ofChange machineCurrentsSpec)

/-- ITS FALSE NEIGHBOUR: 'it returns false'. Refute it at one input. -/
def machineCurrentsWrong : ChangeSpec := { name := "machineCurrents", fn := fun _ => fun
  | [d1, d2] => { results := [.lit (.bool false)], args := [d1, d2] }
  | _ => none }
def MachineCurrentsWrongFalsely : Prop := machineCurrentsRow.holds Try.pinned (OpenSpec.ofChange machineCurrentsWrong)

/-- 'commutatorlaw26.MachineSteps': WHATEVER THE INPUT: true; the input reads as it did. -/
def machineStepsSpec : ChangeSpec := { name := "machineSteps", fn := fun _ => fun
  | [d1, d2, d3] => { results := [.lit (.bool true)], args := [d1, d2, d3] }
  | _ => none }
def machineStepsRow : OpenClaim := { program := "ytmmplfokidnpnaa", sum := "261c47626599dc0f34ed5b7b4263c5f1fd68fcb7aca5b3f4ef60b3861b8064ae", func := "commutator/commutatorlaw26.MachineSteps", spec := "machineSteps", unfollowed := true, recurses := true, apart := false }
def MachineStepsSaid : Prop := machineStepsRow.holds Try.pinned (OpenSpec.ofChange machineStepsSpec)

/-- ITS FALSE NEIGHBOUR: 'it returns false'. Refute it at one input. -/
def machineStepsWrong : ChangeSpec := { name := "machineSteps", fn := fun _ => fun
  | [d1, d2, d3] => { results := [.lit (.bool false)], args := [d1, d2, d3] }
  | _ => none }
def MachineStepsWrongFalsely : Prop := machineStepsRow.holds Try.pinned (OpenSpec.ofChange machineStepsWrong)

/-- 'commutatorlaw26.MachineStill': WHATEVER THE INPUT: true; the input reads as it did. -/
def machineStillSpec : ChangeSpec := { name := "machineStill", fn := fun _ => fun
  | [d1, d2, d3] => { results := [.lit (.bool true)], args := [d1, d2, d3] }
  | _ => none }
def machineStillRow : OpenClaim := { program := "ytmmplfokidnpnaa", sum := "261c47626599dc0f34ed5b7b4263c5f1fd68fcb7aca5b3f4ef60b3861b8064ae", func := "commutator/commutatorlaw26.MachineStill", spec := "machineStill", unfollowed := true, recurses := true, apart := false }
def MachineStillSaid : Prop := machineStillRow.holds Try.pinned (OpenSpec.ofChange machineStillSpec)

/-- ITS FALSE NEIGHBOUR: 'it returns false'. Refute it at one input. -/
def machineStillWrong : ChangeSpec := { name := "machineStill", fn := fun _ => fun
  | [d1, d2, d3] => { results := [.lit (.bool false)], args := [d1, d2, d3] }
  | _ => none }
def MachineStillWrongFalsely : Prop := machineStillRow.holds Try.pinned (OpenSpec.ofChange machineStillWrong)

/-- 'commutatorlaw26.MachinePhases': WHATEVER THE INPUT: true; the input reads as it did. -/
def machinePhasesSpec : ChangeSpec := { name := "machinePhases", fn := fun _ => fun
  | [d1, d2, d3] => { results := [.lit (.bool true)], args := [d1, d2, d3] }
  | _ => none }
def machinePhasesRow : OpenClaim := { program := "ytmmplfokidnpnaa", sum := "261c47626599dc0f34ed5b7b4263c5f1fd68fcb7aca5b3f4ef60b3861b8064ae", func := "commutator/commutatorlaw26.MachinePhases", spec := "machinePhases", unfollowed := true, recurses := true, apart := false }
def MachinePhasesSaid : Prop := machinePhasesRow.holds Try.pinned (OpenSpec.ofChange machinePhasesSpec)

/-- ITS FALSE NEIGHBOUR: 'it returns false'. Refute it at one input. -/
def machinePhasesWrong : ChangeSpec := { name := "machinePhases", fn := fun _ => fun
  | [d1, d2, d3] => { results := [.lit (.bool false)], args := [d1, d2, d3] }
  | _ => none }
def MachinePhasesWrongFalsely : Prop := machinePhasesRow.holds Try.pinned (OpenSpec.ofChange machinePhasesWrong)

/-- 'commutatorlaw26.MachineOff': WHATEVER THE INPUT: true; the input reads as it did. -/
def machineOffSpec : ChangeSpec := { name := "machineOff", fn := fun _ => fun
  | [d1, d2] => { results := [.lit (.bool true)], args := [d1, d2] }
  | _ => none }
def machineOffRow : OpenClaim := { program := "ytmmplfokidnpnaa", sum := "261c47626599dc0f34ed5b7b4263c5f1fd68fcb7aca5b3f4ef60b3861b8064ae", func := "commutator/commutatorlaw26.MachineOff", spec := "machineOff", unfollowed := true, recurses := true, apart := false }
def MachineOffSaid : Prop := machineOffRow.holds Try.pinned (OpenSpec.ofChange machineOffSpec)

/-- ITS FALSE NEIGHBOUR: 'it returns false'. Refute it at one input. -/
def machineOffWrong : ChangeSpec := { name := "machineOff", fn := fun _ => fun
  | [d1, d2] => { results := [.lit (.bool false)], args := [d1, d2] }
  | _ => none }
def MachineOffWrongFalsely : Prop := machineOffRow.holds Try.pinned (OpenSpec.ofChange machineOffWrong)

/-- 'commutatorlaw26.MachineFades': WHATEVER THE INPUT: true; the input reads as it did. -/
def machineFadesSpec : ChangeSpec := { name := "machineFades", fn := fun _ => fun
  | [d1, d2, d3] => { results := [.lit (.bool true)], args := [d1, d2, d3] }
  | _ => none }
def machineFadesRow : OpenClaim := { program := "ytmmplfokidnpnaa", sum := "261c47626599dc0f34ed5b7b4263c5f1fd68fcb7aca5b3f4ef60b3861b8064ae", func := "commutator/commutatorlaw26.MachineFades", spec := "machineFades", unfollowed := true, recurses := true, apart := false }
def MachineFadesSaid : Prop := machineFadesRow.holds Try.pinned (OpenSpec.ofChange machineFadesSpec)

/-- ITS FALSE NEIGHBOUR: 'it returns false'. Refute it at one input. -/
def machineFadesWrong : ChangeSpec := { name := "machineFades", fn := fun _ => fun
  | [d1, d2, d3] => { results := [.lit (.bool false)], args := [d1, d2, d3] }
  | _ => none }
def MachineFadesWrongFalsely : Prop := machineFadesRow.holds Try.pinned (OpenSpec.ofChange machineFadesWrong)

/-- 'commutatorlaw26.MachineRise': WHATEVER THE INPUT: true; the input reads as it did. -/
def machineRiseSpec : ChangeSpec := { name := "machineRise", fn := fun _ => fun
  | [d1, d2] => { results := [.lit (.bool true)], args := [d1, d2] }
  | _ => none }
def machineRiseRow : OpenClaim := { program := "ytmmplfokidnpnaa", sum := "261c47626599dc0f34ed5b7b4263c5f1fd68fcb7aca5b3f4ef60b3861b8064ae", func := "commutator/commutatorlaw26.MachineRise", spec := "machineRise", unfollowed := true, recurses := true, apart := false }
def MachineRiseSaid : Prop := machineRiseRow.holds Try.pinned (OpenSpec.ofChange machineRiseSpec)

/-- ITS FALSE NEIGHBOUR: 'it returns false'. Refute it at one input. -/
def machineRiseWrong : ChangeSpec := { name := "machineRise", fn := fun _ => fun
  | [d1, d2] => { results := [.lit (.bool false)], args := [d1, d2] }
  | _ => none }
def MachineRiseWrongFalsely : Prop := machineRiseRow.holds Try.pinned (OpenSpec.ofChange machineRiseWrong)

/-- 'commutatorlaw26.MachineRises': WHATEVER THE INPUT: true; the input reads as it did. -/
def machineRisesSpec : ChangeSpec := { name := "machineRises", fn := fun _ => fun
  | [d1, d2, d3] => { results := [.lit (.bool true)], args := [d1, d2, d3] }
  | _ => none }
def machineRisesRow : OpenClaim := { program := "ytmmplfokidnpnaa", sum := "261c47626599dc0f34ed5b7b4263c5f1fd68fcb7aca5b3f4ef60b3861b8064ae", func := "commutator/commutatorlaw26.MachineRises", spec := "machineRises", unfollowed := true, recurses := true, apart := false }
def MachineRisesSaid : Prop := machineRisesRow.holds Try.pinned (OpenSpec.ofChange machineRisesSpec)

/-- ITS FALSE NEIGHBOUR: 'it returns false'. Refute it at one input. -/
def machineRisesWrong : ChangeSpec := { name := "machineRises", fn := fun _ => fun
  | [d1, d2, d3] => { results := [.lit (.bool false)], args := [d1, d2, d3] }
  | _ => none }
def MachineRisesWrongFalsely : Prop := machineRisesRow.holds Try.pinned (OpenSpec.ofChange machineRisesWrong)

/- THE SECOND FORM. 'bulk': how many values and letters a reading holds, each counted each time it is reached (what is shared counts as often as it is met; a slice's spare places count too). A statement '..UptoSaid' is the law's where the arguments, and the package variables that the reading takes, are together of bulk at most 1048576: NARROWER than '..Said'. Prove '..Said' where nothing that the law and all that it calls make is longer than what came in: it says more and counts as full. Else prove '..UptoSaid'. A law counts once. -/
mutual
def uptoBulk {H : Type} : DataW H → Nat
  | .lit (.string bytes) => bytes.length + 1
  | .lit _ => 1
  | .nil => 1
  | .ptr d => uptoBulk d + 1
  | .slice elems spare => uptoBulkAll elems + uptoBulkAll spare + 1
  | .agg parts => uptoBulkAll parts + 1
  | .iface _ d => uptoBulk d + 1
  | .map entries => uptoBulkEntries entries + 1
  | .held _ => 1
def uptoBulkAll {H : Type} : List (DataW H) → Nat
  | [] => 0
  | d :: r => uptoBulk d + uptoBulkAll r
def uptoBulkEntries {H : Type} : List (Lit × DataW H) → Nat
  | [] => 0
  | x :: r => uptoBulkEntry x + uptoBulkEntries r
def uptoBulkEntry {H : Type} : Lit × DataW H → Nat
  | (.string bytes, d) => bytes.length + uptoBulk d + 1
  | (_, d) => uptoBulk d + 1
 end
def uptoSmall : (H : Type) → List (DataW H) → Bool := fun _ ds => decide (uptoBulkAll ds ≤ 1048576)
def OpenSpec.upto (s : _root_.Go.ChangeSpec) : _root_.Go.OpenSpec := { _root_.Go.OpenSpec.ofChange s with cond := some uptoSmall }

/-- 'commutatorlaw26.MachineChecks', WHERE WHAT IT READS IS OF BULK AT MOST 1048576: true; the input reads as it did. -/
def machineChecksUptoRow : OpenClaim := { program := "ytmmplfokidnpnaa", sum := "261c47626599dc0f34ed5b7b4263c5f1fd68fcb7aca5b3f4ef60b3861b8064ae", func := "commutator/commutatorlaw26.MachineChecks", spec := "machineChecks", unfollowed := true, recurses := true, apart := false, narrowed := true }
def MachineChecksUptoSaid : Prop := machineChecksUptoRow.holds Try.pinned (OpenSpec.upto machineChecksSpec)

/-- 'commutatorlaw26.MachineCurrents', WHERE WHAT IT READS IS OF BULK AT MOST 1048576: true; the input reads as it did. -/
def machineCurrentsUptoRow : OpenClaim := { program := "ytmmplfokidnpnaa", sum := "261c47626599dc0f34ed5b7b4263c5f1fd68fcb7aca5b3f4ef60b3861b8064ae", func := "commutator/commutatorlaw26.MachineCurrents", spec := "machineCurrents", unfollowed := true, recurses := true, apart := false, narrowed := true }
def MachineCurrentsUptoSaid : Prop := machineCurrentsUptoRow.holds Try.pinned (OpenSpec.upto machineCurrentsSpec)

/-- 'commutatorlaw26.MachineSteps', WHERE WHAT IT READS IS OF BULK AT MOST 1048576: true; the input reads as it did. -/
def machineStepsUptoRow : OpenClaim := { program := "ytmmplfokidnpnaa", sum := "261c47626599dc0f34ed5b7b4263c5f1fd68fcb7aca5b3f4ef60b3861b8064ae", func := "commutator/commutatorlaw26.MachineSteps", spec := "machineSteps", unfollowed := true, recurses := true, apart := false, narrowed := true }
def MachineStepsUptoSaid : Prop := machineStepsUptoRow.holds Try.pinned (OpenSpec.upto machineStepsSpec)

/-- 'commutatorlaw26.MachineStill', WHERE WHAT IT READS IS OF BULK AT MOST 1048576: true; the input reads as it did. -/
def machineStillUptoRow : OpenClaim := { program := "ytmmplfokidnpnaa", sum := "261c47626599dc0f34ed5b7b4263c5f1fd68fcb7aca5b3f4ef60b3861b8064ae", func := "commutator/commutatorlaw26.MachineStill", spec := "machineStill", unfollowed := true, recurses := true, apart := false, narrowed := true }
def MachineStillUptoSaid : Prop := machineStillUptoRow.holds Try.pinned (OpenSpec.upto machineStillSpec)

/-- 'commutatorlaw26.MachinePhases', WHERE WHAT IT READS IS OF BULK AT MOST 1048576: true; the input reads as it did. -/
def machinePhasesUptoRow : OpenClaim := { program := "ytmmplfokidnpnaa", sum := "261c47626599dc0f34ed5b7b4263c5f1fd68fcb7aca5b3f4ef60b3861b8064ae", func := "commutator/commutatorlaw26.MachinePhases", spec := "machinePhases", unfollowed := true, recurses := true, apart := false, narrowed := true }
def MachinePhasesUptoSaid : Prop := machinePhasesUptoRow.holds Try.pinned (OpenSpec.upto machinePhasesSpec)

/-- 'commutatorlaw26.MachineOff', WHERE WHAT IT READS IS OF BULK AT MOST 1048576: true; the input reads as it did. -/
def machineOffUptoRow : OpenClaim := { program := "ytmmplfokidnpnaa", sum := "261c47626599dc0f34ed5b7b4263c5f1fd68fcb7aca5b3f4ef60b3861b8064ae", func := "commutator/commutatorlaw26.MachineOff", spec := "machineOff", unfollowed := true, recurses := true, apart := false, narrowed := true }
def MachineOffUptoSaid : Prop := machineOffUptoRow.holds Try.pinned (OpenSpec.upto machineOffSpec)

/-- 'commutatorlaw26.MachineFades', WHERE WHAT IT READS IS OF BULK AT MOST 1048576: true; the input reads as it did. -/
def machineFadesUptoRow : OpenClaim := { program := "ytmmplfokidnpnaa", sum := "261c47626599dc0f34ed5b7b4263c5f1fd68fcb7aca5b3f4ef60b3861b8064ae", func := "commutator/commutatorlaw26.MachineFades", spec := "machineFades", unfollowed := true, recurses := true, apart := false, narrowed := true }
def MachineFadesUptoSaid : Prop := machineFadesUptoRow.holds Try.pinned (OpenSpec.upto machineFadesSpec)

/-- 'commutatorlaw26.MachineRise', WHERE WHAT IT READS IS OF BULK AT MOST 1048576: true; the input reads as it did. -/
def machineRiseUptoRow : OpenClaim := { program := "ytmmplfokidnpnaa", sum := "261c47626599dc0f34ed5b7b4263c5f1fd68fcb7aca5b3f4ef60b3861b8064ae", func := "commutator/commutatorlaw26.MachineRise", spec := "machineRise", unfollowed := true, recurses := true, apart := false, narrowed := true }
def MachineRiseUptoSaid : Prop := machineRiseUptoRow.holds Try.pinned (OpenSpec.upto machineRiseSpec)

/-- 'commutatorlaw26.MachineRises', WHERE WHAT IT READS IS OF BULK AT MOST 1048576: true; the input reads as it did. -/
def machineRisesUptoRow : OpenClaim := { program := "ytmmplfokidnpnaa", sum := "261c47626599dc0f34ed5b7b4263c5f1fd68fcb7aca5b3f4ef60b3861b8064ae", func := "commutator/commutatorlaw26.MachineRises", spec := "machineRises", unfollowed := true, recurses := true, apart := false, narrowed := true }
def MachineRisesUptoSaid : Prop := machineRisesUptoRow.holds Try.pinned (OpenSpec.upto machineRisesSpec)

end Rows
end Go.Proofs.Ytmmplfokidnpnaa
