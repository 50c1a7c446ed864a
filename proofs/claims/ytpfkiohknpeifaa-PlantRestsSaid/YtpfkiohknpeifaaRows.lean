/-
  No cell of these rows narrows 'for every input' (looked for: loops, veiled, ifaces, maps, wideKeys, modest, calm, conditions, laid).
  DERIVED. THE GIVEN ROWS OF THIS SEAT. 4 by the template 'for every input the law returns true; each argument reads behind the call as it read before'; 0 by the template 'total and deterministic' (their statements: YtpfkiohknpeifaaTotals.lean).
  GIVEN WITH THE SEED: the statements are not yours to turn. If you find one false, say at which input.
  Laid BY PROGRAM, IN A SANDBOX (cutbox-rows.mjs): the forced cells as the released guide's own fill.sh prints them over the translation 3c3318a73c805e2b… (all of the seat's roots in one cut). By AI agents, Wed Nov 11 2026. No macro, syntax, notation, axiom, sorry.
-/
import Derived.Test.YtpfkiohknpeifaaChecked
import GoSem.Claim
import GoSem.ClaimJoined
import GoSem.ClaimMapViews
import Derived.JoinedTies
import Derived.KernelRfl
namespace Go.Proofs.Ytpfkiohknpeifaa
/- THE CELL 'sum', in the pinned program and in every row, IS THE sha256 OF THE DUMP (.gsa) THAT YtpfkiohknpeifaaProg.lean LOADS. Nothing in Lean hashes anything: it is a label: what it is worth is what the hold of that sum in a sandbox is worth. -/
noncomputable def Try.pinned : Pinned := { name := "ytpfkiohknpeifaa", sum := "3c3318a73c805e2b9af17a69414d74f400cd61fe041cb38317ba9dabc54355ed", checked := Try.checked }
namespace Rows
def none {H : Type} : Left H := { results := [], args := [] }

/-- 'commutatorlaw31.PlantFades': WHATEVER THE INPUT: true; the input reads as it did. -/
def plantFadesSpec : ChangeSpec := { name := "plantFades", fn := fun _ => fun
  | [d1, d2, d3] => { results := [.lit (.bool true)], args := [d1, d2, d3] }
  | _ => none }
def plantFadesRow : OpenClaim := { program := "ytpfkiohknpeifaa", sum := "3c3318a73c805e2b9af17a69414d74f400cd61fe041cb38317ba9dabc54355ed", func := "commutator/commutatorlaw31.PlantFades", spec := "plantFades", unfollowed := true, recurses := true, apart := false }
def PlantFadesSaid : Prop := plantFadesRow.holds Try.pinned (OpenSpec.ofChange plantFadesSpec)

/-- ITS FALSE NEIGHBOUR: 'it returns false'. Refute it at one input. -/
def plantFadesWrong : ChangeSpec := { name := "plantFades", fn := fun _ => fun
  | [d1, d2, d3] => { results := [.lit (.bool false)], args := [d1, d2, d3] }
  | _ => none }
def PlantFadesWrongFalsely : Prop := plantFadesRow.holds Try.pinned (OpenSpec.ofChange plantFadesWrong)

/-- 'commutatorlaw31.PlantRests': WHATEVER THE INPUT: true; the input reads as it did. -/
def plantRestsSpec : ChangeSpec := { name := "plantRests", fn := fun _ => fun
  | [d1, d2, d3] => { results := [.lit (.bool true)], args := [d1, d2, d3] }
  | _ => none }
def plantRestsRow : OpenClaim := { program := "ytpfkiohknpeifaa", sum := "3c3318a73c805e2b9af17a69414d74f400cd61fe041cb38317ba9dabc54355ed", func := "commutator/commutatorlaw31.PlantRests", spec := "plantRests", unfollowed := true, recurses := true, apart := false }
def PlantRestsSaid : Prop := plantRestsRow.holds Try.pinned (OpenSpec.ofChange plantRestsSpec)

/-- ITS FALSE NEIGHBOUR: 'it returns false'. Refute it at one input. -/
def plantRestsWrong : ChangeSpec := { name := "plantRests", fn := fun _ => fun
  | [d1, d2, d3] => { results := [.lit (.bool false)], args := [d1, d2, d3] }
  | _ => none }
def PlantRestsWrongFalsely : Prop := plantRestsRow.holds Try.pinned (OpenSpec.ofChange plantRestsWrong)

/-- 'commutatorlaw31.PlantTurns': WHATEVER THE INPUT: true; the input reads as it did. -/
def plantTurnsSpec : ChangeSpec := { name := "plantTurns", fn := fun _ => fun
  | [d1, d2, d3] => { results := [.lit (.bool true)], args := [d1, d2, d3] }
  | _ => none }
def plantTurnsRow : OpenClaim := { program := "ytpfkiohknpeifaa", sum := "3c3318a73c805e2b9af17a69414d74f400cd61fe041cb38317ba9dabc54355ed", func := "commutator/commutatorlaw31.PlantTurns", spec := "plantTurns", unfollowed := true, recurses := true, apart := false }
def PlantTurnsSaid : Prop := plantTurnsRow.holds Try.pinned (OpenSpec.ofChange plantTurnsSpec)

/-- ITS FALSE NEIGHBOUR: 'it returns false'. Refute it at one input. -/
def plantTurnsWrong : ChangeSpec := { name := "plantTurns", fn := fun _ => fun
  | [d1, d2, d3] => { results := [.lit (.bool false)], args := [d1, d2, d3] }
  | _ => none }
def PlantTurnsWrongFalsely : Prop := plantTurnsRow.holds Try.pinned (OpenSpec.ofChange plantTurnsWrong)

/-- 'commutatorlaw31.PlantRises': WHATEVER THE INPUT: true; the input reads as it did. -/
def plantRisesSpec : ChangeSpec := { name := "plantRises", fn := fun _ => fun
  | [d1, d2, d3] => { results := [.lit (.bool true)], args := [d1, d2, d3] }
  | _ => none }
def plantRisesRow : OpenClaim := { program := "ytpfkiohknpeifaa", sum := "3c3318a73c805e2b9af17a69414d74f400cd61fe041cb38317ba9dabc54355ed", func := "commutator/commutatorlaw31.PlantRises", spec := "plantRises", unfollowed := true, recurses := true, apart := false }
def PlantRisesSaid : Prop := plantRisesRow.holds Try.pinned (OpenSpec.ofChange plantRisesSpec)

/-- ITS FALSE NEIGHBOUR: 'it returns false'. Refute it at one input. -/
def plantRisesWrong : ChangeSpec := { name := "plantRises", fn := fun _ => fun
  | [d1, d2, d3] => { results := [.lit (.bool false)], args := [d1, d2, d3] }
  | _ => none }
def PlantRisesWrongFalsely : Prop := plantRisesRow.holds Try.pinned (OpenSpec.ofChange plantRisesWrong)

/- THE SECOND FORM. 'bulk': how many values and letters a reading holds, each counted each time it is reached (what is shared counts as often as it is met; a slice's spare places count too). A statement '..UptoSaid' is the law's where the arguments, and the package variables that the reading takes, are together of bulk at most 1048576: NARROWER than '..Said'. Prove '..Said' where nothing that the law and all that it calls make is longer than what came in: it says more and counts as full. Else prove '..UptoSaid'. A law counts once. -/
mutual
def uptoBulk {H : Type} : DataW H → Nat
  | .lit (.string bytes) => bytes.length + 1
  | .lit _ => 1
  | .nil => 1
  | .ptr d => uptoBulk d + 1
  | .slice elems spare => uptoBulkAll elems + uptoBulkAll spare + 1
  | .agg parts => uptoBulkAll parts + 1
  | .iface _ d => uptoBulk d + 1
  | .map entries => uptoBulkEntries entries + 1
  | .held _ => 1
def uptoBulkAll {H : Type} : List (DataW H) → Nat
  | [] => 0
  | d :: r => uptoBulk d + uptoBulkAll r
def uptoBulkEntries {H : Type} : List (Lit × DataW H) → Nat
  | [] => 0
  | x :: r => uptoBulkEntry x + uptoBulkEntries r
def uptoBulkEntry {H : Type} : Lit × DataW H → Nat
  | (.string bytes, d) => bytes.length + uptoBulk d + 1
  | (_, d) => uptoBulk d + 1
 end
def uptoSmall : (H : Type) → List (DataW H) → Bool := fun _ ds => decide (uptoBulkAll ds ≤ 1048576)
def OpenSpec.upto (s : _root_.Go.ChangeSpec) : _root_.Go.OpenSpec := { _root_.Go.OpenSpec.ofChange s with cond := some uptoSmall }

/-- 'commutatorlaw31.PlantFades', WHERE WHAT IT READS IS OF BULK AT MOST 1048576: true; the input reads as it did. -/
def plantFadesUptoRow : OpenClaim := { program := "ytpfkiohknpeifaa", sum := "3c3318a73c805e2b9af17a69414d74f400cd61fe041cb38317ba9dabc54355ed", func := "commutator/commutatorlaw31.PlantFades", spec := "plantFades", unfollowed := true, recurses := true, apart := false, narrowed := true }
def PlantFadesUptoSaid : Prop := plantFadesUptoRow.holds Try.pinned (OpenSpec.upto plantFadesSpec)

/-- 'commutatorlaw31.PlantRests', WHERE WHAT IT READS IS OF BULK AT MOST 1048576: true; the input reads as it did. -/
def plantRestsUptoRow : OpenClaim := { program := "ytpfkiohknpeifaa", sum := "3c3318a73c805e2b9af17a69414d74f400cd61fe041cb38317ba9dabc54355ed", func := "commutator/commutatorlaw31.PlantRests", spec := "plantRests", unfollowed := true, recurses := true, apart := false, narrowed := true }
def PlantRestsUptoSaid : Prop := plantRestsUptoRow.holds Try.pinned (OpenSpec.upto plantRestsSpec)

/-- 'commutatorlaw31.PlantTurns', WHERE WHAT IT READS IS OF BULK AT MOST 1048576: true; the input reads as it did. -/
def plantTurnsUptoRow : OpenClaim := { program := "ytpfkiohknpeifaa", sum := "3c3318a73c805e2b9af17a69414d74f400cd61fe041cb38317ba9dabc54355ed", func := "commutator/commutatorlaw31.PlantTurns", spec := "plantTurns", unfollowed := true, recurses := true, apart := false, narrowed := true }
def PlantTurnsUptoSaid : Prop := plantTurnsUptoRow.holds Try.pinned (OpenSpec.upto plantTurnsSpec)

/-- 'commutatorlaw31.PlantRises', WHERE WHAT IT READS IS OF BULK AT MOST 1048576: true; the input reads as it did. -/
def plantRisesUptoRow : OpenClaim := { program := "ytpfkiohknpeifaa", sum := "3c3318a73c805e2b9af17a69414d74f400cd61fe041cb38317ba9dabc54355ed", func := "commutator/commutatorlaw31.PlantRises", spec := "plantRises", unfollowed := true, recurses := true, apart := false, narrowed := true }
def PlantRisesUptoSaid : Prop := plantRisesUptoRow.holds Try.pinned (OpenSpec.upto plantRisesSpec)

end Rows
end Go.Proofs.Ytpfkiohknpeifaa
