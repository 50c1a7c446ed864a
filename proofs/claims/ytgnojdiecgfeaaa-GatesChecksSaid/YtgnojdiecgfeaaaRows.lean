/-
  No cell of these rows narrows 'for every input' (looked for: loops, veiled, ifaces, maps, wideKeys, modest, calm, conditions, laid).
  DERIVED. THE GIVEN ROWS OF THIS SEAT. 16 by the template 'for every input the law returns true; each argument reads behind the call as it read before'; 0 by the template 'total and deterministic' (their statements: YtgnojdiecgfeaaaTotals.lean).
  GIVEN WITH THE SEED: the statements are not yours to turn. If you find one false, say at which input.
  Laid BY PROGRAM, IN A SANDBOX (cutbox-rows.mjs): the forced cells as the released guide's own fill.sh prints them over the translation d695be1d96fa326c… (all of the seat's roots in one cut). By AI agents, Wed Nov 11 2026. No macro, syntax, notation, axiom, sorry.
-/
import Derived.Test.YtgnojdiecgfeaaaChecked
import GoSem.Claim
import GoSem.ClaimJoined
import GoSem.ClaimMapViews
import Derived.JoinedTies
import Derived.KernelRfl
namespace Go.Proofs.Ytgnojdiecgfeaaa
/- THE CELL 'sum', in the pinned program and in every row, IS THE sha256 OF THE DUMP (.gsa) THAT YtgnojdiecgfeaaaProg.lean LOADS. Nothing in Lean hashes anything: it is a label: what it is worth is what the hold of that sum in a sandbox is worth. -/
noncomputable def Try.pinned : Pinned := { name := "ytgnojdiecgfeaaa", sum := "d695be1d96fa326c3b7c8cdf57e2ca9d0be78b25bb3c6b2feff9f85295e5b2af", checked := Try.checked }
namespace Rows
def none {H : Type} : Left H := { results := [], args := [] }

/-- 'commutatorlaw27.InverterDraws': WHATEVER THE INPUT: true; the input reads as it did. -/
def inverterDrawsSpec : ChangeSpec := { name := "inverterDraws", fn := fun _ => fun
  | [d1, d2] => { results := [.lit (.bool true)], args := [d1, d2] }
  | _ => none }
def inverterDrawsRow : OpenClaim := { program := "ytgnojdiecgfeaaa", sum := "d695be1d96fa326c3b7c8cdf57e2ca9d0be78b25bb3c6b2feff9f85295e5b2af", func := "commutator/commutatorlaw27.InverterDraws", spec := "inverterDraws", apart := false }
def InverterDrawsSaid : Prop := inverterDrawsRow.holds Try.pinned (OpenSpec.ofChange inverterDrawsSpec)

/-- ITS FALSE NEIGHBOUR: 'it returns false'. Refute it at one input. -/
def inverterDrawsWrong : ChangeSpec := { name := "inverterDraws", fn := fun _ => fun
  | [d1, d2] => { results := [.lit (.bool false)], args := [d1, d2] }
  | _ => none }
def InverterDrawsWrongFalsely : Prop := inverterDrawsRow.holds Try.pinned (OpenSpec.ofChange inverterDrawsWrong)

/-- 'commutatorlaw27.InverterMirrors': WHATEVER THE INPUT: true; the input reads as it did. -/
def inverterMirrorsSpec : ChangeSpec := { name := "inverterMirrors", fn := fun _ => fun
  | [d1, d2] => { results := [.lit (.bool true)], args := [d1, d2] }
  | _ => none }
def inverterMirrorsRow : OpenClaim := { program := "ytgnojdiecgfeaaa", sum := "d695be1d96fa326c3b7c8cdf57e2ca9d0be78b25bb3c6b2feff9f85295e5b2af", func := "commutator/commutatorlaw27.InverterMirrors", spec := "inverterMirrors", apart := false }
def InverterMirrorsSaid : Prop := inverterMirrorsRow.holds Try.pinned (OpenSpec.ofChange inverterMirrorsSpec)

/-- ITS FALSE NEIGHBOUR: 'it returns false'. Refute it at one input. -/
def inverterMirrorsWrong : ChangeSpec := { name := "inverterMirrors", fn := fun _ => fun
  | [d1, d2] => { results := [.lit (.bool false)], args := [d1, d2] }
  | _ => none }
def InverterMirrorsWrongFalsely : Prop := inverterMirrorsRow.holds Try.pinned (OpenSpec.ofChange inverterMirrorsWrong)

/-- 'commutatorlaw27.InverterChecks': WHATEVER THE INPUT: true; the input reads as it did. -/
def inverterChecksSpec : ChangeSpec := { name := "inverterChecks", fn := fun _ => fun
  | [d] => { results := [.lit (.bool true)], args := [d] }
  | _ => none }
def inverterChecksRow : OpenClaim := { program := "ytgnojdiecgfeaaa", sum := "d695be1d96fa326c3b7c8cdf57e2ca9d0be78b25bb3c6b2feff9f85295e5b2af", func := "commutator/commutatorlaw27.InverterChecks", spec := "inverterChecks", apart := false }
def InverterChecksSaid : Prop := inverterChecksRow.holds Try.pinned (OpenSpec.ofChange inverterChecksSpec)

/-- ITS FALSE NEIGHBOUR: 'it returns false'. Refute it at one input. -/
def inverterChecksWrong : ChangeSpec := { name := "inverterChecks", fn := fun _ => fun
  | [d] => { results := [.lit (.bool false)], args := [d] }
  | _ => none }
def InverterChecksWrongFalsely : Prop := inverterChecksRow.holds Try.pinned (OpenSpec.ofChange inverterChecksWrong)

/-- 'commutatorlaw27.InverterReturns': WHATEVER THE INPUT: true; the input reads as it did. -/
def inverterReturnsSpec : ChangeSpec := { name := "inverterReturns", fn := fun _ => fun
  | [d1, d2, d3] => { results := [.lit (.bool true)], args := [d1, d2, d3] }
  | _ => none }
def inverterReturnsRow : OpenClaim := { program := "ytgnojdiecgfeaaa", sum := "d695be1d96fa326c3b7c8cdf57e2ca9d0be78b25bb3c6b2feff9f85295e5b2af", func := "commutator/commutatorlaw27.InverterReturns", spec := "inverterReturns", unfollowed := true, recurses := true, apart := false }
def InverterReturnsSaid : Prop := inverterReturnsRow.holds Try.pinned (OpenSpec.ofChange inverterReturnsSpec)

/-- ITS FALSE NEIGHBOUR: 'it returns false'. Refute it at one input. -/
def inverterReturnsWrong : ChangeSpec := { name := "inverterReturns", fn := fun _ => fun
  | [d1, d2, d3] => { results := [.lit (.bool false)], args := [d1, d2, d3] }
  | _ => none }
def InverterReturnsWrongFalsely : Prop := inverterReturnsRow.holds Try.pinned (OpenSpec.ofChange inverterReturnsWrong)

/-- 'commutatorlaw24.GatesRun': WHATEVER THE INPUT: true; the input reads as it did. -/
def gatesRunSpec : ChangeSpec := { name := "gatesRun", fn := fun _ => fun
  | [d1, d2] => { results := [.lit (.bool true)], args := [d1, d2] }
  | _ => none }
def gatesRunRow : OpenClaim := { program := "ytgnojdiecgfeaaa", sum := "d695be1d96fa326c3b7c8cdf57e2ca9d0be78b25bb3c6b2feff9f85295e5b2af", func := "commutator/commutatorlaw24.GatesRun", spec := "gatesRun", apart := false }
def GatesRunSaid : Prop := gatesRunRow.holds Try.pinned (OpenSpec.ofChange gatesRunSpec)

/-- ITS FALSE NEIGHBOUR: 'it returns false'. Refute it at one input. -/
def gatesRunWrong : ChangeSpec := { name := "gatesRun", fn := fun _ => fun
  | [d1, d2] => { results := [.lit (.bool false)], args := [d1, d2] }
  | _ => none }
def GatesRunWrongFalsely : Prop := gatesRunRow.holds Try.pinned (OpenSpec.ofChange gatesRunWrong)

/-- 'commutatorlaw24.GatesTrips': WHATEVER THE INPUT: true; the input reads as it did. -/
def gatesTripsSpec : ChangeSpec := { name := "gatesTrips", fn := fun _ => fun
  | [d1, d2] => { results := [.lit (.bool true)], args := [d1, d2] }
  | _ => none }
def gatesTripsRow : OpenClaim := { program := "ytgnojdiecgfeaaa", sum := "d695be1d96fa326c3b7c8cdf57e2ca9d0be78b25bb3c6b2feff9f85295e5b2af", func := "commutator/commutatorlaw24.GatesTrips", spec := "gatesTrips", apart := false }
def GatesTripsSaid : Prop := gatesTripsRow.holds Try.pinned (OpenSpec.ofChange gatesTripsSpec)

/-- ITS FALSE NEIGHBOUR: 'it returns false'. Refute it at one input. -/
def gatesTripsWrong : ChangeSpec := { name := "gatesTrips", fn := fun _ => fun
  | [d1, d2] => { results := [.lit (.bool false)], args := [d1, d2] }
  | _ => none }
def GatesTripsWrongFalsely : Prop := gatesTripsRow.holds Try.pinned (OpenSpec.ofChange gatesTripsWrong)

/-- 'commutatorlaw24.GatesWants': WHATEVER THE INPUT: true; the input reads as it did. -/
def gatesWantsSpec : ChangeSpec := { name := "gatesWants", fn := fun _ => fun
  | [d1, d2] => { results := [.lit (.bool true)], args := [d1, d2] }
  | _ => none }
def gatesWantsRow : OpenClaim := { program := "ytgnojdiecgfeaaa", sum := "d695be1d96fa326c3b7c8cdf57e2ca9d0be78b25bb3c6b2feff9f85295e5b2af", func := "commutator/commutatorlaw24.GatesWants", spec := "gatesWants", apart := false }
def GatesWantsSaid : Prop := gatesWantsRow.holds Try.pinned (OpenSpec.ofChange gatesWantsSpec)

/-- ITS FALSE NEIGHBOUR: 'it returns false'. Refute it at one input. -/
def gatesWantsWrong : ChangeSpec := { name := "gatesWants", fn := fun _ => fun
  | [d1, d2] => { results := [.lit (.bool false)], args := [d1, d2] }
  | _ => none }
def GatesWantsWrongFalsely : Prop := gatesWantsRow.holds Try.pinned (OpenSpec.ofChange gatesWantsWrong)

/-- 'commutatorlaw24.GatesLosses': WHATEVER THE INPUT: true; the input reads as it did. -/
def gatesLossesSpec : ChangeSpec := { name := "gatesLosses", fn := fun _ => fun
  | [d1, d2, d3] => { results := [.lit (.bool true)], args := [d1, d2, d3] }
  | _ => none }
def gatesLossesRow : OpenClaim := { program := "ytgnojdiecgfeaaa", sum := "d695be1d96fa326c3b7c8cdf57e2ca9d0be78b25bb3c6b2feff9f85295e5b2af", func := "commutator/commutatorlaw24.GatesLosses", spec := "gatesLosses", apart := false }
def GatesLossesSaid : Prop := gatesLossesRow.holds Try.pinned (OpenSpec.ofChange gatesLossesSpec)

/-- ITS FALSE NEIGHBOUR: 'it returns false'. Refute it at one input. -/
def gatesLossesWrong : ChangeSpec := { name := "gatesLosses", fn := fun _ => fun
  | [d1, d2, d3] => { results := [.lit (.bool false)], args := [d1, d2, d3] }
  | _ => none }
def GatesLossesWrongFalsely : Prop := gatesLossesRow.holds Try.pinned (OpenSpec.ofChange gatesLossesWrong)

/-- 'commutatorlaw24.GatesDull': WHATEVER THE INPUT: true; the input reads as it did. -/
def gatesDullSpec : ChangeSpec := { name := "gatesDull", fn := fun _ => fun
  | [d1, d2, d3] => { results := [.lit (.bool true)], args := [d1, d2, d3] }
  | _ => none }
def gatesDullRow : OpenClaim := { program := "ytgnojdiecgfeaaa", sum := "d695be1d96fa326c3b7c8cdf57e2ca9d0be78b25bb3c6b2feff9f85295e5b2af", func := "commutator/commutatorlaw24.GatesDull", spec := "gatesDull", apart := false }
def GatesDullSaid : Prop := gatesDullRow.holds Try.pinned (OpenSpec.ofChange gatesDullSpec)

/-- ITS FALSE NEIGHBOUR: 'it returns false'. Refute it at one input. -/
def gatesDullWrong : ChangeSpec := { name := "gatesDull", fn := fun _ => fun
  | [d1, d2, d3] => { results := [.lit (.bool false)], args := [d1, d2, d3] }
  | _ => none }
def GatesDullWrongFalsely : Prop := gatesDullRow.holds Try.pinned (OpenSpec.ofChange gatesDullWrong)

/-- 'commutatorlaw27.InverterVolts': WHATEVER THE INPUT: true; the input reads as it did. -/
def inverterVoltsSpec : ChangeSpec := { name := "inverterVolts", fn := fun _ => fun
  | [d1, d2, d3] => { results := [.lit (.bool true)], args := [d1, d2, d3] }
  | _ => none }
def inverterVoltsRow : OpenClaim := { program := "ytgnojdiecgfeaaa", sum := "d695be1d96fa326c3b7c8cdf57e2ca9d0be78b25bb3c6b2feff9f85295e5b2af", func := "commutator/commutatorlaw27.InverterVolts", spec := "inverterVolts", apart := false }
def InverterVoltsSaid : Prop := inverterVoltsRow.holds Try.pinned (OpenSpec.ofChange inverterVoltsSpec)

/-- ITS FALSE NEIGHBOUR: 'it returns false'. Refute it at one input. -/
def inverterVoltsWrong : ChangeSpec := { name := "inverterVolts", fn := fun _ => fun
  | [d1, d2, d3] => { results := [.lit (.bool false)], args := [d1, d2, d3] }
  | _ => none }
def InverterVoltsWrongFalsely : Prop := inverterVoltsRow.holds Try.pinned (OpenSpec.ofChange inverterVoltsWrong)

/-- 'commutatorlaw24.GatesOff': WHATEVER THE INPUT: true; the input reads as it did. -/
def gatesOffSpec : ChangeSpec := { name := "gatesOff", fn := fun _ => fun
  | [d] => { results := [.lit (.bool true)], args := [d] }
  | _ => none }
def gatesOffRow : OpenClaim := { program := "ytgnojdiecgfeaaa", sum := "d695be1d96fa326c3b7c8cdf57e2ca9d0be78b25bb3c6b2feff9f85295e5b2af", func := "commutator/commutatorlaw24.GatesOff", spec := "gatesOff", apart := false }
def GatesOffSaid : Prop := gatesOffRow.holds Try.pinned (OpenSpec.ofChange gatesOffSpec)

/-- ITS FALSE NEIGHBOUR: 'it returns false'. Refute it at one input. -/
def gatesOffWrong : ChangeSpec := { name := "gatesOff", fn := fun _ => fun
  | [d] => { results := [.lit (.bool false)], args := [d] }
  | _ => none }
def GatesOffWrongFalsely : Prop := gatesOffRow.holds Try.pinned (OpenSpec.ofChange gatesOffWrong)

/-- 'commutatorlaw27.InverterBreaks': WHATEVER THE INPUT: true; the input reads as it did. -/
def inverterBreaksSpec : ChangeSpec := { name := "inverterBreaks", fn := fun _ => fun
  | [d1, d2] => { results := [.lit (.bool true)], args := [d1, d2] }
  | _ => none }
def inverterBreaksRow : OpenClaim := { program := "ytgnojdiecgfeaaa", sum := "d695be1d96fa326c3b7c8cdf57e2ca9d0be78b25bb3c6b2feff9f85295e5b2af", func := "commutator/commutatorlaw27.InverterBreaks", spec := "inverterBreaks", unfollowed := true, recurses := true, apart := false }
def InverterBreaksSaid : Prop := inverterBreaksRow.holds Try.pinned (OpenSpec.ofChange inverterBreaksSpec)

/-- ITS FALSE NEIGHBOUR: 'it returns false'. Refute it at one input. -/
def inverterBreaksWrong : ChangeSpec := { name := "inverterBreaks", fn := fun _ => fun
  | [d1, d2] => { results := [.lit (.bool false)], args := [d1, d2] }
  | _ => none }
def InverterBreaksWrongFalsely : Prop := inverterBreaksRow.holds Try.pinned (OpenSpec.ofChange inverterBreaksWrong)

/-- 'commutatorlaw27.InverterBetween': WHATEVER THE INPUT: true; the input reads as it did. -/
def inverterBetweenSpec : ChangeSpec := { name := "inverterBetween", fn := fun _ => fun
  | [d1, d2, d3] => { results := [.lit (.bool true)], args := [d1, d2, d3] }
  | _ => none }
def inverterBetweenRow : OpenClaim := { program := "ytgnojdiecgfeaaa", sum := "d695be1d96fa326c3b7c8cdf57e2ca9d0be78b25bb3c6b2feff9f85295e5b2af", func := "commutator/commutatorlaw27.InverterBetween", spec := "inverterBetween", apart := false }
def InverterBetweenSaid : Prop := inverterBetweenRow.holds Try.pinned (OpenSpec.ofChange inverterBetweenSpec)

/-- ITS FALSE NEIGHBOUR: 'it returns false'. Refute it at one input. -/
def inverterBetweenWrong : ChangeSpec := { name := "inverterBetween", fn := fun _ => fun
  | [d1, d2, d3] => { results := [.lit (.bool false)], args := [d1, d2, d3] }
  | _ => none }
def InverterBetweenWrongFalsely : Prop := inverterBetweenRow.holds Try.pinned (OpenSpec.ofChange inverterBetweenWrong)

/-- 'commutatorlaw24.GatesChecks': WHATEVER THE INPUT: true; the input reads as it did. -/
def gatesChecksSpec : ChangeSpec := { name := "gatesChecks", fn := fun _ => fun
  | [d1, d2, d3] => { results := [.lit (.bool true)], args := [d1, d2, d3] }
  | _ => none }
def gatesChecksRow : OpenClaim := { program := "ytgnojdiecgfeaaa", sum := "d695be1d96fa326c3b7c8cdf57e2ca9d0be78b25bb3c6b2feff9f85295e5b2af", func := "commutator/commutatorlaw24.GatesChecks", spec := "gatesChecks", apart := false }
def GatesChecksSaid : Prop := gatesChecksRow.holds Try.pinned (OpenSpec.ofChange gatesChecksSpec)

/-- ITS FALSE NEIGHBOUR: 'it returns false'. Refute it at one input. -/
def gatesChecksWrong : ChangeSpec := { name := "gatesChecks", fn := fun _ => fun
  | [d1, d2, d3] => { results := [.lit (.bool false)], args := [d1, d2, d3] }
  | _ => none }
def GatesChecksWrongFalsely : Prop := gatesChecksRow.holds Try.pinned (OpenSpec.ofChange gatesChecksWrong)

/-- 'commutatorlaw24.GatesSafe': WHATEVER THE INPUT: true; the input reads as it did. -/
def gatesSafeSpec : ChangeSpec := { name := "gatesSafe", fn := fun _ => fun
  | [d1, d2, d3] => { results := [.lit (.bool true)], args := [d1, d2, d3] }
  | _ => none }
def gatesSafeRow : OpenClaim := { program := "ytgnojdiecgfeaaa", sum := "d695be1d96fa326c3b7c8cdf57e2ca9d0be78b25bb3c6b2feff9f85295e5b2af", func := "commutator/commutatorlaw24.GatesSafe", spec := "gatesSafe", apart := false }
def GatesSafeSaid : Prop := gatesSafeRow.holds Try.pinned (OpenSpec.ofChange gatesSafeSpec)

/-- ITS FALSE NEIGHBOUR: 'it returns false'. Refute it at one input. -/
def gatesSafeWrong : ChangeSpec := { name := "gatesSafe", fn := fun _ => fun
  | [d1, d2, d3] => { results := [.lit (.bool false)], args := [d1, d2, d3] }
  | _ => none }
def GatesSafeWrongFalsely : Prop := gatesSafeRow.holds Try.pinned (OpenSpec.ofChange gatesSafeWrong)

/-- 'commutatorlaw27.InverterSafe': WHATEVER THE INPUT: true; the input reads as it did. -/
def inverterSafeSpec : ChangeSpec := { name := "inverterSafe", fn := fun _ => fun
  | [d1, d2, d3] => { results := [.lit (.bool true)], args := [d1, d2, d3] }
  | _ => none }
def inverterSafeRow : OpenClaim := { program := "ytgnojdiecgfeaaa", sum := "d695be1d96fa326c3b7c8cdf57e2ca9d0be78b25bb3c6b2feff9f85295e5b2af", func := "commutator/commutatorlaw27.InverterSafe", spec := "inverterSafe", apart := false }
def InverterSafeSaid : Prop := inverterSafeRow.holds Try.pinned (OpenSpec.ofChange inverterSafeSpec)

/-- ITS FALSE NEIGHBOUR: 'it returns false'. Refute it at one input. -/
def inverterSafeWrong : ChangeSpec := { name := "inverterSafe", fn := fun _ => fun
  | [d1, d2, d3] => { results := [.lit (.bool false)], args := [d1, d2, d3] }
  | _ => none }
def InverterSafeWrongFalsely : Prop := inverterSafeRow.holds Try.pinned (OpenSpec.ofChange inverterSafeWrong)

/- THE SECOND FORM. 'bulk': how many values and letters a reading holds, each counted each time it is reached (what is shared counts as often as it is met; a slice's spare places count too). A statement '..UptoSaid' is the law's where the arguments, and the package variables that the reading takes, are together of bulk at most 1048576: NARROWER than '..Said'. Prove '..Said' where nothing that the law and all that it calls make is longer than what came in: it says more and counts as full. Else prove '..UptoSaid'. A law counts once. -/
mutual
def uptoBulk {H : Type} : DataW H → Nat
  | .lit (.string bytes) => bytes.length + 1
  | .lit _ => 1
  | .nil => 1
  | .ptr d => uptoBulk d + 1
  | .slice elems spare => uptoBulkAll elems + uptoBulkAll spare + 1
  | .agg parts => uptoBulkAll parts + 1
  | .iface _ d => uptoBulk d + 1
  | .map entries => uptoBulkEntries entries + 1
  | .held _ => 1
def uptoBulkAll {H : Type} : List (DataW H) → Nat
  | [] => 0
  | d :: r => uptoBulk d + uptoBulkAll r
def uptoBulkEntries {H : Type} : List (Lit × DataW H) → Nat
  | [] => 0
  | x :: r => uptoBulkEntry x + uptoBulkEntries r
def uptoBulkEntry {H : Type} : Lit × DataW H → Nat
  | (.string bytes, d) => bytes.length + uptoBulk d + 1
  | (_, d) => uptoBulk d + 1
 end
def uptoSmall : (H : Type) → List (DataW H) → Bool := fun _ ds => decide (uptoBulkAll ds ≤ 1048576)
def OpenSpec.upto (s : _root_.Go.ChangeSpec) : _root_.Go.OpenSpec := { _root_.Go.OpenSpec.ofChange s with cond := some uptoSmall }

/-- 'commutatorlaw27.InverterDraws', WHERE WHAT IT READS IS OF BULK AT MOST 1048576: true; the input reads as it did. -/
def inverterDrawsUptoRow : OpenClaim := { program := "ytgnojdiecgfeaaa", sum := "d695be1d96fa326c3b7c8cdf57e2ca9d0be78b25bb3c6b2feff9f85295e5b2af", func := "commutator/commutatorlaw27.InverterDraws", spec := "inverterDraws", apart := false, narrowed := true }
def InverterDrawsUptoSaid : Prop := inverterDrawsUptoRow.holds Try.pinned (OpenSpec.upto inverterDrawsSpec)

/-- 'commutatorlaw27.InverterMirrors', WHERE WHAT IT READS IS OF BULK AT MOST 1048576: true; the input reads as it did. -/
def inverterMirrorsUptoRow : OpenClaim := { program := "ytgnojdiecgfeaaa", sum := "d695be1d96fa326c3b7c8cdf57e2ca9d0be78b25bb3c6b2feff9f85295e5b2af", func := "commutator/commutatorlaw27.InverterMirrors", spec := "inverterMirrors", apart := false, narrowed := true }
def InverterMirrorsUptoSaid : Prop := inverterMirrorsUptoRow.holds Try.pinned (OpenSpec.upto inverterMirrorsSpec)

/-- 'commutatorlaw27.InverterChecks', WHERE WHAT IT READS IS OF BULK AT MOST 1048576: true; the input reads as it did. -/
def inverterChecksUptoRow : OpenClaim := { program := "ytgnojdiecgfeaaa", sum := "d695be1d96fa326c3b7c8cdf57e2ca9d0be78b25bb3c6b2feff9f85295e5b2af", func := "commutator/commutatorlaw27.InverterChecks", spec := "inverterChecks", apart := false, narrowed := true }
def InverterChecksUptoSaid : Prop := inverterChecksUptoRow.holds Try.pinned (OpenSpec.upto inverterChecksSpec)

/-- 'commutatorlaw27.InverterReturns', WHERE WHAT IT READS IS OF BULK AT MOST 1048576: true; the input reads as it did. -/
def inverterReturnsUptoRow : OpenClaim := { program := "ytgnojdiecgfeaaa", sum := "d695be1d96fa326c3b7c8cdf57e2ca9d0be78b25bb3c6b2feff9f85295e5b2af", func := "commutator/commutatorlaw27.InverterReturns", spec := "inverterReturns", unfollowed := true, recurses := true, apart := false, narrowed := true }
def InverterReturnsUptoSaid : Prop := inverterReturnsUptoRow.holds Try.pinned (OpenSpec.upto inverterReturnsSpec)

/-- 'commutatorlaw24.GatesRun', WHERE WHAT IT READS IS OF BULK AT MOST 1048576: true; the input reads as it did. -/
def gatesRunUptoRow : OpenClaim := { program := "ytgnojdiecgfeaaa", sum := "d695be1d96fa326c3b7c8cdf57e2ca9d0be78b25bb3c6b2feff9f85295e5b2af", func := "commutator/commutatorlaw24.GatesRun", spec := "gatesRun", apart := false, narrowed := true }
def GatesRunUptoSaid : Prop := gatesRunUptoRow.holds Try.pinned (OpenSpec.upto gatesRunSpec)

/-- 'commutatorlaw24.GatesTrips', WHERE WHAT IT READS IS OF BULK AT MOST 1048576: true; the input reads as it did. -/
def gatesTripsUptoRow : OpenClaim := { program := "ytgnojdiecgfeaaa", sum := "d695be1d96fa326c3b7c8cdf57e2ca9d0be78b25bb3c6b2feff9f85295e5b2af", func := "commutator/commutatorlaw24.GatesTrips", spec := "gatesTrips", apart := false, narrowed := true }
def GatesTripsUptoSaid : Prop := gatesTripsUptoRow.holds Try.pinned (OpenSpec.upto gatesTripsSpec)

/-- 'commutatorlaw24.GatesWants', WHERE WHAT IT READS IS OF BULK AT MOST 1048576: true; the input reads as it did. -/
def gatesWantsUptoRow : OpenClaim := { program := "ytgnojdiecgfeaaa", sum := "d695be1d96fa326c3b7c8cdf57e2ca9d0be78b25bb3c6b2feff9f85295e5b2af", func := "commutator/commutatorlaw24.GatesWants", spec := "gatesWants", apart := false, narrowed := true }
def GatesWantsUptoSaid : Prop := gatesWantsUptoRow.holds Try.pinned (OpenSpec.upto gatesWantsSpec)

/-- 'commutatorlaw24.GatesLosses', WHERE WHAT IT READS IS OF BULK AT MOST 1048576: true; the input reads as it did. -/
def gatesLossesUptoRow : OpenClaim := { program := "ytgnojdiecgfeaaa", sum := "d695be1d96fa326c3b7c8cdf57e2ca9d0be78b25bb3c6b2feff9f85295e5b2af", func := "commutator/commutatorlaw24.GatesLosses", spec := "gatesLosses", apart := false, narrowed := true }
def GatesLossesUptoSaid : Prop := gatesLossesUptoRow.holds Try.pinned (OpenSpec.upto gatesLossesSpec)

/-- 'commutatorlaw24.GatesDull', WHERE WHAT IT READS IS OF BULK AT MOST 1048576: true; the input reads as it did. -/
def gatesDullUptoRow : OpenClaim := { program := "ytgnojdiecgfeaaa", sum := "d695be1d96fa326c3b7c8cdf57e2ca9d0be78b25bb3c6b2feff9f85295e5b2af", func := "commutator/commutatorlaw24.GatesDull", spec := "gatesDull", apart := false, narrowed := true }
def GatesDullUptoSaid : Prop := gatesDullUptoRow.holds Try.pinned (OpenSpec.upto gatesDullSpec)

/-- 'commutatorlaw27.InverterVolts', WHERE WHAT IT READS IS OF BULK AT MOST 1048576: true; the input reads as it did. -/
def inverterVoltsUptoRow : OpenClaim := { program := "ytgnojdiecgfeaaa", sum := "d695be1d96fa326c3b7c8cdf57e2ca9d0be78b25bb3c6b2feff9f85295e5b2af", func := "commutator/commutatorlaw27.InverterVolts", spec := "inverterVolts", apart := false, narrowed := true }
def InverterVoltsUptoSaid : Prop := inverterVoltsUptoRow.holds Try.pinned (OpenSpec.upto inverterVoltsSpec)

/-- 'commutatorlaw24.GatesOff', WHERE WHAT IT READS IS OF BULK AT MOST 1048576: true; the input reads as it did. -/
def gatesOffUptoRow : OpenClaim := { program := "ytgnojdiecgfeaaa", sum := "d695be1d96fa326c3b7c8cdf57e2ca9d0be78b25bb3c6b2feff9f85295e5b2af", func := "commutator/commutatorlaw24.GatesOff", spec := "gatesOff", apart := false, narrowed := true }
def GatesOffUptoSaid : Prop := gatesOffUptoRow.holds Try.pinned (OpenSpec.upto gatesOffSpec)

/-- 'commutatorlaw27.InverterBreaks', WHERE WHAT IT READS IS OF BULK AT MOST 1048576: true; the input reads as it did. -/
def inverterBreaksUptoRow : OpenClaim := { program := "ytgnojdiecgfeaaa", sum := "d695be1d96fa326c3b7c8cdf57e2ca9d0be78b25bb3c6b2feff9f85295e5b2af", func := "commutator/commutatorlaw27.InverterBreaks", spec := "inverterBreaks", unfollowed := true, recurses := true, apart := false, narrowed := true }
def InverterBreaksUptoSaid : Prop := inverterBreaksUptoRow.holds Try.pinned (OpenSpec.upto inverterBreaksSpec)

/-- 'commutatorlaw27.InverterBetween', WHERE WHAT IT READS IS OF BULK AT MOST 1048576: true; the input reads as it did. -/
def inverterBetweenUptoRow : OpenClaim := { program := "ytgnojdiecgfeaaa", sum := "d695be1d96fa326c3b7c8cdf57e2ca9d0be78b25bb3c6b2feff9f85295e5b2af", func := "commutator/commutatorlaw27.InverterBetween", spec := "inverterBetween", apart := false, narrowed := true }
def InverterBetweenUptoSaid : Prop := inverterBetweenUptoRow.holds Try.pinned (OpenSpec.upto inverterBetweenSpec)

/-- 'commutatorlaw24.GatesChecks', WHERE WHAT IT READS IS OF BULK AT MOST 1048576: true; the input reads as it did. -/
def gatesChecksUptoRow : OpenClaim := { program := "ytgnojdiecgfeaaa", sum := "d695be1d96fa326c3b7c8cdf57e2ca9d0be78b25bb3c6b2feff9f85295e5b2af", func := "commutator/commutatorlaw24.GatesChecks", spec := "gatesChecks", apart := false, narrowed := true }
def GatesChecksUptoSaid : Prop := gatesChecksUptoRow.holds Try.pinned (OpenSpec.upto gatesChecksSpec)

/-- 'commutatorlaw24.GatesSafe', WHERE WHAT IT READS IS OF BULK AT MOST 1048576: true; the input reads as it did. -/
def gatesSafeUptoRow : OpenClaim := { program := "ytgnojdiecgfeaaa", sum := "d695be1d96fa326c3b7c8cdf57e2ca9d0be78b25bb3c6b2feff9f85295e5b2af", func := "commutator/commutatorlaw24.GatesSafe", spec := "gatesSafe", apart := false, narrowed := true }
def GatesSafeUptoSaid : Prop := gatesSafeUptoRow.holds Try.pinned (OpenSpec.upto gatesSafeSpec)

/-- 'commutatorlaw27.InverterSafe', WHERE WHAT IT READS IS OF BULK AT MOST 1048576: true; the input reads as it did. -/
def inverterSafeUptoRow : OpenClaim := { program := "ytgnojdiecgfeaaa", sum := "d695be1d96fa326c3b7c8cdf57e2ca9d0be78b25bb3c6b2feff9f85295e5b2af", func := "commutator/commutatorlaw27.InverterSafe", spec := "inverterSafe", apart := false, narrowed := true }
def InverterSafeUptoSaid : Prop := inverterSafeUptoRow.holds Try.pinned (OpenSpec.upto inverterSafeSpec)

end Rows
end Go.Proofs.Ytgnojdiecgfeaaa
