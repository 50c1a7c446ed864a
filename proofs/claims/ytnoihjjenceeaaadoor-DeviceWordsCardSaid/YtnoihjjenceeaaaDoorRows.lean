/-
  NARROWER THAN 'FOR EVERY INPUT', by the rows' own cells (each row's printed sentence says how): DeviceNext: laid · DeviceWords: laid · DeviceEnters: laid · DeviceLeads: laid · DeviceFaults: laid · DeviceVoltage: laid · DeviceStatus: laid.
  DERIVED. THE GIVEN ROWS OF THIS SEAT. 7 by the template 'for every input the law returns true; each argument reads behind the call as it read before'; 0 by the template 'total and deterministic' (their statements: YtnoihjjenceeaaaDoorTotals.lean).
  GIVEN WITH THE SEED: the statements are not yours to turn. If you find one false, say at which input.
  Laid BY PROGRAM, IN A SANDBOX (cutbox-rows.mjs): the forced cells as the released guide's own fill.sh prints them over the translation 73f756abae3c7cf9… (all of the seat's roots in one cut). By AI agents, Wed Nov 11 2026. No macro, syntax, notation, axiom, sorry.
-/
import Derived.Test.YtnoihjjenceeaaaDoorChecked
import GoSem.Claim
import GoSem.ClaimJoined
import GoSem.ClaimMapViews
import Derived.JoinedTies
import Derived.KernelRfl
namespace Go.Proofs.YtnoihjjenceeaaaDoor
/- THE CELL 'sum', in the pinned program and in every row, IS THE sha256 OF THE DUMP (.gsa) THAT YtnoihjjenceeaaaDoorProg.lean LOADS. Nothing in Lean hashes anything: it is a label: what it is worth is what the hold of that sum in a sandbox is worth. -/
noncomputable def Tryd.pinned : Pinned := { name := "ytnoihjjenceeaaadoor", sum := "73f756abae3c7cf9b9dafd4a1a69e4a79a074831a7556ceaed2d6298ff5b7f4c", checked := Tryd.checked }
namespace Rows
def none {H : Type} : Left H := { results := [], args := [] }

/- WHAT THE LISTED PACKAGE-LEVEL VARIABLES READ AS WHEN THE CALL BEGINS. Each datum BY PROGRAM (the guide's laid-datum.mjs) off the statement by which the dump's own 'gosem.cut.vars' lays the variable. In a bare row this is a premise. The card (YtnoihjjenceeaaaDoorCards.lean) ties it to the program's text. -/
def laid_commutator_device_controlWords {H : Type} : DataW H := .agg [.lit (.int .i64 0), .lit (.int .i64 2), .lit (.int .i64 6), .lit (.int .i64 7), .lit (.int .i64 15), .lit (.int .i64 128)]
def laid_commutator_device_statusWords {H : Type} : DataW H := .agg [.lit (.int .i64 0), .lit (.int .i64 64), .lit (.int .i64 33), .lit (.int .i64 35), .lit (.int .i64 39), .lit (.int .i64 7), .lit (.int .i64 15), .lit (.int .i64 8)]

/-- 'commutatorlaw55.DeviceNext': WHATEVER THE INPUT: true; the input reads as it did. -/
def deviceNextSpec : ChangeSpec := { name := "deviceNext", fn := fun _ => fun
  | [d1, d2] => { results := [.lit (.bool true)], args := [d1, d2] }
  | _ => none }
def deviceNextRow : OpenClaim := { program := "ytnoihjjenceeaaadoor", sum := "73f756abae3c7cf9b9dafd4a1a69e4a79a074831a7556ceaed2d6298ff5b7f4c", func := "commutator/commutatorlaw55.DeviceNext", spec := "deviceNext", unfollowed := true, recurses := true, named := ["commutator/device.controlWords"], apart := false, laid := [("commutator/device.controlWords", laid_commutator_device_controlWords)] }
def DeviceNextSaid : Prop := deviceNextRow.holds Tryd.pinned (OpenSpec.ofChange deviceNextSpec)

/-- ITS FALSE NEIGHBOUR: 'it returns false'. Refute it at one input. -/
def deviceNextWrong : ChangeSpec := { name := "deviceNext", fn := fun _ => fun
  | [d1, d2] => { results := [.lit (.bool false)], args := [d1, d2] }
  | _ => none }
def DeviceNextWrongFalsely : Prop := deviceNextRow.holds Tryd.pinned (OpenSpec.ofChange deviceNextWrong)

/-- 'commutatorlaw55.DeviceWords': WHATEVER THE INPUT: true; the input reads as it did. -/
def deviceWordsSpec : ChangeSpec := { name := "deviceWords", fn := fun _ => fun
  | [d1, d2] => { results := [.lit (.bool true)], args := [d1, d2] }
  | _ => none }
def deviceWordsRow : OpenClaim := { program := "ytnoihjjenceeaaadoor", sum := "73f756abae3c7cf9b9dafd4a1a69e4a79a074831a7556ceaed2d6298ff5b7f4c", func := "commutator/commutatorlaw55.DeviceWords", spec := "deviceWords", unfollowed := true, recurses := true, named := ["commutator/device.controlWords"], apart := false, laid := [("commutator/device.controlWords", laid_commutator_device_controlWords)] }
def DeviceWordsSaid : Prop := deviceWordsRow.holds Tryd.pinned (OpenSpec.ofChange deviceWordsSpec)

/-- ITS FALSE NEIGHBOUR: 'it returns false'. Refute it at one input. -/
def deviceWordsWrong : ChangeSpec := { name := "deviceWords", fn := fun _ => fun
  | [d1, d2] => { results := [.lit (.bool false)], args := [d1, d2] }
  | _ => none }
def DeviceWordsWrongFalsely : Prop := deviceWordsRow.holds Tryd.pinned (OpenSpec.ofChange deviceWordsWrong)

/-- 'commutatorlaw55.DeviceEnters': WHATEVER THE INPUT: true; the input reads as it did. -/
def deviceEntersSpec : ChangeSpec := { name := "deviceEnters", fn := fun _ => fun
  | [d] => { results := [.lit (.bool true)], args := [d] }
  | _ => none }
def deviceEntersRow : OpenClaim := { program := "ytnoihjjenceeaaadoor", sum := "73f756abae3c7cf9b9dafd4a1a69e4a79a074831a7556ceaed2d6298ff5b7f4c", func := "commutator/commutatorlaw55.DeviceEnters", spec := "deviceEnters", unfollowed := true, recurses := true, named := ["commutator/device.controlWords"], apart := false, laid := [("commutator/device.controlWords", laid_commutator_device_controlWords)] }
def DeviceEntersSaid : Prop := deviceEntersRow.holds Tryd.pinned (OpenSpec.ofChange deviceEntersSpec)

/-- ITS FALSE NEIGHBOUR: 'it returns false'. Refute it at one input. -/
def deviceEntersWrong : ChangeSpec := { name := "deviceEnters", fn := fun _ => fun
  | [d] => { results := [.lit (.bool false)], args := [d] }
  | _ => none }
def DeviceEntersWrongFalsely : Prop := deviceEntersRow.holds Tryd.pinned (OpenSpec.ofChange deviceEntersWrong)

/-- 'commutatorlaw55.DeviceLeads': WHATEVER THE INPUT: true; the input reads as it did. -/
def deviceLeadsSpec : ChangeSpec := { name := "deviceLeads", fn := fun _ => fun
  | [d1, d2, d3] => { results := [.lit (.bool true)], args := [d1, d2, d3] }
  | _ => none }
def deviceLeadsRow : OpenClaim := { program := "ytnoihjjenceeaaadoor", sum := "73f756abae3c7cf9b9dafd4a1a69e4a79a074831a7556ceaed2d6298ff5b7f4c", func := "commutator/commutatorlaw55.DeviceLeads", spec := "deviceLeads", unfollowed := true, recurses := true, named := ["commutator/device.controlWords"], apart := false, laid := [("commutator/device.controlWords", laid_commutator_device_controlWords)] }
def DeviceLeadsSaid : Prop := deviceLeadsRow.holds Tryd.pinned (OpenSpec.ofChange deviceLeadsSpec)

/-- ITS FALSE NEIGHBOUR: 'it returns false'. Refute it at one input. -/
def deviceLeadsWrong : ChangeSpec := { name := "deviceLeads", fn := fun _ => fun
  | [d1, d2, d3] => { results := [.lit (.bool false)], args := [d1, d2, d3] }
  | _ => none }
def DeviceLeadsWrongFalsely : Prop := deviceLeadsRow.holds Tryd.pinned (OpenSpec.ofChange deviceLeadsWrong)

/-- 'commutatorlaw55.DeviceFaults': WHATEVER THE INPUT: true; the input reads as it did. -/
def deviceFaultsSpec : ChangeSpec := { name := "deviceFaults", fn := fun _ => fun
  | [d1, d2] => { results := [.lit (.bool true)], args := [d1, d2] }
  | _ => none }
def deviceFaultsRow : OpenClaim := { program := "ytnoihjjenceeaaadoor", sum := "73f756abae3c7cf9b9dafd4a1a69e4a79a074831a7556ceaed2d6298ff5b7f4c", func := "commutator/commutatorlaw55.DeviceFaults", spec := "deviceFaults", unfollowed := true, recurses := true, named := ["commutator/device.controlWords"], apart := false, laid := [("commutator/device.controlWords", laid_commutator_device_controlWords)] }
def DeviceFaultsSaid : Prop := deviceFaultsRow.holds Tryd.pinned (OpenSpec.ofChange deviceFaultsSpec)

/-- ITS FALSE NEIGHBOUR: 'it returns false'. Refute it at one input. -/
def deviceFaultsWrong : ChangeSpec := { name := "deviceFaults", fn := fun _ => fun
  | [d1, d2] => { results := [.lit (.bool false)], args := [d1, d2] }
  | _ => none }
def DeviceFaultsWrongFalsely : Prop := deviceFaultsRow.holds Tryd.pinned (OpenSpec.ofChange deviceFaultsWrong)

/-- 'commutatorlaw55.DeviceVoltage': WHATEVER THE INPUT: true; the input reads as it did. -/
def deviceVoltageSpec : ChangeSpec := { name := "deviceVoltage", fn := fun _ => fun
  | [d1, d2, d3] => { results := [.lit (.bool true)], args := [d1, d2, d3] }
  | _ => none }
def deviceVoltageRow : OpenClaim := { program := "ytnoihjjenceeaaadoor", sum := "73f756abae3c7cf9b9dafd4a1a69e4a79a074831a7556ceaed2d6298ff5b7f4c", func := "commutator/commutatorlaw55.DeviceVoltage", spec := "deviceVoltage", unfollowed := true, recurses := true, named := ["commutator/device.controlWords"], apart := false, laid := [("commutator/device.controlWords", laid_commutator_device_controlWords)] }
def DeviceVoltageSaid : Prop := deviceVoltageRow.holds Tryd.pinned (OpenSpec.ofChange deviceVoltageSpec)

/-- ITS FALSE NEIGHBOUR: 'it returns false'. Refute it at one input. -/
def deviceVoltageWrong : ChangeSpec := { name := "deviceVoltage", fn := fun _ => fun
  | [d1, d2, d3] => { results := [.lit (.bool false)], args := [d1, d2, d3] }
  | _ => none }
def DeviceVoltageWrongFalsely : Prop := deviceVoltageRow.holds Tryd.pinned (OpenSpec.ofChange deviceVoltageWrong)

/-- 'commutatorlaw55.DeviceStatus': WHATEVER THE INPUT: true; the input reads as it did. -/
def deviceStatusSpec : ChangeSpec := { name := "deviceStatus", fn := fun _ => fun
  | [d1, d2] => { results := [.lit (.bool true)], args := [d1, d2] }
  | _ => none }
def deviceStatusRow : OpenClaim := { program := "ytnoihjjenceeaaadoor", sum := "73f756abae3c7cf9b9dafd4a1a69e4a79a074831a7556ceaed2d6298ff5b7f4c", func := "commutator/commutatorlaw55.DeviceStatus", spec := "deviceStatus", unfollowed := true, recurses := true, named := ["commutator/device.controlWords", "commutator/device.statusWords"], apart := false, laid := [("commutator/device.statusWords", laid_commutator_device_statusWords), ("commutator/device.controlWords", laid_commutator_device_controlWords)] }
def DeviceStatusSaid : Prop := deviceStatusRow.holds Tryd.pinned (OpenSpec.ofChange deviceStatusSpec)

/-- ITS FALSE NEIGHBOUR: 'it returns false'. Refute it at one input. -/
def deviceStatusWrong : ChangeSpec := { name := "deviceStatus", fn := fun _ => fun
  | [d1, d2] => { results := [.lit (.bool false)], args := [d1, d2] }
  | _ => none }
def DeviceStatusWrongFalsely : Prop := deviceStatusRow.holds Tryd.pinned (OpenSpec.ofChange deviceStatusWrong)

/- THE SECOND FORM. 'bulk': how many values and letters a reading holds, each counted each time it is reached (what is shared counts as often as it is met; a slice's spare places count too). A statement '..UptoSaid' is the law's where the arguments, and the package variables that the reading takes, are together of bulk at most 1048576: NARROWER than '..Said'. Prove '..Said' where nothing that the law and all that it calls make is longer than what came in: it says more and counts as full. Else prove '..UptoSaid'. A law counts once. -/
mutual
def uptoBulk {H : Type} : DataW H → Nat
  | .lit (.string bytes) => bytes.length + 1
  | .lit _ => 1
  | .nil => 1
  | .ptr d => uptoBulk d + 1
  | .slice elems spare => uptoBulkAll elems + uptoBulkAll spare + 1
  | .agg parts => uptoBulkAll parts + 1
  | .iface _ d => uptoBulk d + 1
  | .map entries => uptoBulkEntries entries + 1
  | .held _ => 1
def uptoBulkAll {H : Type} : List (DataW H) → Nat
  | [] => 0
  | d :: r => uptoBulk d + uptoBulkAll r
def uptoBulkEntries {H : Type} : List (Lit × DataW H) → Nat
  | [] => 0
  | x :: r => uptoBulkEntry x + uptoBulkEntries r
def uptoBulkEntry {H : Type} : Lit × DataW H → Nat
  | (.string bytes, d) => bytes.length + uptoBulk d + 1
  | (_, d) => uptoBulk d + 1
 end
def uptoSmall : (H : Type) → List (DataW H) → Bool := fun _ ds => decide (uptoBulkAll ds ≤ 1048576)
def OpenSpec.upto (s : _root_.Go.ChangeSpec) : _root_.Go.OpenSpec := { _root_.Go.OpenSpec.ofChange s with cond := some uptoSmall }

/-- 'commutatorlaw55.DeviceNext', WHERE WHAT IT READS IS OF BULK AT MOST 1048576: true; the input reads as it did. -/
def deviceNextUptoRow : OpenClaim := { program := "ytnoihjjenceeaaadoor", sum := "73f756abae3c7cf9b9dafd4a1a69e4a79a074831a7556ceaed2d6298ff5b7f4c", func := "commutator/commutatorlaw55.DeviceNext", spec := "deviceNext", unfollowed := true, recurses := true, named := ["commutator/device.controlWords"], apart := false, laid := [("commutator/device.controlWords", laid_commutator_device_controlWords)], narrowed := true }
def DeviceNextUptoSaid : Prop := deviceNextUptoRow.holds Tryd.pinned (OpenSpec.upto deviceNextSpec)

/-- 'commutatorlaw55.DeviceWords', WHERE WHAT IT READS IS OF BULK AT MOST 1048576: true; the input reads as it did. -/
def deviceWordsUptoRow : OpenClaim := { program := "ytnoihjjenceeaaadoor", sum := "73f756abae3c7cf9b9dafd4a1a69e4a79a074831a7556ceaed2d6298ff5b7f4c", func := "commutator/commutatorlaw55.DeviceWords", spec := "deviceWords", unfollowed := true, recurses := true, named := ["commutator/device.controlWords"], apart := false, laid := [("commutator/device.controlWords", laid_commutator_device_controlWords)], narrowed := true }
def DeviceWordsUptoSaid : Prop := deviceWordsUptoRow.holds Tryd.pinned (OpenSpec.upto deviceWordsSpec)

/-- 'commutatorlaw55.DeviceEnters', WHERE WHAT IT READS IS OF BULK AT MOST 1048576: true; the input reads as it did. -/
def deviceEntersUptoRow : OpenClaim := { program := "ytnoihjjenceeaaadoor", sum := "73f756abae3c7cf9b9dafd4a1a69e4a79a074831a7556ceaed2d6298ff5b7f4c", func := "commutator/commutatorlaw55.DeviceEnters", spec := "deviceEnters", unfollowed := true, recurses := true, named := ["commutator/device.controlWords"], apart := false, laid := [("commutator/device.controlWords", laid_commutator_device_controlWords)], narrowed := true }
def DeviceEntersUptoSaid : Prop := deviceEntersUptoRow.holds Tryd.pinned (OpenSpec.upto deviceEntersSpec)

/-- 'commutatorlaw55.DeviceLeads', WHERE WHAT IT READS IS OF BULK AT MOST 1048576: true; the input reads as it did. -/
def deviceLeadsUptoRow : OpenClaim := { program := "ytnoihjjenceeaaadoor", sum := "73f756abae3c7cf9b9dafd4a1a69e4a79a074831a7556ceaed2d6298ff5b7f4c", func := "commutator/commutatorlaw55.DeviceLeads", spec := "deviceLeads", unfollowed := true, recurses := true, named := ["commutator/device.controlWords"], apart := false, laid := [("commutator/device.controlWords", laid_commutator_device_controlWords)], narrowed := true }
def DeviceLeadsUptoSaid : Prop := deviceLeadsUptoRow.holds Tryd.pinned (OpenSpec.upto deviceLeadsSpec)

/-- 'commutatorlaw55.DeviceFaults', WHERE WHAT IT READS IS OF BULK AT MOST 1048576: true; the input reads as it did. -/
def deviceFaultsUptoRow : OpenClaim := { program := "ytnoihjjenceeaaadoor", sum := "73f756abae3c7cf9b9dafd4a1a69e4a79a074831a7556ceaed2d6298ff5b7f4c", func := "commutator/commutatorlaw55.DeviceFaults", spec := "deviceFaults", unfollowed := true, recurses := true, named := ["commutator/device.controlWords"], apart := false, laid := [("commutator/device.controlWords", laid_commutator_device_controlWords)], narrowed := true }
def DeviceFaultsUptoSaid : Prop := deviceFaultsUptoRow.holds Tryd.pinned (OpenSpec.upto deviceFaultsSpec)

/-- 'commutatorlaw55.DeviceVoltage', WHERE WHAT IT READS IS OF BULK AT MOST 1048576: true; the input reads as it did. -/
def deviceVoltageUptoRow : OpenClaim := { program := "ytnoihjjenceeaaadoor", sum := "73f756abae3c7cf9b9dafd4a1a69e4a79a074831a7556ceaed2d6298ff5b7f4c", func := "commutator/commutatorlaw55.DeviceVoltage", spec := "deviceVoltage", unfollowed := true, recurses := true, named := ["commutator/device.controlWords"], apart := false, laid := [("commutator/device.controlWords", laid_commutator_device_controlWords)], narrowed := true }
def DeviceVoltageUptoSaid : Prop := deviceVoltageUptoRow.holds Tryd.pinned (OpenSpec.upto deviceVoltageSpec)

/-- 'commutatorlaw55.DeviceStatus', WHERE WHAT IT READS IS OF BULK AT MOST 1048576: true; the input reads as it did. -/
def deviceStatusUptoRow : OpenClaim := { program := "ytnoihjjenceeaaadoor", sum := "73f756abae3c7cf9b9dafd4a1a69e4a79a074831a7556ceaed2d6298ff5b7f4c", func := "commutator/commutatorlaw55.DeviceStatus", spec := "deviceStatus", unfollowed := true, recurses := true, named := ["commutator/device.controlWords", "commutator/device.statusWords"], apart := false, laid := [("commutator/device.statusWords", laid_commutator_device_statusWords), ("commutator/device.controlWords", laid_commutator_device_controlWords)], narrowed := true }
def DeviceStatusUptoSaid : Prop := deviceStatusUptoRow.holds Tryd.pinned (OpenSpec.upto deviceStatusSpec)

end Rows
end Go.Proofs.YtnoihjjenceeaaaDoor
