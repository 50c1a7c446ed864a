/-
  NARROWER THAN 'FOR EVERY INPUT', by the rows' own cells (each row's printed sentence says how): DriveChecks: laid · DriveReplays: laid · DrivePermits: laid · DriveLimits: laid · DriveAngle: laid · DriveBus: laid · DriveForms: laid · DriveParams: laid · DriveLegs: laid.
  DERIVED. THE GIVEN ROWS OF THIS SEAT. 9 by the template 'for every input the law returns true; each argument reads behind the call as it read before'; 0 by the template 'total and deterministic' (their statements: YtbegodiligmphaaGreatDoorTotals.lean).
  GIVEN WITH THE SEED: the statements are not yours to turn. If you find one false, say at which input.
  Laid BY PROGRAM, IN A SANDBOX (cutbox-rows.mjs): the forced cells as the released guide's own fill.sh prints them over the translation 0e9669109b6c3d44… (all of the seat's roots in one cut). By AI agents, Wed Nov 11 2026. No macro, syntax, notation, axiom, sorry.
-/
import Derived.Test.YtbegodiligmphaaGreatDoorChecked
import GoSem.Claim
import GoSem.ClaimJoined
import GoSem.ClaimMapViews
import Derived.JoinedTies
import Derived.KernelRfl
namespace Go.Proofs.YtbegodiligmphaaGreatDoor
/- THE CELL 'sum', in the pinned program and in every row, IS THE sha256 OF THE DUMP (.gsa) THAT YtbegodiligmphaaGreatDoorProg.lean LOADS. Nothing in Lean hashes anything: it is a label: what it is worth is what the hold of that sum in a sandbox is worth. -/
noncomputable def Tryz.pinned : Pinned := { name := "ytbegodiligmphaagreatdoor", sum := "0e9669109b6c3d44cb81589b2d1ff183a8fa175b73d25d0065d7f1ff93ab78aa", checked := Tryz.checked }
namespace Rows
def none {H : Type} : Left H := { results := [], args := [] }

/- WHAT THE LISTED PACKAGE-LEVEL VARIABLES READ AS WHEN THE CALL BEGINS. Each datum BY PROGRAM (the guide's laid-datum.mjs) off the statement by which the dump's own 'gosem.cut.vars' lays the variable. In a bare row this is a premise. The card (YtbegodiligmphaaGreatDoorCards.lean) ties it to the program's text. -/
def laid_commutator_device_statusWords {H : Type} : DataW H := .agg [.lit (.int .i64 0), .lit (.int .i64 64), .lit (.int .i64 33), .lit (.int .i64 35), .lit (.int .i64 39), .lit (.int .i64 7), .lit (.int .i64 15), .lit (.int .i64 8)]
def laid_commutator_hall_edge {H : Type} : DataW H := .agg [.lit (.int .i64 0), .lit (.int .i64 10923), .lit (.int .i64 21846), .lit (.int .i64 32768), .lit (.int .i64 43691), .lit (.int .i64 54614), .lit (.int .i64 65536)]
def laid_commutator_hall_codes {H : Type} : DataW H := .agg [.lit (.int .i64 5), .lit (.int .i64 4), .lit (.int .i64 6), .lit (.int .i64 2), .lit (.int .i64 3), .lit (.int .i64 1)]

/-- 'commutatorlaw58.DriveChecks': WHATEVER THE INPUT: true; the input reads as it did. -/
def driveChecksSpec : ChangeSpec := { name := "driveChecks", fn := fun _ => fun
  | [d] => { results := [.lit (.bool true)], args := [d] }
  | _ => none }
def driveChecksRow : OpenClaim := { program := "ytbegodiligmphaagreatdoor", sum := "0e9669109b6c3d44cb81589b2d1ff183a8fa175b73d25d0065d7f1ff93ab78aa", func := "commutator/commutatorlaw58.DriveChecks", spec := "driveChecks", unfollowed := true, recurses := true, named := ["commutator/hall.codes", "commutator/hall.edge", "commutator/device.statusWords"], apart := false, laid := [("commutator/device.statusWords", laid_commutator_device_statusWords), ("commutator/hall.edge", laid_commutator_hall_edge), ("commutator/hall.codes", laid_commutator_hall_codes)] }
def DriveChecksSaid : Prop := driveChecksRow.holds Tryz.pinned (OpenSpec.ofChange driveChecksSpec)

/-- ITS FALSE NEIGHBOUR: 'it returns false'. Refute it at one input. -/
def driveChecksWrong : ChangeSpec := { name := "driveChecks", fn := fun _ => fun
  | [d] => { results := [.lit (.bool false)], args := [d] }
  | _ => none }
def DriveChecksWrongFalsely : Prop := driveChecksRow.holds Tryz.pinned (OpenSpec.ofChange driveChecksWrong)

/-- 'commutatorlaw58.DriveReplays': WHATEVER THE INPUT: true; the input reads as it did. -/
def driveReplaysSpec : ChangeSpec := { name := "driveReplays", fn := fun _ => fun
  | [d1, d2] => { results := [.lit (.bool true)], args := [d1, d2] }
  | _ => none }
def driveReplaysRow : OpenClaim := { program := "ytbegodiligmphaagreatdoor", sum := "0e9669109b6c3d44cb81589b2d1ff183a8fa175b73d25d0065d7f1ff93ab78aa", func := "commutator/commutatorlaw58.DriveReplays", spec := "driveReplays", unfollowed := true, recurses := true, named := ["commutator/hall.codes", "commutator/hall.edge", "commutator/device.statusWords"], apart := false, laid := [("commutator/device.statusWords", laid_commutator_device_statusWords), ("commutator/hall.edge", laid_commutator_hall_edge), ("commutator/hall.codes", laid_commutator_hall_codes)] }
def DriveReplaysSaid : Prop := driveReplaysRow.holds Tryz.pinned (OpenSpec.ofChange driveReplaysSpec)

/-- ITS FALSE NEIGHBOUR: 'it returns false'. Refute it at one input. -/
def driveReplaysWrong : ChangeSpec := { name := "driveReplays", fn := fun _ => fun
  | [d1, d2] => { results := [.lit (.bool false)], args := [d1, d2] }
  | _ => none }
def DriveReplaysWrongFalsely : Prop := driveReplaysRow.holds Tryz.pinned (OpenSpec.ofChange driveReplaysWrong)

/-- 'commutatorlaw58.DrivePermits': WHATEVER THE INPUT: true; the input reads as it did. -/
def drivePermitsSpec : ChangeSpec := { name := "drivePermits", fn := fun _ => fun
  | [d1, d2] => { results := [.lit (.bool true)], args := [d1, d2] }
  | _ => none }
def drivePermitsRow : OpenClaim := { program := "ytbegodiligmphaagreatdoor", sum := "0e9669109b6c3d44cb81589b2d1ff183a8fa175b73d25d0065d7f1ff93ab78aa", func := "commutator/commutatorlaw58.DrivePermits", spec := "drivePermits", unfollowed := true, recurses := true, named := ["commutator/hall.codes", "commutator/hall.edge", "commutator/device.statusWords"], apart := false, laid := [("commutator/device.statusWords", laid_commutator_device_statusWords), ("commutator/hall.edge", laid_commutator_hall_edge), ("commutator/hall.codes", laid_commutator_hall_codes)] }
def DrivePermitsSaid : Prop := drivePermitsRow.holds Tryz.pinned (OpenSpec.ofChange drivePermitsSpec)

/-- ITS FALSE NEIGHBOUR: 'it returns false'. Refute it at one input. -/
def drivePermitsWrong : ChangeSpec := { name := "drivePermits", fn := fun _ => fun
  | [d1, d2] => { results := [.lit (.bool false)], args := [d1, d2] }
  | _ => none }
def DrivePermitsWrongFalsely : Prop := drivePermitsRow.holds Tryz.pinned (OpenSpec.ofChange drivePermitsWrong)

/-- 'commutatorlaw58.DriveLimits': WHATEVER THE INPUT: true; the input reads as it did. -/
def driveLimitsSpec : ChangeSpec := { name := "driveLimits", fn := fun _ => fun
  | [d1, d2] => { results := [.lit (.bool true)], args := [d1, d2] }
  | _ => none }
def driveLimitsRow : OpenClaim := { program := "ytbegodiligmphaagreatdoor", sum := "0e9669109b6c3d44cb81589b2d1ff183a8fa175b73d25d0065d7f1ff93ab78aa", func := "commutator/commutatorlaw58.DriveLimits", spec := "driveLimits", unfollowed := true, recurses := true, named := ["commutator/hall.codes", "commutator/hall.edge", "commutator/device.statusWords"], apart := false, laid := [("commutator/device.statusWords", laid_commutator_device_statusWords), ("commutator/hall.edge", laid_commutator_hall_edge), ("commutator/hall.codes", laid_commutator_hall_codes)] }
def DriveLimitsSaid : Prop := driveLimitsRow.holds Tryz.pinned (OpenSpec.ofChange driveLimitsSpec)

/-- ITS FALSE NEIGHBOUR: 'it returns false'. Refute it at one input. -/
def driveLimitsWrong : ChangeSpec := { name := "driveLimits", fn := fun _ => fun
  | [d1, d2] => { results := [.lit (.bool false)], args := [d1, d2] }
  | _ => none }
def DriveLimitsWrongFalsely : Prop := driveLimitsRow.holds Tryz.pinned (OpenSpec.ofChange driveLimitsWrong)

/-- 'commutatorlaw58.DriveAngle': WHATEVER THE INPUT: true; the input reads as it did. -/
def driveAngleSpec : ChangeSpec := { name := "driveAngle", fn := fun _ => fun
  | [d1, d2] => { results := [.lit (.bool true)], args := [d1, d2] }
  | _ => none }
def driveAngleRow : OpenClaim := { program := "ytbegodiligmphaagreatdoor", sum := "0e9669109b6c3d44cb81589b2d1ff183a8fa175b73d25d0065d7f1ff93ab78aa", func := "commutator/commutatorlaw58.DriveAngle", spec := "driveAngle", unfollowed := true, recurses := true, named := ["commutator/hall.codes", "commutator/hall.edge", "commutator/device.statusWords"], apart := false, laid := [("commutator/device.statusWords", laid_commutator_device_statusWords), ("commutator/hall.edge", laid_commutator_hall_edge), ("commutator/hall.codes", laid_commutator_hall_codes)] }
def DriveAngleSaid : Prop := driveAngleRow.holds Tryz.pinned (OpenSpec.ofChange driveAngleSpec)

/-- ITS FALSE NEIGHBOUR: 'it returns false'. Refute it at one input. -/
def driveAngleWrong : ChangeSpec := { name := "driveAngle", fn := fun _ => fun
  | [d1, d2] => { results := [.lit (.bool false)], args := [d1, d2] }
  | _ => none }
def DriveAngleWrongFalsely : Prop := driveAngleRow.holds Tryz.pinned (OpenSpec.ofChange driveAngleWrong)

/-- 'commutatorlaw58.DriveBus': WHATEVER THE INPUT: true; the input reads as it did. -/
def driveBusSpec : ChangeSpec := { name := "driveBus", fn := fun _ => fun
  | [d1, d2, d3] => { results := [.lit (.bool true)], args := [d1, d2, d3] }
  | _ => none }
def driveBusRow : OpenClaim := { program := "ytbegodiligmphaagreatdoor", sum := "0e9669109b6c3d44cb81589b2d1ff183a8fa175b73d25d0065d7f1ff93ab78aa", func := "commutator/commutatorlaw58.DriveBus", spec := "driveBus", unfollowed := true, recurses := true, named := ["commutator/hall.codes", "commutator/hall.edge", "commutator/device.statusWords"], apart := false, laid := [("commutator/device.statusWords", laid_commutator_device_statusWords), ("commutator/hall.edge", laid_commutator_hall_edge), ("commutator/hall.codes", laid_commutator_hall_codes)] }
def DriveBusSaid : Prop := driveBusRow.holds Tryz.pinned (OpenSpec.ofChange driveBusSpec)

/-- ITS FALSE NEIGHBOUR: 'it returns false'. Refute it at one input. -/
def driveBusWrong : ChangeSpec := { name := "driveBus", fn := fun _ => fun
  | [d1, d2, d3] => { results := [.lit (.bool false)], args := [d1, d2, d3] }
  | _ => none }
def DriveBusWrongFalsely : Prop := driveBusRow.holds Tryz.pinned (OpenSpec.ofChange driveBusWrong)

/-- 'commutatorlaw58.DriveForms': WHATEVER THE INPUT: true; the input reads as it did. -/
def driveFormsSpec : ChangeSpec := { name := "driveForms", fn := fun _ => fun
  | [d1, d2, d3] => { results := [.lit (.bool true)], args := [d1, d2, d3] }
  | _ => none }
def driveFormsRow : OpenClaim := { program := "ytbegodiligmphaagreatdoor", sum := "0e9669109b6c3d44cb81589b2d1ff183a8fa175b73d25d0065d7f1ff93ab78aa", func := "commutator/commutatorlaw58.DriveForms", spec := "driveForms", unfollowed := true, recurses := true, named := ["commutator/hall.codes", "commutator/hall.edge", "commutator/device.statusWords"], apart := false, laid := [("commutator/device.statusWords", laid_commutator_device_statusWords), ("commutator/hall.edge", laid_commutator_hall_edge), ("commutator/hall.codes", laid_commutator_hall_codes)] }
def DriveFormsSaid : Prop := driveFormsRow.holds Tryz.pinned (OpenSpec.ofChange driveFormsSpec)

/-- ITS FALSE NEIGHBOUR: 'it returns false'. Refute it at one input. -/
def driveFormsWrong : ChangeSpec := { name := "driveForms", fn := fun _ => fun
  | [d1, d2, d3] => { results := [.lit (.bool false)], args := [d1, d2, d3] }
  | _ => none }
def DriveFormsWrongFalsely : Prop := driveFormsRow.holds Tryz.pinned (OpenSpec.ofChange driveFormsWrong)

/-- 'commutatorlaw58.DriveParams': WHATEVER THE INPUT: true; the input reads as it did. -/
def driveParamsSpec : ChangeSpec := { name := "driveParams", fn := fun _ => fun
  | [d1, d2, d3] => { results := [.lit (.bool true)], args := [d1, d2, d3] }
  | _ => none }
def driveParamsRow : OpenClaim := { program := "ytbegodiligmphaagreatdoor", sum := "0e9669109b6c3d44cb81589b2d1ff183a8fa175b73d25d0065d7f1ff93ab78aa", func := "commutator/commutatorlaw58.DriveParams", spec := "driveParams", unfollowed := true, recurses := true, named := ["commutator/hall.codes", "commutator/hall.edge", "commutator/device.statusWords"], apart := false, laid := [("commutator/device.statusWords", laid_commutator_device_statusWords), ("commutator/hall.edge", laid_commutator_hall_edge), ("commutator/hall.codes", laid_commutator_hall_codes)] }
def DriveParamsSaid : Prop := driveParamsRow.holds Tryz.pinned (OpenSpec.ofChange driveParamsSpec)

/-- ITS FALSE NEIGHBOUR: 'it returns false'. Refute it at one input. -/
def driveParamsWrong : ChangeSpec := { name := "driveParams", fn := fun _ => fun
  | [d1, d2, d3] => { results := [.lit (.bool false)], args := [d1, d2, d3] }
  | _ => none }
def DriveParamsWrongFalsely : Prop := driveParamsRow.holds Tryz.pinned (OpenSpec.ofChange driveParamsWrong)

/-- 'commutatorlaw58.DriveLegs': WHATEVER THE INPUT: true; the input reads as it did. -/
def driveLegsSpec : ChangeSpec := { name := "driveLegs", fn := fun _ => fun
  | [d1, d2] => { results := [.lit (.bool true)], args := [d1, d2] }
  | _ => none }
def driveLegsRow : OpenClaim := { program := "ytbegodiligmphaagreatdoor", sum := "0e9669109b6c3d44cb81589b2d1ff183a8fa175b73d25d0065d7f1ff93ab78aa", func := "commutator/commutatorlaw58.DriveLegs", spec := "driveLegs", unfollowed := true, recurses := true, named := ["commutator/hall.codes", "commutator/hall.edge", "commutator/device.statusWords"], apart := false, laid := [("commutator/device.statusWords", laid_commutator_device_statusWords), ("commutator/hall.edge", laid_commutator_hall_edge), ("commutator/hall.codes", laid_commutator_hall_codes)] }
def DriveLegsSaid : Prop := driveLegsRow.holds Tryz.pinned (OpenSpec.ofChange driveLegsSpec)

/-- ITS FALSE NEIGHBOUR: 'it returns false'. Refute it at one input. -/
def driveLegsWrong : ChangeSpec := { name := "driveLegs", fn := fun _ => fun
  | [d1, d2] => { results := [.lit (.bool false)], args := [d1, d2] }
  | _ => none }
def DriveLegsWrongFalsely : Prop := driveLegsRow.holds Tryz.pinned (OpenSpec.ofChange driveLegsWrong)

/- THE SECOND FORM. 'bulk': how many values and letters a reading holds, each counted each time it is reached (what is shared counts as often as it is met; a slice's spare places count too). A statement '..UptoSaid' is the law's where the arguments, and the package variables that the reading takes, are together of bulk at most 1048576: NARROWER than '..Said'. Prove '..Said' where nothing that the law and all that it calls make is longer than what came in: it says more and counts as full. Else prove '..UptoSaid'. A law counts once. -/
mutual
def uptoBulk {H : Type} : DataW H → Nat
  | .lit (.string bytes) => bytes.length + 1
  | .lit _ => 1
  | .nil => 1
  | .ptr d => uptoBulk d + 1
  | .slice elems spare => uptoBulkAll elems + uptoBulkAll spare + 1
  | .agg parts => uptoBulkAll parts + 1
  | .iface _ d => uptoBulk d + 1
  | .map entries => uptoBulkEntries entries + 1
  | .held _ => 1
def uptoBulkAll {H : Type} : List (DataW H) → Nat
  | [] => 0
  | d :: r => uptoBulk d + uptoBulkAll r
def uptoBulkEntries {H : Type} : List (Lit × DataW H) → Nat
  | [] => 0
  | x :: r => uptoBulkEntry x + uptoBulkEntries r
def uptoBulkEntry {H : Type} : Lit × DataW H → Nat
  | (.string bytes, d) => bytes.length + uptoBulk d + 1
  | (_, d) => uptoBulk d + 1
 end
def uptoSmall : (H : Type) → List (DataW H) → Bool := fun _ ds => decide (uptoBulkAll ds ≤ 1048576)
def OpenSpec.upto (s : _root_.Go.ChangeSpec) : _root_.Go.OpenSpec := { _root_.Go.OpenSpec.ofChange s with cond := some uptoSmall }

/-- 'commutatorlaw58.DriveChecks', WHERE WHAT IT READS IS OF BULK AT MOST 1048576: true; the input reads as it did. -/
def driveChecksUptoRow : OpenClaim := { program := "ytbegodiligmphaagreatdoor", sum := "0e9669109b6c3d44cb81589b2d1ff183a8fa175b73d25d0065d7f1ff93ab78aa", func := "commutator/commutatorlaw58.DriveChecks", spec := "driveChecks", unfollowed := true, recurses := true, named := ["commutator/hall.codes", "commutator/hall.edge", "commutator/device.statusWords"], apart := false, laid := [("commutator/device.statusWords", laid_commutator_device_statusWords), ("commutator/hall.edge", laid_commutator_hall_edge), ("commutator/hall.codes", laid_commutator_hall_codes)], narrowed := true }
def DriveChecksUptoSaid : Prop := driveChecksUptoRow.holds Tryz.pinned (OpenSpec.upto driveChecksSpec)

/-- 'commutatorlaw58.DriveReplays', WHERE WHAT IT READS IS OF BULK AT MOST 1048576: true; the input reads as it did. -/
def driveReplaysUptoRow : OpenClaim := { program := "ytbegodiligmphaagreatdoor", sum := "0e9669109b6c3d44cb81589b2d1ff183a8fa175b73d25d0065d7f1ff93ab78aa", func := "commutator/commutatorlaw58.DriveReplays", spec := "driveReplays", unfollowed := true, recurses := true, named := ["commutator/hall.codes", "commutator/hall.edge", "commutator/device.statusWords"], apart := false, laid := [("commutator/device.statusWords", laid_commutator_device_statusWords), ("commutator/hall.edge", laid_commutator_hall_edge), ("commutator/hall.codes", laid_commutator_hall_codes)], narrowed := true }
def DriveReplaysUptoSaid : Prop := driveReplaysUptoRow.holds Tryz.pinned (OpenSpec.upto driveReplaysSpec)

/-- 'commutatorlaw58.DrivePermits', WHERE WHAT IT READS IS OF BULK AT MOST 1048576: true; the input reads as it did. -/
def drivePermitsUptoRow : OpenClaim := { program := "ytbegodiligmphaagreatdoor", sum := "0e9669109b6c3d44cb81589b2d1ff183a8fa175b73d25d0065d7f1ff93ab78aa", func := "commutator/commutatorlaw58.DrivePermits", spec := "drivePermits", unfollowed := true, recurses := true, named := ["commutator/hall.codes", "commutator/hall.edge", "commutator/device.statusWords"], apart := false, laid := [("commutator/device.statusWords", laid_commutator_device_statusWords), ("commutator/hall.edge", laid_commutator_hall_edge), ("commutator/hall.codes", laid_commutator_hall_codes)], narrowed := true }
def DrivePermitsUptoSaid : Prop := drivePermitsUptoRow.holds Tryz.pinned (OpenSpec.upto drivePermitsSpec)

/-- 'commutatorlaw58.DriveLimits', WHERE WHAT IT READS IS OF BULK AT MOST 1048576: true; the input reads as it did. -/
def driveLimitsUptoRow : OpenClaim := { program := "ytbegodiligmphaagreatdoor", sum := "0e9669109b6c3d44cb81589b2d1ff183a8fa175b73d25d0065d7f1ff93ab78aa", func := "commutator/commutatorlaw58.DriveLimits", spec := "driveLimits", unfollowed := true, recurses := true, named := ["commutator/hall.codes", "commutator/hall.edge", "commutator/device.statusWords"], apart := false, laid := [("commutator/device.statusWords", laid_commutator_device_statusWords), ("commutator/hall.edge", laid_commutator_hall_edge), ("commutator/hall.codes", laid_commutator_hall_codes)], narrowed := true }
def DriveLimitsUptoSaid : Prop := driveLimitsUptoRow.holds Tryz.pinned (OpenSpec.upto driveLimitsSpec)

/-- 'commutatorlaw58.DriveAngle', WHERE WHAT IT READS IS OF BULK AT MOST 1048576: true; the input reads as it did. -/
def driveAngleUptoRow : OpenClaim := { program := "ytbegodiligmphaagreatdoor", sum := "0e9669109b6c3d44cb81589b2d1ff183a8fa175b73d25d0065d7f1ff93ab78aa", func := "commutator/commutatorlaw58.DriveAngle", spec := "driveAngle", unfollowed := true, recurses := true, named := ["commutator/hall.codes", "commutator/hall.edge", "commutator/device.statusWords"], apart := false, laid := [("commutator/device.statusWords", laid_commutator_device_statusWords), ("commutator/hall.edge", laid_commutator_hall_edge), ("commutator/hall.codes", laid_commutator_hall_codes)], narrowed := true }
def DriveAngleUptoSaid : Prop := driveAngleUptoRow.holds Tryz.pinned (OpenSpec.upto driveAngleSpec)

/-- 'commutatorlaw58.DriveBus', WHERE WHAT IT READS IS OF BULK AT MOST 1048576: true; the input reads as it did. -/
def driveBusUptoRow : OpenClaim := { program := "ytbegodiligmphaagreatdoor", sum := "0e9669109b6c3d44cb81589b2d1ff183a8fa175b73d25d0065d7f1ff93ab78aa", func := "commutator/commutatorlaw58.DriveBus", spec := "driveBus", unfollowed := true, recurses := true, named := ["commutator/hall.codes", "commutator/hall.edge", "commutator/device.statusWords"], apart := false, laid := [("commutator/device.statusWords", laid_commutator_device_statusWords), ("commutator/hall.edge", laid_commutator_hall_edge), ("commutator/hall.codes", laid_commutator_hall_codes)], narrowed := true }
def DriveBusUptoSaid : Prop := driveBusUptoRow.holds Tryz.pinned (OpenSpec.upto driveBusSpec)

/-- 'commutatorlaw58.DriveForms', WHERE WHAT IT READS IS OF BULK AT MOST 1048576: true; the input reads as it did. -/
def driveFormsUptoRow : OpenClaim := { program := "ytbegodiligmphaagreatdoor", sum := "0e9669109b6c3d44cb81589b2d1ff183a8fa175b73d25d0065d7f1ff93ab78aa", func := "commutator/commutatorlaw58.DriveForms", spec := "driveForms", unfollowed := true, recurses := true, named := ["commutator/hall.codes", "commutator/hall.edge", "commutator/device.statusWords"], apart := false, laid := [("commutator/device.statusWords", laid_commutator_device_statusWords), ("commutator/hall.edge", laid_commutator_hall_edge), ("commutator/hall.codes", laid_commutator_hall_codes)], narrowed := true }
def DriveFormsUptoSaid : Prop := driveFormsUptoRow.holds Tryz.pinned (OpenSpec.upto driveFormsSpec)

/-- 'commutatorlaw58.DriveParams', WHERE WHAT IT READS IS OF BULK AT MOST 1048576: true; the input reads as it did. -/
def driveParamsUptoRow : OpenClaim := { program := "ytbegodiligmphaagreatdoor", sum := "0e9669109b6c3d44cb81589b2d1ff183a8fa175b73d25d0065d7f1ff93ab78aa", func := "commutator/commutatorlaw58.DriveParams", spec := "driveParams", unfollowed := true, recurses := true, named := ["commutator/hall.codes", "commutator/hall.edge", "commutator/device.statusWords"], apart := false, laid := [("commutator/device.statusWords", laid_commutator_device_statusWords), ("commutator/hall.edge", laid_commutator_hall_edge), ("commutator/hall.codes", laid_commutator_hall_codes)], narrowed := true }
def DriveParamsUptoSaid : Prop := driveParamsUptoRow.holds Tryz.pinned (OpenSpec.upto driveParamsSpec)

/-- 'commutatorlaw58.DriveLegs', WHERE WHAT IT READS IS OF BULK AT MOST 1048576: true; the input reads as it did. -/
def driveLegsUptoRow : OpenClaim := { program := "ytbegodiligmphaagreatdoor", sum := "0e9669109b6c3d44cb81589b2d1ff183a8fa175b73d25d0065d7f1ff93ab78aa", func := "commutator/commutatorlaw58.DriveLegs", spec := "driveLegs", unfollowed := true, recurses := true, named := ["commutator/hall.codes", "commutator/hall.edge", "commutator/device.statusWords"], apart := false, laid := [("commutator/device.statusWords", laid_commutator_device_statusWords), ("commutator/hall.edge", laid_commutator_hall_edge), ("commutator/hall.codes", laid_commutator_hall_codes)], narrowed := true }
def DriveLegsUptoSaid : Prop := driveLegsUptoRow.holds Tryz.pinned (OpenSpec.upto driveLegsSpec)

end Rows
end Go.Proofs.YtbegodiligmphaaGreatDoor
