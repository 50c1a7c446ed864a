/-
  DERIVED. GIVEN WITH THE SEED: THE CARDS: each row of YtbegodiligmphaaGreatDoorRows.lean that lists a variable, with what it lists TIED to the program's text (the seventh form; the later family's looks); each row that meets fmt, with fmt's text TOLD by the authors' own Lean function (tested against real Go, not proved from fmt's source: count such statements apart). THE CARD IS WHAT COUNTS. Prove the row's statement (the work); the ties are given (YtbegodiligmphaaGreatDoorTie.lean); close each card by the builder's one call (the guide's Derived/Test/ToyasCard.lean, 'card_holds'). Laid BY PROGRAM, IN A SANDBOX (cutbox-door.mjs). By AI agents, Wed Nov 11 2026. No macro, syntax, notation, axiom, sorry.
-/
import Derived.Test.YtbegodiligmphaaGreatDoorRows
import GoSem.ClaimSeven
namespace Go.Proofs.YtbegodiligmphaaGreatDoor
namespace Rows

/-- THE TIED CARD OF 'commutatorlaw58.DriveChecks'. -/
def driveChecksCard : Claim7 := { stood := { row := driveChecksRow, standIns := [], harness := (true, "dd880b5c2480c704d62e73ef35ba69c7d75ea1272b4fe6e3683ff66b59a2e9aa"), looks := true }, kinds := [], alts := [], laidByText := true, laidKinds := [.data, .data, .data], laidTests := true, laidLooks := .later }
def DriveChecksCardSaid : Prop := Claim7.holds Tryz.pinned (.plain (OpenSpec.ofChange driveChecksSpec)) driveChecksCard

/-- THE TIED CARD OF 'commutatorlaw58.DriveReplays'. -/
def driveReplaysCard : Claim7 := { stood := { row := driveReplaysRow, standIns := [], harness := (true, "dd880b5c2480c704d62e73ef35ba69c7d75ea1272b4fe6e3683ff66b59a2e9aa"), looks := true }, kinds := [], alts := [], laidByText := true, laidKinds := [.data, .data, .data], laidTests := true, laidLooks := .later }
def DriveReplaysCardSaid : Prop := Claim7.holds Tryz.pinned (.plain (OpenSpec.ofChange driveReplaysSpec)) driveReplaysCard

/-- THE TIED CARD OF 'commutatorlaw58.DrivePermits'. -/
def drivePermitsCard : Claim7 := { stood := { row := drivePermitsRow, standIns := [], harness := (true, "dd880b5c2480c704d62e73ef35ba69c7d75ea1272b4fe6e3683ff66b59a2e9aa"), looks := true }, kinds := [], alts := [], laidByText := true, laidKinds := [.data, .data, .data], laidTests := true, laidLooks := .later }
def DrivePermitsCardSaid : Prop := Claim7.holds Tryz.pinned (.plain (OpenSpec.ofChange drivePermitsSpec)) drivePermitsCard

/-- THE TIED CARD OF 'commutatorlaw58.DriveLimits'. -/
def driveLimitsCard : Claim7 := { stood := { row := driveLimitsRow, standIns := [], harness := (true, "dd880b5c2480c704d62e73ef35ba69c7d75ea1272b4fe6e3683ff66b59a2e9aa"), looks := true }, kinds := [], alts := [], laidByText := true, laidKinds := [.data, .data, .data], laidTests := true, laidLooks := .later }
def DriveLimitsCardSaid : Prop := Claim7.holds Tryz.pinned (.plain (OpenSpec.ofChange driveLimitsSpec)) driveLimitsCard

/-- THE TIED CARD OF 'commutatorlaw58.DriveAngle'. -/
def driveAngleCard : Claim7 := { stood := { row := driveAngleRow, standIns := [], harness := (true, "dd880b5c2480c704d62e73ef35ba69c7d75ea1272b4fe6e3683ff66b59a2e9aa"), looks := true }, kinds := [], alts := [], laidByText := true, laidKinds := [.data, .data, .data], laidTests := true, laidLooks := .later }
def DriveAngleCardSaid : Prop := Claim7.holds Tryz.pinned (.plain (OpenSpec.ofChange driveAngleSpec)) driveAngleCard

/-- THE TIED CARD OF 'commutatorlaw58.DriveBus'. -/
def driveBusCard : Claim7 := { stood := { row := driveBusRow, standIns := [], harness := (true, "dd880b5c2480c704d62e73ef35ba69c7d75ea1272b4fe6e3683ff66b59a2e9aa"), looks := true }, kinds := [], alts := [], laidByText := true, laidKinds := [.data, .data, .data], laidTests := true, laidLooks := .later }
def DriveBusCardSaid : Prop := Claim7.holds Tryz.pinned (.plain (OpenSpec.ofChange driveBusSpec)) driveBusCard

/-- THE TIED CARD OF 'commutatorlaw58.DriveForms'. -/
def driveFormsCard : Claim7 := { stood := { row := driveFormsRow, standIns := [], harness := (true, "dd880b5c2480c704d62e73ef35ba69c7d75ea1272b4fe6e3683ff66b59a2e9aa"), looks := true }, kinds := [], alts := [], laidByText := true, laidKinds := [.data, .data, .data], laidTests := true, laidLooks := .later }
def DriveFormsCardSaid : Prop := Claim7.holds Tryz.pinned (.plain (OpenSpec.ofChange driveFormsSpec)) driveFormsCard

/-- THE TIED CARD OF 'commutatorlaw58.DriveParams'. -/
def driveParamsCard : Claim7 := { stood := { row := driveParamsRow, standIns := [], harness := (true, "dd880b5c2480c704d62e73ef35ba69c7d75ea1272b4fe6e3683ff66b59a2e9aa"), looks := true }, kinds := [], alts := [], laidByText := true, laidKinds := [.data, .data, .data], laidTests := true, laidLooks := .later }
def DriveParamsCardSaid : Prop := Claim7.holds Tryz.pinned (.plain (OpenSpec.ofChange driveParamsSpec)) driveParamsCard

/-- THE TIED CARD OF 'commutatorlaw58.DriveLegs'. -/
def driveLegsCard : Claim7 := { stood := { row := driveLegsRow, standIns := [], harness := (true, "dd880b5c2480c704d62e73ef35ba69c7d75ea1272b4fe6e3683ff66b59a2e9aa"), looks := true }, kinds := [], alts := [], laidByText := true, laidKinds := [.data, .data, .data], laidTests := true, laidLooks := .later }
def DriveLegsCardSaid : Prop := Claim7.holds Tryz.pinned (.plain (OpenSpec.ofChange driveLegsSpec)) driveLegsCard

/-- THE SECOND FORM's CARD OF 'commutatorlaw58.DriveChecks'. -/
def driveChecksUptoCard : Claim7 := { stood := { row := driveChecksUptoRow, standIns := [], harness := (true, "dd880b5c2480c704d62e73ef35ba69c7d75ea1272b4fe6e3683ff66b59a2e9aa"), looks := true }, kinds := [], alts := [], laidByText := true, laidKinds := [.data, .data, .data], laidTests := true, laidLooks := .later }
def DriveChecksUptoCardSaid : Prop := Claim7.holds Tryz.pinned (.plain (OpenSpec.upto driveChecksSpec)) driveChecksUptoCard

/-- THE SECOND FORM's CARD OF 'commutatorlaw58.DriveReplays'. -/
def driveReplaysUptoCard : Claim7 := { stood := { row := driveReplaysUptoRow, standIns := [], harness := (true, "dd880b5c2480c704d62e73ef35ba69c7d75ea1272b4fe6e3683ff66b59a2e9aa"), looks := true }, kinds := [], alts := [], laidByText := true, laidKinds := [.data, .data, .data], laidTests := true, laidLooks := .later }
def DriveReplaysUptoCardSaid : Prop := Claim7.holds Tryz.pinned (.plain (OpenSpec.upto driveReplaysSpec)) driveReplaysUptoCard

/-- THE SECOND FORM's CARD OF 'commutatorlaw58.DrivePermits'. -/
def drivePermitsUptoCard : Claim7 := { stood := { row := drivePermitsUptoRow, standIns := [], harness := (true, "dd880b5c2480c704d62e73ef35ba69c7d75ea1272b4fe6e3683ff66b59a2e9aa"), looks := true }, kinds := [], alts := [], laidByText := true, laidKinds := [.data, .data, .data], laidTests := true, laidLooks := .later }
def DrivePermitsUptoCardSaid : Prop := Claim7.holds Tryz.pinned (.plain (OpenSpec.upto drivePermitsSpec)) drivePermitsUptoCard

/-- THE SECOND FORM's CARD OF 'commutatorlaw58.DriveLimits'. -/
def driveLimitsUptoCard : Claim7 := { stood := { row := driveLimitsUptoRow, standIns := [], harness := (true, "dd880b5c2480c704d62e73ef35ba69c7d75ea1272b4fe6e3683ff66b59a2e9aa"), looks := true }, kinds := [], alts := [], laidByText := true, laidKinds := [.data, .data, .data], laidTests := true, laidLooks := .later }
def DriveLimitsUptoCardSaid : Prop := Claim7.holds Tryz.pinned (.plain (OpenSpec.upto driveLimitsSpec)) driveLimitsUptoCard

/-- THE SECOND FORM's CARD OF 'commutatorlaw58.DriveAngle'. -/
def driveAngleUptoCard : Claim7 := { stood := { row := driveAngleUptoRow, standIns := [], harness := (true, "dd880b5c2480c704d62e73ef35ba69c7d75ea1272b4fe6e3683ff66b59a2e9aa"), looks := true }, kinds := [], alts := [], laidByText := true, laidKinds := [.data, .data, .data], laidTests := true, laidLooks := .later }
def DriveAngleUptoCardSaid : Prop := Claim7.holds Tryz.pinned (.plain (OpenSpec.upto driveAngleSpec)) driveAngleUptoCard

/-- THE SECOND FORM's CARD OF 'commutatorlaw58.DriveBus'. -/
def driveBusUptoCard : Claim7 := { stood := { row := driveBusUptoRow, standIns := [], harness := (true, "dd880b5c2480c704d62e73ef35ba69c7d75ea1272b4fe6e3683ff66b59a2e9aa"), looks := true }, kinds := [], alts := [], laidByText := true, laidKinds := [.data, .data, .data], laidTests := true, laidLooks := .later }
def DriveBusUptoCardSaid : Prop := Claim7.holds Tryz.pinned (.plain (OpenSpec.upto driveBusSpec)) driveBusUptoCard

/-- THE SECOND FORM's CARD OF 'commutatorlaw58.DriveForms'. -/
def driveFormsUptoCard : Claim7 := { stood := { row := driveFormsUptoRow, standIns := [], harness := (true, "dd880b5c2480c704d62e73ef35ba69c7d75ea1272b4fe6e3683ff66b59a2e9aa"), looks := true }, kinds := [], alts := [], laidByText := true, laidKinds := [.data, .data, .data], laidTests := true, laidLooks := .later }
def DriveFormsUptoCardSaid : Prop := Claim7.holds Tryz.pinned (.plain (OpenSpec.upto driveFormsSpec)) driveFormsUptoCard

/-- THE SECOND FORM's CARD OF 'commutatorlaw58.DriveParams'. -/
def driveParamsUptoCard : Claim7 := { stood := { row := driveParamsUptoRow, standIns := [], harness := (true, "dd880b5c2480c704d62e73ef35ba69c7d75ea1272b4fe6e3683ff66b59a2e9aa"), looks := true }, kinds := [], alts := [], laidByText := true, laidKinds := [.data, .data, .data], laidTests := true, laidLooks := .later }
def DriveParamsUptoCardSaid : Prop := Claim7.holds Tryz.pinned (.plain (OpenSpec.upto driveParamsSpec)) driveParamsUptoCard

/-- THE SECOND FORM's CARD OF 'commutatorlaw58.DriveLegs'. -/
def driveLegsUptoCard : Claim7 := { stood := { row := driveLegsUptoRow, standIns := [], harness := (true, "dd880b5c2480c704d62e73ef35ba69c7d75ea1272b4fe6e3683ff66b59a2e9aa"), looks := true }, kinds := [], alts := [], laidByText := true, laidKinds := [.data, .data, .data], laidTests := true, laidLooks := .later }
def DriveLegsUptoCardSaid : Prop := Claim7.holds Tryz.pinned (.plain (OpenSpec.upto driveLegsSpec)) driveLegsUptoCard
end Rows
end Go.Proofs.YtbegodiligmphaaGreatDoor
