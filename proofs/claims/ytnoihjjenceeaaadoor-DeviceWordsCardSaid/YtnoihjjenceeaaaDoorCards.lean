/-
  DERIVED. GIVEN WITH THE SEED: THE CARDS: each row of YtnoihjjenceeaaaDoorRows.lean that lists a variable, with what it lists TIED to the program's text (the seventh form; the later family's looks); each row that meets fmt, with fmt's text TOLD by the authors' own Lean function (tested against real Go, not proved from fmt's source: count such statements apart). THE CARD IS WHAT COUNTS. Prove the row's statement (the work); the ties are given (YtnoihjjenceeaaaDoorTie.lean); close each card by the builder's one call (the guide's Derived/Test/ToyasCard.lean, 'card_holds'). Laid BY PROGRAM, IN A SANDBOX (cutbox-door.mjs). By AI agents, Wed Nov 11 2026. No macro, syntax, notation, axiom, sorry.
-/
import Derived.Test.YtnoihjjenceeaaaDoorRows
import GoSem.ClaimSeven
namespace Go.Proofs.YtnoihjjenceeaaaDoor
namespace Rows

/-- THE TIED CARD OF 'commutatorlaw55.DeviceNext'. -/
def deviceNextCard : Claim7 := { stood := { row := deviceNextRow, standIns := [], harness := (true, "d480b5a26ea11ea7469ea549bbe47c1c4d0252563e10887d6c11bd0372b1d745"), looks := true }, kinds := [], alts := [], laidByText := true, laidKinds := [.data], laidTests := true, laidLooks := .later }
def DeviceNextCardSaid : Prop := Claim7.holds Tryd.pinned (.plain (OpenSpec.ofChange deviceNextSpec)) deviceNextCard

/-- THE TIED CARD OF 'commutatorlaw55.DeviceWords'. -/
def deviceWordsCard : Claim7 := { stood := { row := deviceWordsRow, standIns := [], harness := (true, "d480b5a26ea11ea7469ea549bbe47c1c4d0252563e10887d6c11bd0372b1d745"), looks := true }, kinds := [], alts := [], laidByText := true, laidKinds := [.data], laidTests := true, laidLooks := .later }
def DeviceWordsCardSaid : Prop := Claim7.holds Tryd.pinned (.plain (OpenSpec.ofChange deviceWordsSpec)) deviceWordsCard

/-- THE TIED CARD OF 'commutatorlaw55.DeviceEnters'. -/
def deviceEntersCard : Claim7 := { stood := { row := deviceEntersRow, standIns := [], harness := (true, "d480b5a26ea11ea7469ea549bbe47c1c4d0252563e10887d6c11bd0372b1d745"), looks := true }, kinds := [], alts := [], laidByText := true, laidKinds := [.data], laidTests := true, laidLooks := .later }
def DeviceEntersCardSaid : Prop := Claim7.holds Tryd.pinned (.plain (OpenSpec.ofChange deviceEntersSpec)) deviceEntersCard

/-- THE TIED CARD OF 'commutatorlaw55.DeviceLeads'. -/
def deviceLeadsCard : Claim7 := { stood := { row := deviceLeadsRow, standIns := [], harness := (true, "d480b5a26ea11ea7469ea549bbe47c1c4d0252563e10887d6c11bd0372b1d745"), looks := true }, kinds := [], alts := [], laidByText := true, laidKinds := [.data], laidTests := true, laidLooks := .later }
def DeviceLeadsCardSaid : Prop := Claim7.holds Tryd.pinned (.plain (OpenSpec.ofChange deviceLeadsSpec)) deviceLeadsCard

/-- THE TIED CARD OF 'commutatorlaw55.DeviceFaults'. -/
def deviceFaultsCard : Claim7 := { stood := { row := deviceFaultsRow, standIns := [], harness := (true, "d480b5a26ea11ea7469ea549bbe47c1c4d0252563e10887d6c11bd0372b1d745"), looks := true }, kinds := [], alts := [], laidByText := true, laidKinds := [.data], laidTests := true, laidLooks := .later }
def DeviceFaultsCardSaid : Prop := Claim7.holds Tryd.pinned (.plain (OpenSpec.ofChange deviceFaultsSpec)) deviceFaultsCard

/-- THE TIED CARD OF 'commutatorlaw55.DeviceVoltage'. -/
def deviceVoltageCard : Claim7 := { stood := { row := deviceVoltageRow, standIns := [], harness := (true, "d480b5a26ea11ea7469ea549bbe47c1c4d0252563e10887d6c11bd0372b1d745"), looks := true }, kinds := [], alts := [], laidByText := true, laidKinds := [.data], laidTests := true, laidLooks := .later }
def DeviceVoltageCardSaid : Prop := Claim7.holds Tryd.pinned (.plain (OpenSpec.ofChange deviceVoltageSpec)) deviceVoltageCard

/-- THE TIED CARD OF 'commutatorlaw55.DeviceStatus'. -/
def deviceStatusCard : Claim7 := { stood := { row := deviceStatusRow, standIns := [], harness := (true, "d480b5a26ea11ea7469ea549bbe47c1c4d0252563e10887d6c11bd0372b1d745"), looks := true }, kinds := [], alts := [], laidByText := true, laidKinds := [.data, .data], laidTests := true, laidLooks := .later }
def DeviceStatusCardSaid : Prop := Claim7.holds Tryd.pinned (.plain (OpenSpec.ofChange deviceStatusSpec)) deviceStatusCard

/-- THE SECOND FORM's CARD OF 'commutatorlaw55.DeviceNext'. -/
def deviceNextUptoCard : Claim7 := { stood := { row := deviceNextUptoRow, standIns := [], harness := (true, "d480b5a26ea11ea7469ea549bbe47c1c4d0252563e10887d6c11bd0372b1d745"), looks := true }, kinds := [], alts := [], laidByText := true, laidKinds := [.data], laidTests := true, laidLooks := .later }
def DeviceNextUptoCardSaid : Prop := Claim7.holds Tryd.pinned (.plain (OpenSpec.upto deviceNextSpec)) deviceNextUptoCard

/-- THE SECOND FORM's CARD OF 'commutatorlaw55.DeviceWords'. -/
def deviceWordsUptoCard : Claim7 := { stood := { row := deviceWordsUptoRow, standIns := [], harness := (true, "d480b5a26ea11ea7469ea549bbe47c1c4d0252563e10887d6c11bd0372b1d745"), looks := true }, kinds := [], alts := [], laidByText := true, laidKinds := [.data], laidTests := true, laidLooks := .later }
def DeviceWordsUptoCardSaid : Prop := Claim7.holds Tryd.pinned (.plain (OpenSpec.upto deviceWordsSpec)) deviceWordsUptoCard

/-- THE SECOND FORM's CARD OF 'commutatorlaw55.DeviceEnters'. -/
def deviceEntersUptoCard : Claim7 := { stood := { row := deviceEntersUptoRow, standIns := [], harness := (true, "d480b5a26ea11ea7469ea549bbe47c1c4d0252563e10887d6c11bd0372b1d745"), looks := true }, kinds := [], alts := [], laidByText := true, laidKinds := [.data], laidTests := true, laidLooks := .later }
def DeviceEntersUptoCardSaid : Prop := Claim7.holds Tryd.pinned (.plain (OpenSpec.upto deviceEntersSpec)) deviceEntersUptoCard

/-- THE SECOND FORM's CARD OF 'commutatorlaw55.DeviceLeads'. -/
def deviceLeadsUptoCard : Claim7 := { stood := { row := deviceLeadsUptoRow, standIns := [], harness := (true, "d480b5a26ea11ea7469ea549bbe47c1c4d0252563e10887d6c11bd0372b1d745"), looks := true }, kinds := [], alts := [], laidByText := true, laidKinds := [.data], laidTests := true, laidLooks := .later }
def DeviceLeadsUptoCardSaid : Prop := Claim7.holds Tryd.pinned (.plain (OpenSpec.upto deviceLeadsSpec)) deviceLeadsUptoCard

/-- THE SECOND FORM's CARD OF 'commutatorlaw55.DeviceFaults'. -/
def deviceFaultsUptoCard : Claim7 := { stood := { row := deviceFaultsUptoRow, standIns := [], harness := (true, "d480b5a26ea11ea7469ea549bbe47c1c4d0252563e10887d6c11bd0372b1d745"), looks := true }, kinds := [], alts := [], laidByText := true, laidKinds := [.data], laidTests := true, laidLooks := .later }
def DeviceFaultsUptoCardSaid : Prop := Claim7.holds Tryd.pinned (.plain (OpenSpec.upto deviceFaultsSpec)) deviceFaultsUptoCard

/-- THE SECOND FORM's CARD OF 'commutatorlaw55.DeviceVoltage'. -/
def deviceVoltageUptoCard : Claim7 := { stood := { row := deviceVoltageUptoRow, standIns := [], harness := (true, "d480b5a26ea11ea7469ea549bbe47c1c4d0252563e10887d6c11bd0372b1d745"), looks := true }, kinds := [], alts := [], laidByText := true, laidKinds := [.data], laidTests := true, laidLooks := .later }
def DeviceVoltageUptoCardSaid : Prop := Claim7.holds Tryd.pinned (.plain (OpenSpec.upto deviceVoltageSpec)) deviceVoltageUptoCard

/-- THE SECOND FORM's CARD OF 'commutatorlaw55.DeviceStatus'. -/
def deviceStatusUptoCard : Claim7 := { stood := { row := deviceStatusUptoRow, standIns := [], harness := (true, "d480b5a26ea11ea7469ea549bbe47c1c4d0252563e10887d6c11bd0372b1d745"), looks := true }, kinds := [], alts := [], laidByText := true, laidKinds := [.data, .data], laidTests := true, laidLooks := .later }
def DeviceStatusUptoCardSaid : Prop := Claim7.holds Tryd.pinned (.plain (OpenSpec.upto deviceStatusSpec)) deviceStatusUptoCard
end Rows
end Go.Proofs.YtnoihjjenceeaaaDoor
