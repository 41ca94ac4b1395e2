/-
  DERIVED. GIVEN WITH THE SEED: THE CARDS: each row of YtcmjddkljmfklaaDoorRows.lean that lists a variable, with what it lists TIED to the program's text (the seventh form; the later family's looks); each row that meets fmt, with fmt's text TOLD by the authors' own Lean function (tested against real Go, not proved from fmt's source: count such statements apart). THE CARD IS WHAT COUNTS. Prove the row's statement (the work); the ties are given (YtcmjddkljmfklaaDoorTie.lean); close each card by the builder's one call (the guide's Derived/Test/ToyasCard.lean, 'card_holds'). Laid BY PROGRAM, IN A SANDBOX (cutbox-door.mjs). By AI agents, Wed Nov 11 2026. No macro, syntax, notation, axiom, sorry.
-/
import Derived.Test.YtcmjddkljmfklaaDoorRows
import GoSem.ClaimSeven
namespace Go.Proofs.YtcmjddkljmfklaaDoor
namespace Rows

/-- THE TIED CARD OF 'amblerlaw04.ProbeWalks'. -/
def probeWalksCard : Claim7 := { stood := { row := probeWalksRow, standIns := [], harness := (true, "bfbc54b3f7fdba2b2d0202e3cde6b5a4a309b9dba9d4785812608a753fa0b3c5"), looks := true }, kinds := [], alts := [], laidByText := true, laidKinds := [.sentinel, .sentinel, .sentinel, .sentinel, .sentinel, .sentinel, .sentinel, .sentinel, .sentinel, .sentinel, .sentinel, .sentinel, .sentinel, .sentinel, .sentinel, .sentinel], laidTests := true, laidLooks := .later }
def ProbeWalksCardSaid : Prop := Claim7.holds Tryd.pinned (.plain (OpenSpec.ofChange probeWalksSpec)) probeWalksCard

/-- THE TIED CARD OF 'amblerlaw06.MeterActs'. -/
def meterActsCard : Claim7 := { stood := { row := meterActsRow, standIns := [], harness := (true, "bfbc54b3f7fdba2b2d0202e3cde6b5a4a309b9dba9d4785812608a753fa0b3c5"), looks := true }, kinds := [], alts := [], laidByText := true, laidKinds := [.sentinel, .sentinel, .sentinel, .sentinel, .sentinel, .sentinel, .sentinel, .sentinel, .sentinel, .sentinel, .sentinel, .sentinel, .sentinel, .sentinel, .sentinel, .sentinel], laidTests := true, laidLooks := .later }
def MeterActsCardSaid : Prop := Claim7.holds Tryd.pinned (.plain (OpenSpec.ofChange meterActsSpec)) meterActsCard

/-- THE TIED CARD OF 'amblerlaw08.GroupOrder'. -/
def groupOrderCard : Claim7 := { stood := { row := groupOrderRow, standIns := [], harness := (true, "bfbc54b3f7fdba2b2d0202e3cde6b5a4a309b9dba9d4785812608a753fa0b3c5"), looks := true }, kinds := [], alts := [], laidByText := true, laidKinds := [.data, .sentinel, .sentinel, .sentinel], laidTests := true, laidLooks := .later }
def GroupOrderCardSaid : Prop := Claim7.holds Tryd.pinned (.plain (OpenSpec.ofChange groupOrderSpec)) groupOrderCard

/-- THE TIED CARD OF 'amblerlaw08.GroupOpen'. -/
def groupOpenCard : Claim7 := { stood := { row := groupOpenRow, standIns := [], harness := (true, "bfbc54b3f7fdba2b2d0202e3cde6b5a4a309b9dba9d4785812608a753fa0b3c5"), looks := true }, kinds := [], alts := [], laidByText := true, laidKinds := [.data, .sentinel, .sentinel, .sentinel], laidTests := true, laidLooks := .later }
def GroupOpenCardSaid : Prop := Claim7.holds Tryd.pinned (.plain (OpenSpec.ofChange groupOpenSpec)) groupOpenCard

/-- THE TIED CARD OF 'amblerlaw08.GroupActs'. -/
def groupActsCard : Claim7 := { stood := { row := groupActsRow, standIns := [], harness := (true, "bfbc54b3f7fdba2b2d0202e3cde6b5a4a309b9dba9d4785812608a753fa0b3c5"), looks := true }, kinds := [], alts := [], laidByText := true, laidKinds := [.data, .sentinel, .sentinel, .sentinel, .sentinel, .sentinel, .sentinel, .sentinel, .sentinel, .sentinel, .sentinel, .sentinel, .sentinel, .sentinel, .sentinel, .sentinel, .sentinel], laidTests := true, laidLooks := .later }
def GroupActsCardSaid : Prop := Claim7.holds Tryd.pinned (.plain (OpenSpec.ofChange groupActsSpec)) groupActsCard

/-- THE TIED CARD OF 'amblerlaw09.TableFunction'. -/
def tableFunctionCard : Claim7 := { stood := { row := tableFunctionRow, standIns := [], harness := (true, "bfbc54b3f7fdba2b2d0202e3cde6b5a4a309b9dba9d4785812608a753fa0b3c5"), looks := true }, kinds := [], alts := [], laidByText := true, laidKinds := [.data, .sentinel, .sentinel, .sentinel, .sentinel, .sentinel, .sentinel, .sentinel, .sentinel, .sentinel, .sentinel, .sentinel, .sentinel, .sentinel, .sentinel, .sentinel, .sentinel], laidTests := true, laidLooks := .later }
def TableFunctionCardSaid : Prop := Claim7.holds Tryd.pinned (.plain (OpenSpec.ofChange tableFunctionSpec)) tableFunctionCard

/-- THE TIED CARD OF 'amblerlaw09.TableRaw'. -/
def tableRawCard : Claim7 := { stood := { row := tableRawRow, standIns := [], harness := (true, "bfbc54b3f7fdba2b2d0202e3cde6b5a4a309b9dba9d4785812608a753fa0b3c5"), looks := true }, kinds := [], alts := [], laidByText := true, laidKinds := [.data, .sentinel, .sentinel, .sentinel, .sentinel, .sentinel, .sentinel, .sentinel, .sentinel, .sentinel, .sentinel, .sentinel, .sentinel, .sentinel, .sentinel, .sentinel, .sentinel], laidTests := true, laidLooks := .later }
def TableRawCardSaid : Prop := Claim7.holds Tryd.pinned (.plain (OpenSpec.ofChange tableRawSpec)) tableRawCard

/-- THE TIED CARD OF 'amblerlaw09.TableOne'. -/
def tableOneCard : Claim7 := { stood := { row := tableOneRow, standIns := [], harness := (true, "bfbc54b3f7fdba2b2d0202e3cde6b5a4a309b9dba9d4785812608a753fa0b3c5"), looks := true }, kinds := [], alts := [], laidByText := true, laidKinds := [.data, .sentinel, .sentinel, .sentinel, .sentinel, .sentinel, .sentinel, .sentinel, .sentinel, .sentinel, .sentinel, .sentinel, .sentinel, .sentinel, .sentinel, .sentinel, .sentinel], laidTests := true, laidLooks := .later }
def TableOneCardSaid : Prop := Claim7.holds Tryd.pinned (.plain (OpenSpec.ofChange tableOneSpec)) tableOneCard

/-- THE TIED CARD OF 'amblerlaw09.TableLeast'. -/
def tableLeastCard : Claim7 := { stood := { row := tableLeastRow, standIns := [], harness := (true, "bfbc54b3f7fdba2b2d0202e3cde6b5a4a309b9dba9d4785812608a753fa0b3c5"), looks := true }, kinds := [], alts := [], laidByText := true, laidKinds := [.data, .sentinel, .sentinel, .sentinel, .sentinel, .sentinel, .sentinel, .sentinel, .sentinel, .sentinel, .sentinel, .sentinel, .sentinel, .sentinel, .sentinel, .sentinel, .sentinel], laidTests := true, laidLooks := .later }
def TableLeastCardSaid : Prop := Claim7.holds Tryd.pinned (.plain (OpenSpec.ofChange tableLeastSpec)) tableLeastCard

/-- THE SECOND FORM's CARD OF 'amblerlaw04.ProbeWalks'. -/
def probeWalksUptoCard : Claim7 := { stood := { row := probeWalksUptoRow, standIns := [], harness := (true, "bfbc54b3f7fdba2b2d0202e3cde6b5a4a309b9dba9d4785812608a753fa0b3c5"), looks := true }, kinds := [], alts := [], laidByText := true, laidKinds := [.sentinel, .sentinel, .sentinel, .sentinel, .sentinel, .sentinel, .sentinel, .sentinel, .sentinel, .sentinel, .sentinel, .sentinel, .sentinel, .sentinel, .sentinel, .sentinel], laidTests := true, laidLooks := .later }
def ProbeWalksUptoCardSaid : Prop := Claim7.holds Tryd.pinned (.plain (OpenSpec.upto probeWalksSpec)) probeWalksUptoCard

/-- THE SECOND FORM's CARD OF 'amblerlaw06.MeterActs'. -/
def meterActsUptoCard : Claim7 := { stood := { row := meterActsUptoRow, standIns := [], harness := (true, "bfbc54b3f7fdba2b2d0202e3cde6b5a4a309b9dba9d4785812608a753fa0b3c5"), looks := true }, kinds := [], alts := [], laidByText := true, laidKinds := [.sentinel, .sentinel, .sentinel, .sentinel, .sentinel, .sentinel, .sentinel, .sentinel, .sentinel, .sentinel, .sentinel, .sentinel, .sentinel, .sentinel, .sentinel, .sentinel], laidTests := true, laidLooks := .later }
def MeterActsUptoCardSaid : Prop := Claim7.holds Tryd.pinned (.plain (OpenSpec.upto meterActsSpec)) meterActsUptoCard

/-- THE SECOND FORM's CARD OF 'amblerlaw08.GroupOrder'. -/
def groupOrderUptoCard : Claim7 := { stood := { row := groupOrderUptoRow, standIns := [], harness := (true, "bfbc54b3f7fdba2b2d0202e3cde6b5a4a309b9dba9d4785812608a753fa0b3c5"), looks := true }, kinds := [], alts := [], laidByText := true, laidKinds := [.data, .sentinel, .sentinel, .sentinel], laidTests := true, laidLooks := .later }
def GroupOrderUptoCardSaid : Prop := Claim7.holds Tryd.pinned (.plain (OpenSpec.upto groupOrderSpec)) groupOrderUptoCard

/-- THE SECOND FORM's CARD OF 'amblerlaw08.GroupOpen'. -/
def groupOpenUptoCard : Claim7 := { stood := { row := groupOpenUptoRow, standIns := [], harness := (true, "bfbc54b3f7fdba2b2d0202e3cde6b5a4a309b9dba9d4785812608a753fa0b3c5"), looks := true }, kinds := [], alts := [], laidByText := true, laidKinds := [.data, .sentinel, .sentinel, .sentinel], laidTests := true, laidLooks := .later }
def GroupOpenUptoCardSaid : Prop := Claim7.holds Tryd.pinned (.plain (OpenSpec.upto groupOpenSpec)) groupOpenUptoCard

/-- THE SECOND FORM's CARD OF 'amblerlaw08.GroupActs'. -/
def groupActsUptoCard : Claim7 := { stood := { row := groupActsUptoRow, standIns := [], harness := (true, "bfbc54b3f7fdba2b2d0202e3cde6b5a4a309b9dba9d4785812608a753fa0b3c5"), looks := true }, kinds := [], alts := [], laidByText := true, laidKinds := [.data, .sentinel, .sentinel, .sentinel, .sentinel, .sentinel, .sentinel, .sentinel, .sentinel, .sentinel, .sentinel, .sentinel, .sentinel, .sentinel, .sentinel, .sentinel, .sentinel], laidTests := true, laidLooks := .later }
def GroupActsUptoCardSaid : Prop := Claim7.holds Tryd.pinned (.plain (OpenSpec.upto groupActsSpec)) groupActsUptoCard

/-- THE SECOND FORM's CARD OF 'amblerlaw09.TableFunction'. -/
def tableFunctionUptoCard : Claim7 := { stood := { row := tableFunctionUptoRow, standIns := [], harness := (true, "bfbc54b3f7fdba2b2d0202e3cde6b5a4a309b9dba9d4785812608a753fa0b3c5"), looks := true }, kinds := [], alts := [], laidByText := true, laidKinds := [.data, .sentinel, .sentinel, .sentinel, .sentinel, .sentinel, .sentinel, .sentinel, .sentinel, .sentinel, .sentinel, .sentinel, .sentinel, .sentinel, .sentinel, .sentinel, .sentinel], laidTests := true, laidLooks := .later }
def TableFunctionUptoCardSaid : Prop := Claim7.holds Tryd.pinned (.plain (OpenSpec.upto tableFunctionSpec)) tableFunctionUptoCard

/-- THE SECOND FORM's CARD OF 'amblerlaw09.TableRaw'. -/
def tableRawUptoCard : Claim7 := { stood := { row := tableRawUptoRow, standIns := [], harness := (true, "bfbc54b3f7fdba2b2d0202e3cde6b5a4a309b9dba9d4785812608a753fa0b3c5"), looks := true }, kinds := [], alts := [], laidByText := true, laidKinds := [.data, .sentinel, .sentinel, .sentinel, .sentinel, .sentinel, .sentinel, .sentinel, .sentinel, .sentinel, .sentinel, .sentinel, .sentinel, .sentinel, .sentinel, .sentinel, .sentinel], laidTests := true, laidLooks := .later }
def TableRawUptoCardSaid : Prop := Claim7.holds Tryd.pinned (.plain (OpenSpec.upto tableRawSpec)) tableRawUptoCard

/-- THE SECOND FORM's CARD OF 'amblerlaw09.TableOne'. -/
def tableOneUptoCard : Claim7 := { stood := { row := tableOneUptoRow, standIns := [], harness := (true, "bfbc54b3f7fdba2b2d0202e3cde6b5a4a309b9dba9d4785812608a753fa0b3c5"), looks := true }, kinds := [], alts := [], laidByText := true, laidKinds := [.data, .sentinel, .sentinel, .sentinel, .sentinel, .sentinel, .sentinel, .sentinel, .sentinel, .sentinel, .sentinel, .sentinel, .sentinel, .sentinel, .sentinel, .sentinel, .sentinel], laidTests := true, laidLooks := .later }
def TableOneUptoCardSaid : Prop := Claim7.holds Tryd.pinned (.plain (OpenSpec.upto tableOneSpec)) tableOneUptoCard

/-- THE SECOND FORM's CARD OF 'amblerlaw09.TableLeast'. -/
def tableLeastUptoCard : Claim7 := { stood := { row := tableLeastUptoRow, standIns := [], harness := (true, "bfbc54b3f7fdba2b2d0202e3cde6b5a4a309b9dba9d4785812608a753fa0b3c5"), looks := true }, kinds := [], alts := [], laidByText := true, laidKinds := [.data, .sentinel, .sentinel, .sentinel, .sentinel, .sentinel, .sentinel, .sentinel, .sentinel, .sentinel, .sentinel, .sentinel, .sentinel, .sentinel, .sentinel, .sentinel, .sentinel], laidTests := true, laidLooks := .later }
def TableLeastUptoCardSaid : Prop := Claim7.holds Tryd.pinned (.plain (OpenSpec.upto tableLeastSpec)) tableLeastUptoCard
end Rows
end Go.Proofs.YtcmjddkljmfklaaDoor
