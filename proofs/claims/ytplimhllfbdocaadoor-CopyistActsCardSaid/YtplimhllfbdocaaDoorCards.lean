/-
  DERIVED. GIVEN WITH THE SEED: THE CARDS: each row of YtplimhllfbdocaaDoorRows.lean that lists a variable, with what it lists TIED to the program's text (the seventh form; the later family's looks); each row that meets fmt, with fmt's text TOLD by the authors' own Lean function (tested against real Go, not proved from fmt's source: count such statements apart). THE CARD IS WHAT COUNTS. Prove the row's statement (the work); the ties are given (YtplimhllfbdocaaDoorTie.lean); close each card by the builder's one call (the guide's Derived/Test/ToyasCard.lean, 'card_holds'). Laid BY PROGRAM, IN A SANDBOX (cutbox-door.mjs). By AI agents, Wed Nov 11 2026. No macro, syntax, notation, axiom, sorry.
-/
import Derived.Test.YtplimhllfbdocaaDoorRows
import GoSem.ClaimSeven
namespace Go.Proofs.YtplimhllfbdocaaDoor
namespace Rows

/-- THE TIED CARD OF 'amblerlaw29.MixTells'. -/
def mixTellsCard : Claim7 := { stood := { row := mixTellsRow, standIns := [], harness := (true, "3d97f39469bc4e37cc5dc389d161b516f432e744da2bfab6e298e498c2cc7e8d"), looks := true }, kinds := [], alts := [], laidByText := true, laidKinds := [.sentinel, .sentinel, .sentinel, .sentinel, .sentinel, .sentinel, .sentinel, .sentinel, .sentinel, .sentinel, .sentinel, .sentinel, .sentinel, .sentinel, .sentinel, .sentinel, .widerDeep], laidTests := true, laidLooks := .later }
def MixTellsCardSaid : Prop := Claim7.holds Tryd.pinned (.plain (OpenSpec.ofChange mixTellsSpec)) mixTellsCard

/-- THE TIED CARD OF 'amblerlaw14.ChooseTells'. -/
def chooseTellsCard : Claim7 := { stood := { row := chooseTellsRow, standIns := [], harness := (true, "3d97f39469bc4e37cc5dc389d161b516f432e744da2bfab6e298e498c2cc7e8d"), looks := true }, kinds := [], alts := [], laidByText := true, laidKinds := [.sentinel, .sentinel, .sentinel, .sentinel, .sentinel, .sentinel, .sentinel, .sentinel, .sentinel, .sentinel, .sentinel, .sentinel, .sentinel, .sentinel, .sentinel, .sentinel, .data], laidTests := true, laidLooks := .later }
def ChooseTellsCardSaid : Prop := Claim7.holds Tryd.pinned (.plain (OpenSpec.ofChange chooseTellsSpec)) chooseTellsCard

/-- THE TIED CARD OF 'amblerlaw04.ProbeWalks'. -/
def probeWalksCard : Claim7 := { stood := { row := probeWalksRow, standIns := [], harness := (true, "3d97f39469bc4e37cc5dc389d161b516f432e744da2bfab6e298e498c2cc7e8d"), looks := true }, kinds := [], alts := [], laidByText := true, laidKinds := [.sentinel, .sentinel, .sentinel, .sentinel, .sentinel, .sentinel, .sentinel, .sentinel, .sentinel, .sentinel, .sentinel, .sentinel, .sentinel, .sentinel, .sentinel, .sentinel], laidTests := true, laidLooks := .later }
def ProbeWalksCardSaid : Prop := Claim7.holds Tryd.pinned (.plain (OpenSpec.ofChange probeWalksSpec)) probeWalksCard

/-- THE TIED CARD OF 'amblerlaw06.MeterActs'. -/
def meterActsCard : Claim7 := { stood := { row := meterActsRow, standIns := [], harness := (true, "3d97f39469bc4e37cc5dc389d161b516f432e744da2bfab6e298e498c2cc7e8d"), looks := true }, kinds := [], alts := [], laidByText := true, laidKinds := [.sentinel, .sentinel, .sentinel, .sentinel, .sentinel, .sentinel, .sentinel, .sentinel, .sentinel, .sentinel, .sentinel, .sentinel, .sentinel, .sentinel, .sentinel, .sentinel], laidTests := true, laidLooks := .later }
def MeterActsCardSaid : Prop := Claim7.holds Tryd.pinned (.plain (OpenSpec.ofChange meterActsSpec)) meterActsCard

/-- THE TIED CARD OF 'amblerlaw06.MeterLast'. -/
def meterLastCard : Claim7 := { stood := { row := meterLastRow, standIns := [], harness := (true, "3d97f39469bc4e37cc5dc389d161b516f432e744da2bfab6e298e498c2cc7e8d"), looks := true }, kinds := [], alts := [], laidByText := true, laidKinds := [.sentinel, .sentinel, .sentinel, .sentinel, .sentinel, .sentinel, .sentinel, .sentinel, .sentinel, .sentinel, .sentinel, .sentinel, .sentinel, .sentinel, .sentinel, .sentinel], laidTests := true, laidLooks := .later }
def MeterLastCardSaid : Prop := Claim7.holds Tryd.pinned (.plain (OpenSpec.ofChange meterLastSpec)) meterLastCard

/-- THE TIED CARD OF 'amblerlaw06.MeterJoins'. -/
def meterJoinsCard : Claim7 := { stood := { row := meterJoinsRow, standIns := [], harness := (true, "3d97f39469bc4e37cc5dc389d161b516f432e744da2bfab6e298e498c2cc7e8d"), looks := true }, kinds := [], alts := [], laidByText := true, laidKinds := [.sentinel, .sentinel, .sentinel, .sentinel, .sentinel, .sentinel, .sentinel, .sentinel, .sentinel, .sentinel, .sentinel, .sentinel, .sentinel, .sentinel, .sentinel, .sentinel], laidTests := true, laidLooks := .later }
def MeterJoinsCardSaid : Prop := Claim7.holds Tryd.pinned (.plain (OpenSpec.ofChange meterJoinsSpec)) meterJoinsCard

/-- THE TIED CARD OF 'amblerlaw17.CopyistKeeps'. -/
def copyistKeepsCard : Claim7 := { stood := { row := copyistKeepsRow, standIns := [], harness := (true, "3d97f39469bc4e37cc5dc389d161b516f432e744da2bfab6e298e498c2cc7e8d"), looks := true }, kinds := [], alts := [], laidByText := true, laidKinds := [.sentinel, .sentinel, .sentinel, .sentinel, .sentinel], laidTests := true, laidLooks := .later }
def CopyistKeepsCardSaid : Prop := Claim7.holds Tryd.pinned (.plain (OpenSpec.ofChange copyistKeepsSpec)) copyistKeepsCard

/-- THE TIED CARD OF 'amblerlaw17.CopyistActs'. -/
def copyistActsCard : Claim7 := { stood := { row := copyistActsRow, standIns := [], harness := (true, "3d97f39469bc4e37cc5dc389d161b516f432e744da2bfab6e298e498c2cc7e8d"), looks := true }, kinds := [], alts := [], laidByText := true, laidKinds := [.sentinel, .sentinel, .sentinel, .sentinel, .sentinel, .sentinel, .sentinel, .sentinel, .sentinel, .sentinel, .sentinel, .sentinel, .sentinel, .sentinel, .sentinel, .sentinel], laidTests := true, laidLooks := .later }
def CopyistActsCardSaid : Prop := Claim7.holds Tryd.pinned (.plain (OpenSpec.ofChange copyistActsSpec)) copyistActsCard

/-- THE TIED CARD OF 'amblerlaw08.GroupOrder'. -/
def groupOrderCard : Claim7 := { stood := { row := groupOrderRow, standIns := [], harness := (true, "3d97f39469bc4e37cc5dc389d161b516f432e744da2bfab6e298e498c2cc7e8d"), looks := true }, kinds := [], alts := [], laidByText := true, laidKinds := [.data, .sentinel, .sentinel, .sentinel], laidTests := true, laidLooks := .later }
def GroupOrderCardSaid : Prop := Claim7.holds Tryd.pinned (.plain (OpenSpec.ofChange groupOrderSpec)) groupOrderCard

/-- THE TIED CARD OF 'amblerlaw08.GroupOpen'. -/
def groupOpenCard : Claim7 := { stood := { row := groupOpenRow, standIns := [], harness := (true, "3d97f39469bc4e37cc5dc389d161b516f432e744da2bfab6e298e498c2cc7e8d"), looks := true }, kinds := [], alts := [], laidByText := true, laidKinds := [.data, .sentinel, .sentinel, .sentinel], laidTests := true, laidLooks := .later }
def GroupOpenCardSaid : Prop := Claim7.holds Tryd.pinned (.plain (OpenSpec.ofChange groupOpenSpec)) groupOpenCard

/-- THE TIED CARD OF 'amblerlaw08.GroupActs'. -/
def groupActsCard : Claim7 := { stood := { row := groupActsRow, standIns := [], harness := (true, "3d97f39469bc4e37cc5dc389d161b516f432e744da2bfab6e298e498c2cc7e8d"), looks := true }, kinds := [], alts := [], laidByText := true, laidKinds := [.data, .sentinel, .sentinel, .sentinel, .sentinel, .sentinel, .sentinel, .sentinel, .sentinel, .sentinel, .sentinel, .sentinel, .sentinel, .sentinel, .sentinel, .sentinel, .sentinel], laidTests := true, laidLooks := .later }
def GroupActsCardSaid : Prop := Claim7.holds Tryd.pinned (.plain (OpenSpec.ofChange groupActsSpec)) groupActsCard

/-- THE TIED CARD OF 'amblerlaw09.TableFunction'. -/
def tableFunctionCard : Claim7 := { stood := { row := tableFunctionRow, standIns := [], harness := (true, "3d97f39469bc4e37cc5dc389d161b516f432e744da2bfab6e298e498c2cc7e8d"), looks := true }, kinds := [], alts := [], laidByText := true, laidKinds := [.data, .sentinel, .sentinel, .sentinel, .sentinel, .sentinel, .sentinel, .sentinel, .sentinel, .sentinel, .sentinel, .sentinel, .sentinel, .sentinel, .sentinel, .sentinel, .sentinel], laidTests := true, laidLooks := .later }
def TableFunctionCardSaid : Prop := Claim7.holds Tryd.pinned (.plain (OpenSpec.ofChange tableFunctionSpec)) tableFunctionCard

/-- THE SECOND FORM's CARD OF 'amblerlaw29.MixTells'. -/
def mixTellsUptoCard : Claim7 := { stood := { row := mixTellsUptoRow, standIns := [], harness := (true, "3d97f39469bc4e37cc5dc389d161b516f432e744da2bfab6e298e498c2cc7e8d"), looks := true }, kinds := [], alts := [], laidByText := true, laidKinds := [.sentinel, .sentinel, .sentinel, .sentinel, .sentinel, .sentinel, .sentinel, .sentinel, .sentinel, .sentinel, .sentinel, .sentinel, .sentinel, .sentinel, .sentinel, .sentinel, .widerDeep], laidTests := true, laidLooks := .later }
def MixTellsUptoCardSaid : Prop := Claim7.holds Tryd.pinned (.plain (OpenSpec.upto mixTellsSpec)) mixTellsUptoCard

/-- THE SECOND FORM's CARD OF 'amblerlaw14.ChooseTells'. -/
def chooseTellsUptoCard : Claim7 := { stood := { row := chooseTellsUptoRow, standIns := [], harness := (true, "3d97f39469bc4e37cc5dc389d161b516f432e744da2bfab6e298e498c2cc7e8d"), looks := true }, kinds := [], alts := [], laidByText := true, laidKinds := [.sentinel, .sentinel, .sentinel, .sentinel, .sentinel, .sentinel, .sentinel, .sentinel, .sentinel, .sentinel, .sentinel, .sentinel, .sentinel, .sentinel, .sentinel, .sentinel, .data], laidTests := true, laidLooks := .later }
def ChooseTellsUptoCardSaid : Prop := Claim7.holds Tryd.pinned (.plain (OpenSpec.upto chooseTellsSpec)) chooseTellsUptoCard

/-- THE SECOND FORM's CARD OF 'amblerlaw04.ProbeWalks'. -/
def probeWalksUptoCard : Claim7 := { stood := { row := probeWalksUptoRow, standIns := [], harness := (true, "3d97f39469bc4e37cc5dc389d161b516f432e744da2bfab6e298e498c2cc7e8d"), looks := true }, kinds := [], alts := [], laidByText := true, laidKinds := [.sentinel, .sentinel, .sentinel, .sentinel, .sentinel, .sentinel, .sentinel, .sentinel, .sentinel, .sentinel, .sentinel, .sentinel, .sentinel, .sentinel, .sentinel, .sentinel], laidTests := true, laidLooks := .later }
def ProbeWalksUptoCardSaid : Prop := Claim7.holds Tryd.pinned (.plain (OpenSpec.upto probeWalksSpec)) probeWalksUptoCard

/-- THE SECOND FORM's CARD OF 'amblerlaw06.MeterActs'. -/
def meterActsUptoCard : Claim7 := { stood := { row := meterActsUptoRow, standIns := [], harness := (true, "3d97f39469bc4e37cc5dc389d161b516f432e744da2bfab6e298e498c2cc7e8d"), looks := true }, kinds := [], alts := [], laidByText := true, laidKinds := [.sentinel, .sentinel, .sentinel, .sentinel, .sentinel, .sentinel, .sentinel, .sentinel, .sentinel, .sentinel, .sentinel, .sentinel, .sentinel, .sentinel, .sentinel, .sentinel], laidTests := true, laidLooks := .later }
def MeterActsUptoCardSaid : Prop := Claim7.holds Tryd.pinned (.plain (OpenSpec.upto meterActsSpec)) meterActsUptoCard

/-- THE SECOND FORM's CARD OF 'amblerlaw06.MeterLast'. -/
def meterLastUptoCard : Claim7 := { stood := { row := meterLastUptoRow, standIns := [], harness := (true, "3d97f39469bc4e37cc5dc389d161b516f432e744da2bfab6e298e498c2cc7e8d"), looks := true }, kinds := [], alts := [], laidByText := true, laidKinds := [.sentinel, .sentinel, .sentinel, .sentinel, .sentinel, .sentinel, .sentinel, .sentinel, .sentinel, .sentinel, .sentinel, .sentinel, .sentinel, .sentinel, .sentinel, .sentinel], laidTests := true, laidLooks := .later }
def MeterLastUptoCardSaid : Prop := Claim7.holds Tryd.pinned (.plain (OpenSpec.upto meterLastSpec)) meterLastUptoCard

/-- THE SECOND FORM's CARD OF 'amblerlaw06.MeterJoins'. -/
def meterJoinsUptoCard : Claim7 := { stood := { row := meterJoinsUptoRow, standIns := [], harness := (true, "3d97f39469bc4e37cc5dc389d161b516f432e744da2bfab6e298e498c2cc7e8d"), looks := true }, kinds := [], alts := [], laidByText := true, laidKinds := [.sentinel, .sentinel, .sentinel, .sentinel, .sentinel, .sentinel, .sentinel, .sentinel, .sentinel, .sentinel, .sentinel, .sentinel, .sentinel, .sentinel, .sentinel, .sentinel], laidTests := true, laidLooks := .later }
def MeterJoinsUptoCardSaid : Prop := Claim7.holds Tryd.pinned (.plain (OpenSpec.upto meterJoinsSpec)) meterJoinsUptoCard

/-- THE SECOND FORM's CARD OF 'amblerlaw17.CopyistKeeps'. -/
def copyistKeepsUptoCard : Claim7 := { stood := { row := copyistKeepsUptoRow, standIns := [], harness := (true, "3d97f39469bc4e37cc5dc389d161b516f432e744da2bfab6e298e498c2cc7e8d"), looks := true }, kinds := [], alts := [], laidByText := true, laidKinds := [.sentinel, .sentinel, .sentinel, .sentinel, .sentinel], laidTests := true, laidLooks := .later }
def CopyistKeepsUptoCardSaid : Prop := Claim7.holds Tryd.pinned (.plain (OpenSpec.upto copyistKeepsSpec)) copyistKeepsUptoCard

/-- THE SECOND FORM's CARD OF 'amblerlaw17.CopyistActs'. -/
def copyistActsUptoCard : Claim7 := { stood := { row := copyistActsUptoRow, standIns := [], harness := (true, "3d97f39469bc4e37cc5dc389d161b516f432e744da2bfab6e298e498c2cc7e8d"), looks := true }, kinds := [], alts := [], laidByText := true, laidKinds := [.sentinel, .sentinel, .sentinel, .sentinel, .sentinel, .sentinel, .sentinel, .sentinel, .sentinel, .sentinel, .sentinel, .sentinel, .sentinel, .sentinel, .sentinel, .sentinel], laidTests := true, laidLooks := .later }
def CopyistActsUptoCardSaid : Prop := Claim7.holds Tryd.pinned (.plain (OpenSpec.upto copyistActsSpec)) copyistActsUptoCard

/-- THE SECOND FORM's CARD OF 'amblerlaw08.GroupOrder'. -/
def groupOrderUptoCard : Claim7 := { stood := { row := groupOrderUptoRow, standIns := [], harness := (true, "3d97f39469bc4e37cc5dc389d161b516f432e744da2bfab6e298e498c2cc7e8d"), looks := true }, kinds := [], alts := [], laidByText := true, laidKinds := [.data, .sentinel, .sentinel, .sentinel], laidTests := true, laidLooks := .later }
def GroupOrderUptoCardSaid : Prop := Claim7.holds Tryd.pinned (.plain (OpenSpec.upto groupOrderSpec)) groupOrderUptoCard

/-- THE SECOND FORM's CARD OF 'amblerlaw08.GroupOpen'. -/
def groupOpenUptoCard : Claim7 := { stood := { row := groupOpenUptoRow, standIns := [], harness := (true, "3d97f39469bc4e37cc5dc389d161b516f432e744da2bfab6e298e498c2cc7e8d"), looks := true }, kinds := [], alts := [], laidByText := true, laidKinds := [.data, .sentinel, .sentinel, .sentinel], laidTests := true, laidLooks := .later }
def GroupOpenUptoCardSaid : Prop := Claim7.holds Tryd.pinned (.plain (OpenSpec.upto groupOpenSpec)) groupOpenUptoCard

/-- THE SECOND FORM's CARD OF 'amblerlaw08.GroupActs'. -/
def groupActsUptoCard : Claim7 := { stood := { row := groupActsUptoRow, standIns := [], harness := (true, "3d97f39469bc4e37cc5dc389d161b516f432e744da2bfab6e298e498c2cc7e8d"), looks := true }, kinds := [], alts := [], laidByText := true, laidKinds := [.data, .sentinel, .sentinel, .sentinel, .sentinel, .sentinel, .sentinel, .sentinel, .sentinel, .sentinel, .sentinel, .sentinel, .sentinel, .sentinel, .sentinel, .sentinel, .sentinel], laidTests := true, laidLooks := .later }
def GroupActsUptoCardSaid : Prop := Claim7.holds Tryd.pinned (.plain (OpenSpec.upto groupActsSpec)) groupActsUptoCard

/-- THE SECOND FORM's CARD OF 'amblerlaw09.TableFunction'. -/
def tableFunctionUptoCard : Claim7 := { stood := { row := tableFunctionUptoRow, standIns := [], harness := (true, "3d97f39469bc4e37cc5dc389d161b516f432e744da2bfab6e298e498c2cc7e8d"), looks := true }, kinds := [], alts := [], laidByText := true, laidKinds := [.data, .sentinel, .sentinel, .sentinel, .sentinel, .sentinel, .sentinel, .sentinel, .sentinel, .sentinel, .sentinel, .sentinel, .sentinel, .sentinel, .sentinel, .sentinel, .sentinel], laidTests := true, laidLooks := .later }
def TableFunctionUptoCardSaid : Prop := Claim7.holds Tryd.pinned (.plain (OpenSpec.upto tableFunctionSpec)) tableFunctionUptoCard
end Rows
end Go.Proofs.YtplimhllfbdocaaDoor
