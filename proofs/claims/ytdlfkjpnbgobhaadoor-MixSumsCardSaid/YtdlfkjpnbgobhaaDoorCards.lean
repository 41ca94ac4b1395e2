/-
  DERIVED. GIVEN WITH THE SEED: THE CARDS: each row of YtdlfkjpnbgobhaaDoorRows.lean that lists a variable, with what it lists TIED to the program's text (the seventh form; the later family's looks); each row that meets fmt, with fmt's text TOLD by the authors' own Lean function (tested against real Go, not proved from fmt's source: count such statements apart). THE CARD IS WHAT COUNTS. Prove the row's statement (the work); the ties are given (YtdlfkjpnbgobhaaDoorTie.lean); close each card by the builder's one call (the guide's Derived/Test/ToyasCard.lean, 'card_holds'). Laid BY PROGRAM, IN A SANDBOX (cutbox-door.mjs). By AI agents, Wed Nov 11 2026. No macro, syntax, notation, axiom, sorry.
-/
import Derived.Test.YtdlfkjpnbgobhaaDoorRows
import GoSem.ClaimSeven
namespace Go.Proofs.YtdlfkjpnbgobhaaDoor
namespace Rows

/-- THE TIED CARD OF 'amblerlaw02.CtrlTells'. -/
def ctrlTellsCard : Claim7 := { stood := { row := ctrlTellsRow, standIns := [], harness := (true, "f79fa6e1cfa4ad6ba20d9f62d521af9bf065eedf25c3bcdf99cde6ad5f83de3e"), looks := true }, kinds := [], alts := [], laidByText := true, laidKinds := [.sentinel, .sentinel], laidTests := true, laidLooks := .later }
def CtrlTellsCardSaid : Prop := Claim7.holds Tryd.pinned (.plain (OpenSpec.ofChange ctrlTellsSpec)) ctrlTellsCard

/-- THE TIED CARD OF 'amblerlaw29.MixSums'. -/
def mixSumsCard : Claim7 := { stood := { row := mixSumsRow, standIns := [], harness := (true, "f79fa6e1cfa4ad6ba20d9f62d521af9bf065eedf25c3bcdf99cde6ad5f83de3e"), looks := true }, kinds := [], alts := [], laidByText := true, laidKinds := [.sentinel, .sentinel, .widerDeep], laidTests := true, laidLooks := .later }
def MixSumsCardSaid : Prop := Claim7.holds Tryd.pinned (.plain (OpenSpec.ofChange mixSumsSpec)) mixSumsCard

/-- THE TIED CARD OF 'amblerlaw14.ChooseTells'. -/
def chooseTellsCard : Claim7 := { stood := { row := chooseTellsRow, standIns := [], harness := (true, "f79fa6e1cfa4ad6ba20d9f62d521af9bf065eedf25c3bcdf99cde6ad5f83de3e"), looks := true }, kinds := [], alts := [], laidByText := true, laidKinds := [.sentinel, .sentinel, .sentinel, .sentinel, .sentinel, .sentinel, .sentinel, .sentinel, .sentinel, .sentinel, .sentinel, .sentinel, .sentinel, .sentinel, .sentinel, .sentinel, .data], laidTests := true, laidLooks := .later }
def ChooseTellsCardSaid : Prop := Claim7.holds Tryd.pinned (.plain (OpenSpec.ofChange chooseTellsSpec)) chooseTellsCard

/-- THE TIED CARD OF 'amblerlaw29.MixTells'. -/
def mixTellsCard : Claim7 := { stood := { row := mixTellsRow, standIns := [], harness := (true, "f79fa6e1cfa4ad6ba20d9f62d521af9bf065eedf25c3bcdf99cde6ad5f83de3e"), looks := true }, kinds := [], alts := [], laidByText := true, laidKinds := [.sentinel, .sentinel, .sentinel, .sentinel, .sentinel, .sentinel, .sentinel, .sentinel, .sentinel, .sentinel, .sentinel, .sentinel, .sentinel, .sentinel, .sentinel, .sentinel, .widerDeep], laidTests := true, laidLooks := .later }
def MixTellsCardSaid : Prop := Claim7.holds Tryd.pinned (.plain (OpenSpec.ofChange mixTellsSpec)) mixTellsCard

/-- THE TIED CARD OF 'amblerlaw29.MixBack'. -/
def mixBackCard : Claim7 := { stood := { row := mixBackRow, standIns := [], harness := (true, "f79fa6e1cfa4ad6ba20d9f62d521af9bf065eedf25c3bcdf99cde6ad5f83de3e"), looks := true }, kinds := [], alts := [], laidByText := true, laidKinds := [.sentinel, .sentinel, .sentinel, .sentinel, .sentinel, .sentinel, .sentinel, .sentinel, .sentinel, .sentinel, .sentinel, .sentinel, .sentinel, .sentinel, .sentinel, .sentinel], laidTests := true, laidLooks := .later }
def MixBackCardSaid : Prop := Claim7.holds Tryd.pinned (.plain (OpenSpec.ofChange mixBackSpec)) mixBackCard

/-- THE TIED CARD OF 'amblerlaw02.CtrlApart'. -/
def ctrlApartCard : Claim7 := { stood := { row := ctrlApartRow, standIns := [], harness := (true, "f79fa6e1cfa4ad6ba20d9f62d521af9bf065eedf25c3bcdf99cde6ad5f83de3e"), looks := true }, kinds := [], alts := [], laidByText := true, laidKinds := [.sentinel, .sentinel], laidTests := true, laidLooks := .later }
def CtrlApartCardSaid : Prop := Claim7.holds Tryd.pinned (.plain (OpenSpec.ofChange ctrlApartSpec)) ctrlApartCard

/-- THE TIED CARD OF 'amblerlaw02.CtrlSets'. -/
def ctrlSetsCard : Claim7 := { stood := { row := ctrlSetsRow, standIns := [], harness := (true, "f79fa6e1cfa4ad6ba20d9f62d521af9bf065eedf25c3bcdf99cde6ad5f83de3e"), looks := true }, kinds := [], alts := [], laidByText := true, laidKinds := [.sentinel, .sentinel, .sentinel, .sentinel, .sentinel, .sentinel, .sentinel, .sentinel, .sentinel, .sentinel, .sentinel, .sentinel, .sentinel, .sentinel, .sentinel, .sentinel], laidTests := true, laidLooks := .later }
def CtrlSetsCardSaid : Prop := Claim7.holds Tryd.pinned (.plain (OpenSpec.ofChange ctrlSetsSpec)) ctrlSetsCard

/-- THE TIED CARD OF 'amblerlaw02.CtrlPaths'. -/
def ctrlPathsCard : Claim7 := { stood := { row := ctrlPathsRow, standIns := [], harness := (true, "f79fa6e1cfa4ad6ba20d9f62d521af9bf065eedf25c3bcdf99cde6ad5f83de3e"), looks := true }, kinds := [], alts := [], laidByText := true, laidKinds := [.sentinel, .sentinel, .sentinel, .sentinel, .sentinel, .sentinel, .sentinel, .sentinel, .sentinel, .sentinel, .sentinel, .sentinel, .sentinel, .sentinel, .sentinel, .sentinel], laidTests := true, laidLooks := .later }
def CtrlPathsCardSaid : Prop := Claim7.holds Tryd.pinned (.plain (OpenSpec.ofChange ctrlPathsSpec)) ctrlPathsCard

/-- THE TIED CARD OF 'amblerlaw29.MixSpreads'. -/
def mixSpreadsCard : Claim7 := { stood := { row := mixSpreadsRow, standIns := [], harness := (true, "f79fa6e1cfa4ad6ba20d9f62d521af9bf065eedf25c3bcdf99cde6ad5f83de3e"), looks := true }, kinds := [], alts := [], laidByText := true, laidKinds := [.sentinel, .sentinel, .sentinel, .sentinel, .sentinel, .sentinel, .sentinel, .sentinel, .sentinel, .sentinel, .sentinel, .sentinel, .sentinel, .sentinel, .sentinel, .sentinel, .widerDeep], laidTests := true, laidLooks := .later }
def MixSpreadsCardSaid : Prop := Claim7.holds Tryd.pinned (.plain (OpenSpec.ofChange mixSpreadsSpec)) mixSpreadsCard

/-- THE TIED CARD OF 'amblerlaw16.DirActs'. -/
def dirActsCard : Claim7 := { stood := { row := dirActsRow, standIns := [], harness := (true, "f79fa6e1cfa4ad6ba20d9f62d521af9bf065eedf25c3bcdf99cde6ad5f83de3e"), looks := true }, kinds := [], alts := [], laidByText := true, laidKinds := [.sentinel, .sentinel, .sentinel, .sentinel, .sentinel, .sentinel, .sentinel, .sentinel, .sentinel, .sentinel, .sentinel, .sentinel, .sentinel, .sentinel, .sentinel, .sentinel], laidTests := true, laidLooks := .later }
def DirActsCardSaid : Prop := Claim7.holds Tryd.pinned (.plain (OpenSpec.ofChange dirActsSpec)) dirActsCard

/-- THE TIED CARD OF 'amblerlaw17.CopyistKeeps'. -/
def copyistKeepsCard : Claim7 := { stood := { row := copyistKeepsRow, standIns := [], harness := (true, "f79fa6e1cfa4ad6ba20d9f62d521af9bf065eedf25c3bcdf99cde6ad5f83de3e"), looks := true }, kinds := [], alts := [], laidByText := true, laidKinds := [.sentinel, .sentinel, .sentinel, .sentinel, .sentinel], laidTests := true, laidLooks := .later }
def CopyistKeepsCardSaid : Prop := Claim7.holds Tryd.pinned (.plain (OpenSpec.ofChange copyistKeepsSpec)) copyistKeepsCard

/-- THE TIED CARD OF 'amblerlaw17.CopyistActs'. -/
def copyistActsCard : Claim7 := { stood := { row := copyistActsRow, standIns := [], harness := (true, "f79fa6e1cfa4ad6ba20d9f62d521af9bf065eedf25c3bcdf99cde6ad5f83de3e"), looks := true }, kinds := [], alts := [], laidByText := true, laidKinds := [.sentinel, .sentinel, .sentinel, .sentinel, .sentinel, .sentinel, .sentinel, .sentinel, .sentinel, .sentinel, .sentinel, .sentinel, .sentinel, .sentinel, .sentinel, .sentinel], laidTests := true, laidLooks := .later }
def CopyistActsCardSaid : Prop := Claim7.holds Tryd.pinned (.plain (OpenSpec.ofChange copyistActsSpec)) copyistActsCard

/-- THE SECOND FORM's CARD OF 'amblerlaw02.CtrlTells'. -/
def ctrlTellsUptoCard : Claim7 := { stood := { row := ctrlTellsUptoRow, standIns := [], harness := (true, "f79fa6e1cfa4ad6ba20d9f62d521af9bf065eedf25c3bcdf99cde6ad5f83de3e"), looks := true }, kinds := [], alts := [], laidByText := true, laidKinds := [.sentinel, .sentinel], laidTests := true, laidLooks := .later }
def CtrlTellsUptoCardSaid : Prop := Claim7.holds Tryd.pinned (.plain (OpenSpec.upto ctrlTellsSpec)) ctrlTellsUptoCard

/-- THE SECOND FORM's CARD OF 'amblerlaw29.MixSums'. -/
def mixSumsUptoCard : Claim7 := { stood := { row := mixSumsUptoRow, standIns := [], harness := (true, "f79fa6e1cfa4ad6ba20d9f62d521af9bf065eedf25c3bcdf99cde6ad5f83de3e"), looks := true }, kinds := [], alts := [], laidByText := true, laidKinds := [.sentinel, .sentinel, .widerDeep], laidTests := true, laidLooks := .later }
def MixSumsUptoCardSaid : Prop := Claim7.holds Tryd.pinned (.plain (OpenSpec.upto mixSumsSpec)) mixSumsUptoCard

/-- THE SECOND FORM's CARD OF 'amblerlaw14.ChooseTells'. -/
def chooseTellsUptoCard : Claim7 := { stood := { row := chooseTellsUptoRow, standIns := [], harness := (true, "f79fa6e1cfa4ad6ba20d9f62d521af9bf065eedf25c3bcdf99cde6ad5f83de3e"), looks := true }, kinds := [], alts := [], laidByText := true, laidKinds := [.sentinel, .sentinel, .sentinel, .sentinel, .sentinel, .sentinel, .sentinel, .sentinel, .sentinel, .sentinel, .sentinel, .sentinel, .sentinel, .sentinel, .sentinel, .sentinel, .data], laidTests := true, laidLooks := .later }
def ChooseTellsUptoCardSaid : Prop := Claim7.holds Tryd.pinned (.plain (OpenSpec.upto chooseTellsSpec)) chooseTellsUptoCard

/-- THE SECOND FORM's CARD OF 'amblerlaw29.MixTells'. -/
def mixTellsUptoCard : Claim7 := { stood := { row := mixTellsUptoRow, standIns := [], harness := (true, "f79fa6e1cfa4ad6ba20d9f62d521af9bf065eedf25c3bcdf99cde6ad5f83de3e"), looks := true }, kinds := [], alts := [], laidByText := true, laidKinds := [.sentinel, .sentinel, .sentinel, .sentinel, .sentinel, .sentinel, .sentinel, .sentinel, .sentinel, .sentinel, .sentinel, .sentinel, .sentinel, .sentinel, .sentinel, .sentinel, .widerDeep], laidTests := true, laidLooks := .later }
def MixTellsUptoCardSaid : Prop := Claim7.holds Tryd.pinned (.plain (OpenSpec.upto mixTellsSpec)) mixTellsUptoCard

/-- THE SECOND FORM's CARD OF 'amblerlaw29.MixBack'. -/
def mixBackUptoCard : Claim7 := { stood := { row := mixBackUptoRow, standIns := [], harness := (true, "f79fa6e1cfa4ad6ba20d9f62d521af9bf065eedf25c3bcdf99cde6ad5f83de3e"), looks := true }, kinds := [], alts := [], laidByText := true, laidKinds := [.sentinel, .sentinel, .sentinel, .sentinel, .sentinel, .sentinel, .sentinel, .sentinel, .sentinel, .sentinel, .sentinel, .sentinel, .sentinel, .sentinel, .sentinel, .sentinel], laidTests := true, laidLooks := .later }
def MixBackUptoCardSaid : Prop := Claim7.holds Tryd.pinned (.plain (OpenSpec.upto mixBackSpec)) mixBackUptoCard

/-- THE SECOND FORM's CARD OF 'amblerlaw02.CtrlApart'. -/
def ctrlApartUptoCard : Claim7 := { stood := { row := ctrlApartUptoRow, standIns := [], harness := (true, "f79fa6e1cfa4ad6ba20d9f62d521af9bf065eedf25c3bcdf99cde6ad5f83de3e"), looks := true }, kinds := [], alts := [], laidByText := true, laidKinds := [.sentinel, .sentinel], laidTests := true, laidLooks := .later }
def CtrlApartUptoCardSaid : Prop := Claim7.holds Tryd.pinned (.plain (OpenSpec.upto ctrlApartSpec)) ctrlApartUptoCard

/-- THE SECOND FORM's CARD OF 'amblerlaw02.CtrlSets'. -/
def ctrlSetsUptoCard : Claim7 := { stood := { row := ctrlSetsUptoRow, standIns := [], harness := (true, "f79fa6e1cfa4ad6ba20d9f62d521af9bf065eedf25c3bcdf99cde6ad5f83de3e"), looks := true }, kinds := [], alts := [], laidByText := true, laidKinds := [.sentinel, .sentinel, .sentinel, .sentinel, .sentinel, .sentinel, .sentinel, .sentinel, .sentinel, .sentinel, .sentinel, .sentinel, .sentinel, .sentinel, .sentinel, .sentinel], laidTests := true, laidLooks := .later }
def CtrlSetsUptoCardSaid : Prop := Claim7.holds Tryd.pinned (.plain (OpenSpec.upto ctrlSetsSpec)) ctrlSetsUptoCard

/-- THE SECOND FORM's CARD OF 'amblerlaw02.CtrlPaths'. -/
def ctrlPathsUptoCard : Claim7 := { stood := { row := ctrlPathsUptoRow, standIns := [], harness := (true, "f79fa6e1cfa4ad6ba20d9f62d521af9bf065eedf25c3bcdf99cde6ad5f83de3e"), looks := true }, kinds := [], alts := [], laidByText := true, laidKinds := [.sentinel, .sentinel, .sentinel, .sentinel, .sentinel, .sentinel, .sentinel, .sentinel, .sentinel, .sentinel, .sentinel, .sentinel, .sentinel, .sentinel, .sentinel, .sentinel], laidTests := true, laidLooks := .later }
def CtrlPathsUptoCardSaid : Prop := Claim7.holds Tryd.pinned (.plain (OpenSpec.upto ctrlPathsSpec)) ctrlPathsUptoCard

/-- THE SECOND FORM's CARD OF 'amblerlaw29.MixSpreads'. -/
def mixSpreadsUptoCard : Claim7 := { stood := { row := mixSpreadsUptoRow, standIns := [], harness := (true, "f79fa6e1cfa4ad6ba20d9f62d521af9bf065eedf25c3bcdf99cde6ad5f83de3e"), looks := true }, kinds := [], alts := [], laidByText := true, laidKinds := [.sentinel, .sentinel, .sentinel, .sentinel, .sentinel, .sentinel, .sentinel, .sentinel, .sentinel, .sentinel, .sentinel, .sentinel, .sentinel, .sentinel, .sentinel, .sentinel, .widerDeep], laidTests := true, laidLooks := .later }
def MixSpreadsUptoCardSaid : Prop := Claim7.holds Tryd.pinned (.plain (OpenSpec.upto mixSpreadsSpec)) mixSpreadsUptoCard

/-- THE SECOND FORM's CARD OF 'amblerlaw16.DirActs'. -/
def dirActsUptoCard : Claim7 := { stood := { row := dirActsUptoRow, standIns := [], harness := (true, "f79fa6e1cfa4ad6ba20d9f62d521af9bf065eedf25c3bcdf99cde6ad5f83de3e"), looks := true }, kinds := [], alts := [], laidByText := true, laidKinds := [.sentinel, .sentinel, .sentinel, .sentinel, .sentinel, .sentinel, .sentinel, .sentinel, .sentinel, .sentinel, .sentinel, .sentinel, .sentinel, .sentinel, .sentinel, .sentinel], laidTests := true, laidLooks := .later }
def DirActsUptoCardSaid : Prop := Claim7.holds Tryd.pinned (.plain (OpenSpec.upto dirActsSpec)) dirActsUptoCard

/-- THE SECOND FORM's CARD OF 'amblerlaw17.CopyistKeeps'. -/
def copyistKeepsUptoCard : Claim7 := { stood := { row := copyistKeepsUptoRow, standIns := [], harness := (true, "f79fa6e1cfa4ad6ba20d9f62d521af9bf065eedf25c3bcdf99cde6ad5f83de3e"), looks := true }, kinds := [], alts := [], laidByText := true, laidKinds := [.sentinel, .sentinel, .sentinel, .sentinel, .sentinel], laidTests := true, laidLooks := .later }
def CopyistKeepsUptoCardSaid : Prop := Claim7.holds Tryd.pinned (.plain (OpenSpec.upto copyistKeepsSpec)) copyistKeepsUptoCard

/-- THE SECOND FORM's CARD OF 'amblerlaw17.CopyistActs'. -/
def copyistActsUptoCard : Claim7 := { stood := { row := copyistActsUptoRow, standIns := [], harness := (true, "f79fa6e1cfa4ad6ba20d9f62d521af9bf065eedf25c3bcdf99cde6ad5f83de3e"), looks := true }, kinds := [], alts := [], laidByText := true, laidKinds := [.sentinel, .sentinel, .sentinel, .sentinel, .sentinel, .sentinel, .sentinel, .sentinel, .sentinel, .sentinel, .sentinel, .sentinel, .sentinel, .sentinel, .sentinel, .sentinel], laidTests := true, laidLooks := .later }
def CopyistActsUptoCardSaid : Prop := Claim7.holds Tryd.pinned (.plain (OpenSpec.upto copyistActsSpec)) copyistActsUptoCard
end Rows
end Go.Proofs.YtdlfkjpnbgobhaaDoor
