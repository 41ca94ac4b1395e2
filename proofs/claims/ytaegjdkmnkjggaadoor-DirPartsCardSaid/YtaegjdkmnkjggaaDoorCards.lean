/-
  DERIVED. GIVEN WITH THE SEED: THE CARDS: each row of YtaegjdkmnkjggaaDoorRows.lean that lists a variable, with what it lists TIED to the program's text (the seventh form; the later family's looks); each row that meets fmt, with fmt's text TOLD by the authors' own Lean function (tested against real Go, not proved from fmt's source: count such statements apart). THE CARD IS WHAT COUNTS. Prove the row's statement (the work); the ties are given (YtaegjdkmnkjggaaDoorTie.lean); close each card by the builder's one call (the guide's Derived/Test/ToyasCard.lean, 'card_holds'). Laid BY PROGRAM, IN A SANDBOX (cutbox-door.mjs). By AI agents, Wed Nov 11 2026. No macro, syntax, notation, axiom, sorry.
-/
import Derived.Test.YtaegjdkmnkjggaaDoorRows
import GoSem.ClaimSeven
namespace Go.Proofs.YtaegjdkmnkjggaaDoor
namespace Rows

/-- THE TIED CARD OF 'amblerlaw18.QueueStays'. -/
def queueStaysCard : Claim7 := { stood := { row := queueStaysRow, standIns := [], harness := (true, "c6459663417a7c13036fa956c67830734328ff679977037dcf492cf39d9b66e3"), looks := true }, kinds := [], alts := [], laidByText := true, laidKinds := [.sentinel, .sentinel, .sentinel], laidTests := true, laidLooks := .later }
def QueueStaysCardSaid : Prop := Claim7.holds Tryd.pinned (.plain (OpenSpec.ofChange queueStaysSpec)) queueStaysCard

/-- THE TIED CARD OF 'amblerlaw18.QueueOrder'. -/
def queueOrderCard : Claim7 := { stood := { row := queueOrderRow, standIns := [], harness := (true, "c6459663417a7c13036fa956c67830734328ff679977037dcf492cf39d9b66e3"), looks := true }, kinds := [], alts := [], laidByText := true, laidKinds := [.sentinel, .sentinel, .sentinel], laidTests := true, laidLooks := .later }
def QueueOrderCardSaid : Prop := Claim7.holds Tryd.pinned (.plain (OpenSpec.ofChange queueOrderSpec)) queueOrderCard

/-- THE TIED CARD OF 'amblerlaw18.QueueActs'. -/
def queueActsCard : Claim7 := { stood := { row := queueActsRow, standIns := [], harness := (true, "c6459663417a7c13036fa956c67830734328ff679977037dcf492cf39d9b66e3"), looks := true }, kinds := [], alts := [], laidByText := true, laidKinds := [.sentinel, .sentinel, .sentinel, .sentinel, .sentinel, .sentinel, .sentinel, .sentinel, .sentinel, .sentinel, .sentinel, .sentinel, .sentinel, .sentinel, .sentinel, .sentinel], laidTests := true, laidLooks := .later }
def QueueActsCardSaid : Prop := Claim7.holds Tryd.pinned (.plain (OpenSpec.ofChange queueActsSpec)) queueActsCard

/-- THE TIED CARD OF 'amblerlaw05.TrapCatches'. -/
def trapCatchesCard : Claim7 := { stood := { row := trapCatchesRow, standIns := [], harness := (true, "c6459663417a7c13036fa956c67830734328ff679977037dcf492cf39d9b66e3"), looks := true }, kinds := [], alts := [], laidByText := true, laidKinds := [.sentinel, .sentinel, .sentinel, .sentinel, .sentinel, .sentinel, .sentinel, .sentinel, .sentinel, .sentinel, .sentinel, .sentinel, .sentinel, .sentinel, .sentinel, .sentinel], laidTests := true, laidLooks := .later }
def TrapCatchesCardSaid : Prop := Claim7.holds Tryd.pinned (.plain (OpenSpec.ofChange trapCatchesSpec)) trapCatchesCard

/-- THE TIED CARD OF 'amblerlaw05.TrapNests'. -/
def trapNestsCard : Claim7 := { stood := { row := trapNestsRow, standIns := [], harness := (true, "c6459663417a7c13036fa956c67830734328ff679977037dcf492cf39d9b66e3"), looks := true }, kinds := [], alts := [], laidByText := true, laidKinds := [.sentinel, .sentinel, .sentinel, .sentinel, .sentinel, .sentinel, .sentinel, .sentinel, .sentinel, .sentinel, .sentinel, .sentinel, .sentinel, .sentinel, .sentinel, .sentinel], laidTests := true, laidLooks := .later }
def TrapNestsCardSaid : Prop := Claim7.holds Tryd.pinned (.plain (OpenSpec.ofChange trapNestsSpec)) trapNestsCard

/-- THE TIED CARD OF 'amblerlaw05.TrapTries'. -/
def trapTriesCard : Claim7 := { stood := { row := trapTriesRow, standIns := [], harness := (true, "c6459663417a7c13036fa956c67830734328ff679977037dcf492cf39d9b66e3"), looks := true }, kinds := [], alts := [], laidByText := true, laidKinds := [.sentinel, .sentinel, .sentinel, .sentinel, .sentinel, .sentinel, .sentinel, .sentinel, .sentinel, .sentinel, .sentinel, .sentinel, .sentinel, .sentinel, .sentinel, .sentinel], laidTests := true, laidLooks := .later }
def TrapTriesCardSaid : Prop := Claim7.holds Tryd.pinned (.plain (OpenSpec.ofChange trapTriesSpec)) trapTriesCard

/-- THE TIED CARD OF 'amblerlaw16.DirHalves'. -/
def dirHalvesCard : Claim7 := { stood := { row := dirHalvesRow, standIns := [], harness := (true, "c6459663417a7c13036fa956c67830734328ff679977037dcf492cf39d9b66e3"), looks := true }, kinds := [], alts := [], laidByText := true, laidKinds := [.sentinel], laidTests := true, laidLooks := .later }
def DirHalvesCardSaid : Prop := Claim7.holds Tryd.pinned (.plain (OpenSpec.ofChange dirHalvesSpec)) dirHalvesCard

/-- THE TIED CARD OF 'amblerlaw16.DirParts'. -/
def dirPartsCard : Claim7 := { stood := { row := dirPartsRow, standIns := [], harness := (true, "c6459663417a7c13036fa956c67830734328ff679977037dcf492cf39d9b66e3"), looks := true }, kinds := [], alts := [], laidByText := true, laidKinds := [.sentinel], laidTests := true, laidLooks := .later }
def DirPartsCardSaid : Prop := Claim7.holds Tryd.pinned (.plain (OpenSpec.ofChange dirPartsSpec)) dirPartsCard

/-- THE TIED CARD OF 'amblerlaw16.DirActs'. -/
def dirActsCard : Claim7 := { stood := { row := dirActsRow, standIns := [], harness := (true, "c6459663417a7c13036fa956c67830734328ff679977037dcf492cf39d9b66e3"), looks := true }, kinds := [], alts := [], laidByText := true, laidKinds := [.sentinel, .sentinel, .sentinel, .sentinel, .sentinel, .sentinel, .sentinel, .sentinel, .sentinel, .sentinel, .sentinel, .sentinel, .sentinel, .sentinel, .sentinel, .sentinel], laidTests := true, laidLooks := .later }
def DirActsCardSaid : Prop := Claim7.holds Tryd.pinned (.plain (OpenSpec.ofChange dirActsSpec)) dirActsCard

/-- THE TIED CARD OF 'amblerlaw17.CopyistKeeps'. -/
def copyistKeepsCard : Claim7 := { stood := { row := copyistKeepsRow, standIns := [], harness := (true, "c6459663417a7c13036fa956c67830734328ff679977037dcf492cf39d9b66e3"), looks := true }, kinds := [], alts := [], laidByText := true, laidKinds := [.sentinel, .sentinel, .sentinel, .sentinel, .sentinel], laidTests := true, laidLooks := .later }
def CopyistKeepsCardSaid : Prop := Claim7.holds Tryd.pinned (.plain (OpenSpec.ofChange copyistKeepsSpec)) copyistKeepsCard

/-- THE TIED CARD OF 'amblerlaw17.CopyistActs'. -/
def copyistActsCard : Claim7 := { stood := { row := copyistActsRow, standIns := [], harness := (true, "c6459663417a7c13036fa956c67830734328ff679977037dcf492cf39d9b66e3"), looks := true }, kinds := [], alts := [], laidByText := true, laidKinds := [.sentinel, .sentinel, .sentinel, .sentinel, .sentinel, .sentinel, .sentinel, .sentinel, .sentinel, .sentinel, .sentinel, .sentinel, .sentinel, .sentinel, .sentinel, .sentinel], laidTests := true, laidLooks := .later }
def CopyistActsCardSaid : Prop := Claim7.holds Tryd.pinned (.plain (OpenSpec.ofChange copyistActsSpec)) copyistActsCard

/-- THE SECOND FORM's CARD OF 'amblerlaw18.QueueStays'. -/
def queueStaysUptoCard : Claim7 := { stood := { row := queueStaysUptoRow, standIns := [], harness := (true, "c6459663417a7c13036fa956c67830734328ff679977037dcf492cf39d9b66e3"), looks := true }, kinds := [], alts := [], laidByText := true, laidKinds := [.sentinel, .sentinel, .sentinel], laidTests := true, laidLooks := .later }
def QueueStaysUptoCardSaid : Prop := Claim7.holds Tryd.pinned (.plain (OpenSpec.upto queueStaysSpec)) queueStaysUptoCard

/-- THE SECOND FORM's CARD OF 'amblerlaw18.QueueOrder'. -/
def queueOrderUptoCard : Claim7 := { stood := { row := queueOrderUptoRow, standIns := [], harness := (true, "c6459663417a7c13036fa956c67830734328ff679977037dcf492cf39d9b66e3"), looks := true }, kinds := [], alts := [], laidByText := true, laidKinds := [.sentinel, .sentinel, .sentinel], laidTests := true, laidLooks := .later }
def QueueOrderUptoCardSaid : Prop := Claim7.holds Tryd.pinned (.plain (OpenSpec.upto queueOrderSpec)) queueOrderUptoCard

/-- THE SECOND FORM's CARD OF 'amblerlaw18.QueueActs'. -/
def queueActsUptoCard : Claim7 := { stood := { row := queueActsUptoRow, standIns := [], harness := (true, "c6459663417a7c13036fa956c67830734328ff679977037dcf492cf39d9b66e3"), looks := true }, kinds := [], alts := [], laidByText := true, laidKinds := [.sentinel, .sentinel, .sentinel, .sentinel, .sentinel, .sentinel, .sentinel, .sentinel, .sentinel, .sentinel, .sentinel, .sentinel, .sentinel, .sentinel, .sentinel, .sentinel], laidTests := true, laidLooks := .later }
def QueueActsUptoCardSaid : Prop := Claim7.holds Tryd.pinned (.plain (OpenSpec.upto queueActsSpec)) queueActsUptoCard

/-- THE SECOND FORM's CARD OF 'amblerlaw05.TrapCatches'. -/
def trapCatchesUptoCard : Claim7 := { stood := { row := trapCatchesUptoRow, standIns := [], harness := (true, "c6459663417a7c13036fa956c67830734328ff679977037dcf492cf39d9b66e3"), looks := true }, kinds := [], alts := [], laidByText := true, laidKinds := [.sentinel, .sentinel, .sentinel, .sentinel, .sentinel, .sentinel, .sentinel, .sentinel, .sentinel, .sentinel, .sentinel, .sentinel, .sentinel, .sentinel, .sentinel, .sentinel], laidTests := true, laidLooks := .later }
def TrapCatchesUptoCardSaid : Prop := Claim7.holds Tryd.pinned (.plain (OpenSpec.upto trapCatchesSpec)) trapCatchesUptoCard

/-- THE SECOND FORM's CARD OF 'amblerlaw05.TrapNests'. -/
def trapNestsUptoCard : Claim7 := { stood := { row := trapNestsUptoRow, standIns := [], harness := (true, "c6459663417a7c13036fa956c67830734328ff679977037dcf492cf39d9b66e3"), looks := true }, kinds := [], alts := [], laidByText := true, laidKinds := [.sentinel, .sentinel, .sentinel, .sentinel, .sentinel, .sentinel, .sentinel, .sentinel, .sentinel, .sentinel, .sentinel, .sentinel, .sentinel, .sentinel, .sentinel, .sentinel], laidTests := true, laidLooks := .later }
def TrapNestsUptoCardSaid : Prop := Claim7.holds Tryd.pinned (.plain (OpenSpec.upto trapNestsSpec)) trapNestsUptoCard

/-- THE SECOND FORM's CARD OF 'amblerlaw05.TrapTries'. -/
def trapTriesUptoCard : Claim7 := { stood := { row := trapTriesUptoRow, standIns := [], harness := (true, "c6459663417a7c13036fa956c67830734328ff679977037dcf492cf39d9b66e3"), looks := true }, kinds := [], alts := [], laidByText := true, laidKinds := [.sentinel, .sentinel, .sentinel, .sentinel, .sentinel, .sentinel, .sentinel, .sentinel, .sentinel, .sentinel, .sentinel, .sentinel, .sentinel, .sentinel, .sentinel, .sentinel], laidTests := true, laidLooks := .later }
def TrapTriesUptoCardSaid : Prop := Claim7.holds Tryd.pinned (.plain (OpenSpec.upto trapTriesSpec)) trapTriesUptoCard

/-- THE SECOND FORM's CARD OF 'amblerlaw16.DirHalves'. -/
def dirHalvesUptoCard : Claim7 := { stood := { row := dirHalvesUptoRow, standIns := [], harness := (true, "c6459663417a7c13036fa956c67830734328ff679977037dcf492cf39d9b66e3"), looks := true }, kinds := [], alts := [], laidByText := true, laidKinds := [.sentinel], laidTests := true, laidLooks := .later }
def DirHalvesUptoCardSaid : Prop := Claim7.holds Tryd.pinned (.plain (OpenSpec.upto dirHalvesSpec)) dirHalvesUptoCard

/-- THE SECOND FORM's CARD OF 'amblerlaw16.DirParts'. -/
def dirPartsUptoCard : Claim7 := { stood := { row := dirPartsUptoRow, standIns := [], harness := (true, "c6459663417a7c13036fa956c67830734328ff679977037dcf492cf39d9b66e3"), looks := true }, kinds := [], alts := [], laidByText := true, laidKinds := [.sentinel], laidTests := true, laidLooks := .later }
def DirPartsUptoCardSaid : Prop := Claim7.holds Tryd.pinned (.plain (OpenSpec.upto dirPartsSpec)) dirPartsUptoCard

/-- THE SECOND FORM's CARD OF 'amblerlaw16.DirActs'. -/
def dirActsUptoCard : Claim7 := { stood := { row := dirActsUptoRow, standIns := [], harness := (true, "c6459663417a7c13036fa956c67830734328ff679977037dcf492cf39d9b66e3"), looks := true }, kinds := [], alts := [], laidByText := true, laidKinds := [.sentinel, .sentinel, .sentinel, .sentinel, .sentinel, .sentinel, .sentinel, .sentinel, .sentinel, .sentinel, .sentinel, .sentinel, .sentinel, .sentinel, .sentinel, .sentinel], laidTests := true, laidLooks := .later }
def DirActsUptoCardSaid : Prop := Claim7.holds Tryd.pinned (.plain (OpenSpec.upto dirActsSpec)) dirActsUptoCard

/-- THE SECOND FORM's CARD OF 'amblerlaw17.CopyistKeeps'. -/
def copyistKeepsUptoCard : Claim7 := { stood := { row := copyistKeepsUptoRow, standIns := [], harness := (true, "c6459663417a7c13036fa956c67830734328ff679977037dcf492cf39d9b66e3"), looks := true }, kinds := [], alts := [], laidByText := true, laidKinds := [.sentinel, .sentinel, .sentinel, .sentinel, .sentinel], laidTests := true, laidLooks := .later }
def CopyistKeepsUptoCardSaid : Prop := Claim7.holds Tryd.pinned (.plain (OpenSpec.upto copyistKeepsSpec)) copyistKeepsUptoCard

/-- THE SECOND FORM's CARD OF 'amblerlaw17.CopyistActs'. -/
def copyistActsUptoCard : Claim7 := { stood := { row := copyistActsUptoRow, standIns := [], harness := (true, "c6459663417a7c13036fa956c67830734328ff679977037dcf492cf39d9b66e3"), looks := true }, kinds := [], alts := [], laidByText := true, laidKinds := [.sentinel, .sentinel, .sentinel, .sentinel, .sentinel, .sentinel, .sentinel, .sentinel, .sentinel, .sentinel, .sentinel, .sentinel, .sentinel, .sentinel, .sentinel, .sentinel], laidTests := true, laidLooks := .later }
def CopyistActsUptoCardSaid : Prop := Claim7.holds Tryd.pinned (.plain (OpenSpec.upto copyistActsSpec)) copyistActsUptoCard
end Rows
end Go.Proofs.YtaegjdkmnkjggaaDoor
