/-
  DERIVED. GIVEN WITH THE SEED: THE CARDS: each row of YtffegcflcgmnoaaDoorRows.lean that lists a variable, with what it lists TIED to the program's text (the seventh form; the later family's looks); each row that meets fmt, with fmt's text TOLD by the authors' own Lean function (tested against real Go, not proved from fmt's source: count such statements apart). THE CARD IS WHAT COUNTS. Prove the row's statement (the work); the ties are given (YtffegcflcgmnoaaDoorTie.lean); close each card by the builder's one call (the guide's Derived/Test/ToyasCard.lean, 'card_holds'). Laid BY PROGRAM, IN A SANDBOX (cutbox-door.mjs). By AI agents, Wed Nov 11 2026. No macro, syntax, notation, axiom, sorry.
-/
import Derived.Test.YtffegcflcgmnoaaDoorRows
import GoSem.ClaimSeven
namespace Go.Proofs.YtffegcflcgmnoaaDoor
namespace Rows

/-- THE TIED CARD OF 'amblerlaw12.EvacSides'. -/
def evacSidesCard : Claim7 := { stood := { row := evacSidesRow, standIns := [], harness := (true, "df4d1894b83cb18f1d239b50b241590d0d52bea57a5745bfd2e7f79ae57bcf34"), looks := true }, kinds := [], alts := [], laidByText := true, laidKinds := [.data, .sentinel, .sentinel, .sentinel, .sentinel, .sentinel, .sentinel, .sentinel, .sentinel, .sentinel], laidTests := true, laidLooks := .later }
def EvacSidesCardSaid : Prop := Claim7.holds Tryd.pinned (.plain (OpenSpec.ofChange evacSidesSpec)) evacSidesCard

/-- THE TIED CARD OF 'amblerlaw12.EvacErrs'. -/
def evacErrsCard : Claim7 := { stood := { row := evacErrsRow, standIns := [], harness := (true, "df4d1894b83cb18f1d239b50b241590d0d52bea57a5745bfd2e7f79ae57bcf34"), looks := true }, kinds := [], alts := [], laidByText := true, laidKinds := [.data, .sentinel, .sentinel, .sentinel, .sentinel, .sentinel, .sentinel, .sentinel, .sentinel, .sentinel, .sentinel, .sentinel, .sentinel, .sentinel, .sentinel, .sentinel, .sentinel], laidTests := true, laidLooks := .later }
def EvacErrsCardSaid : Prop := Claim7.holds Tryd.pinned (.plain (OpenSpec.ofChange evacErrsSpec)) evacErrsCard

/-- THE SECOND FORM's CARD OF 'amblerlaw12.EvacSides'. -/
def evacSidesUptoCard : Claim7 := { stood := { row := evacSidesUptoRow, standIns := [], harness := (true, "df4d1894b83cb18f1d239b50b241590d0d52bea57a5745bfd2e7f79ae57bcf34"), looks := true }, kinds := [], alts := [], laidByText := true, laidKinds := [.data, .sentinel, .sentinel, .sentinel, .sentinel, .sentinel, .sentinel, .sentinel, .sentinel, .sentinel], laidTests := true, laidLooks := .later }
def EvacSidesUptoCardSaid : Prop := Claim7.holds Tryd.pinned (.plain (OpenSpec.upto evacSidesSpec)) evacSidesUptoCard

/-- THE SECOND FORM's CARD OF 'amblerlaw12.EvacErrs'. -/
def evacErrsUptoCard : Claim7 := { stood := { row := evacErrsUptoRow, standIns := [], harness := (true, "df4d1894b83cb18f1d239b50b241590d0d52bea57a5745bfd2e7f79ae57bcf34"), looks := true }, kinds := [], alts := [], laidByText := true, laidKinds := [.data, .sentinel, .sentinel, .sentinel, .sentinel, .sentinel, .sentinel, .sentinel, .sentinel, .sentinel, .sentinel, .sentinel, .sentinel, .sentinel, .sentinel, .sentinel, .sentinel], laidTests := true, laidLooks := .later }
def EvacErrsUptoCardSaid : Prop := Claim7.holds Tryd.pinned (.plain (OpenSpec.upto evacErrsSpec)) evacErrsUptoCard
end Rows
end Go.Proofs.YtffegcflcgmnoaaDoor
