/-
  DERIVED. GIVEN WITH THE SEED: THE CARDS: each row of YtcnkgiapidlbkaaGreatDoorRows.lean that lists a variable, with what it lists TIED to the program's text (the seventh form; the later family's looks); each row that meets fmt, with fmt's text TOLD by the authors' own Lean function (tested against real Go, not proved from fmt's source: count such statements apart). THE CARD IS WHAT COUNTS. Prove the row's statement (the work); the ties are given (YtcnkgiapidlbkaaGreatDoorTie.lean); close each card by the builder's one call (the guide's Derived/Test/ToyasCard.lean, 'card_holds'). Laid BY PROGRAM, IN A SANDBOX (cutbox-door.mjs). By AI agents, Wed Nov 11 2026. No macro, syntax, notation, axiom, sorry.
-/
import Derived.Test.YtcnkgiapidlbkaaGreatDoorRows
import GoSem.ClaimSeven
namespace Go.Proofs.YtcnkgiapidlbkaaGreatDoor
namespace Rows

/-- THE TIED CARD OF 'amblerlaw13.DualActs'. -/
def dualActsCard : Claim7 := { stood := { row := dualActsRow, standIns := [], harness := (true, "d681a8d31d70f16f2fd99d831d05dcbc42a11e8759e3399204dcfa2b39b6e9af"), looks := true }, kinds := [], alts := [], laidByText := true, laidKinds := [.data, .sentinel, .sentinel, .sentinel, .sentinel, .sentinel, .sentinel, .sentinel, .sentinel, .sentinel, .sentinel, .sentinel, .sentinel, .sentinel, .sentinel, .sentinel, .sentinel], laidTests := true, laidLooks := .later }
def DualActsCardSaid : Prop := Claim7.holds Tryz.pinned (.plain (OpenSpec.ofChange dualActsSpec)) dualActsCard

/-- THE TIED CARD OF 'amblerlaw13.DualFunction'. -/
def dualFunctionCard : Claim7 := { stood := { row := dualFunctionRow, standIns := [], harness := (true, "d681a8d31d70f16f2fd99d831d05dcbc42a11e8759e3399204dcfa2b39b6e9af"), looks := true }, kinds := [], alts := [], laidByText := true, laidKinds := [.data, .sentinel, .sentinel, .sentinel, .sentinel, .sentinel, .sentinel, .sentinel, .sentinel, .sentinel], laidTests := true, laidLooks := .later }
def DualFunctionCardSaid : Prop := Claim7.holds Tryz.pinned (.plain (OpenSpec.ofChange dualFunctionSpec)) dualFunctionCard

/-- THE SECOND FORM's CARD OF 'amblerlaw13.DualActs'. -/
def dualActsUptoCard : Claim7 := { stood := { row := dualActsUptoRow, standIns := [], harness := (true, "d681a8d31d70f16f2fd99d831d05dcbc42a11e8759e3399204dcfa2b39b6e9af"), looks := true }, kinds := [], alts := [], laidByText := true, laidKinds := [.data, .sentinel, .sentinel, .sentinel, .sentinel, .sentinel, .sentinel, .sentinel, .sentinel, .sentinel, .sentinel, .sentinel, .sentinel, .sentinel, .sentinel, .sentinel, .sentinel], laidTests := true, laidLooks := .later }
def DualActsUptoCardSaid : Prop := Claim7.holds Tryz.pinned (.plain (OpenSpec.upto dualActsSpec)) dualActsUptoCard

/-- THE SECOND FORM's CARD OF 'amblerlaw13.DualFunction'. -/
def dualFunctionUptoCard : Claim7 := { stood := { row := dualFunctionUptoRow, standIns := [], harness := (true, "d681a8d31d70f16f2fd99d831d05dcbc42a11e8759e3399204dcfa2b39b6e9af"), looks := true }, kinds := [], alts := [], laidByText := true, laidKinds := [.data, .sentinel, .sentinel, .sentinel, .sentinel, .sentinel, .sentinel, .sentinel, .sentinel, .sentinel], laidTests := true, laidLooks := .later }
def DualFunctionUptoCardSaid : Prop := Claim7.holds Tryz.pinned (.plain (OpenSpec.upto dualFunctionSpec)) dualFunctionUptoCard
end Rows
end Go.Proofs.YtcnkgiapidlbkaaGreatDoor
