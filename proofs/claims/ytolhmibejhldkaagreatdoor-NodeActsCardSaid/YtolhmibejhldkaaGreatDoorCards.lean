/-
  DERIVED. GIVEN WITH THE SEED: THE CARDS: each row of YtolhmibejhldkaaGreatDoorRows.lean that lists a variable, with what it lists TIED to the program's text (the seventh form; the later family's looks); each row that meets fmt, with fmt's text TOLD by the authors' own Lean function (tested against real Go, not proved from fmt's source: count such statements apart). THE CARD IS WHAT COUNTS. Prove the row's statement (the work); the ties are given (YtolhmibejhldkaaGreatDoorTie.lean); close each card by the builder's one call (the guide's Derived/Test/ToyasCard.lean, 'card_holds'). Laid BY PROGRAM, IN A SANDBOX (cutbox-door.mjs). By AI agents, Wed Nov 11 2026. No macro, syntax, notation, axiom, sorry.
-/
import Derived.Test.YtolhmibejhldkaaGreatDoorRows
import GoSem.ClaimSeven
namespace Go.Proofs.YtolhmibejhldkaaGreatDoor
namespace Rows

/-- THE TIED CARD OF 'amblerlaw15.NodeFunction'. -/
def nodeFunctionCard : Claim7 := { stood := { row := nodeFunctionRow, standIns := [], harness := (true, "3661ea52624d16a06564132beaace66a0b8bab90a4b1883c350d64d3e8c1516d"), looks := true }, kinds := [], alts := [], laidByText := true, laidKinds := [.data, .sentinel, .sentinel, .sentinel, .sentinel, .sentinel, .sentinel, .sentinel, .sentinel, .sentinel], laidTests := true, laidLooks := .later }
def NodeFunctionCardSaid : Prop := Claim7.holds Tryz.pinned (.plain (OpenSpec.ofChange nodeFunctionSpec)) nodeFunctionCard

/-- THE TIED CARD OF 'amblerlaw15.NodeActs'. -/
def nodeActsCard : Claim7 := { stood := { row := nodeActsRow, standIns := [], harness := (true, "3661ea52624d16a06564132beaace66a0b8bab90a4b1883c350d64d3e8c1516d"), looks := true }, kinds := [], alts := [], laidByText := true, laidKinds := [.data, .sentinel, .sentinel, .sentinel, .sentinel, .sentinel, .sentinel, .sentinel, .sentinel, .sentinel, .sentinel, .sentinel, .sentinel, .sentinel, .sentinel, .sentinel, .sentinel], laidTests := true, laidLooks := .later }
def NodeActsCardSaid : Prop := Claim7.holds Tryz.pinned (.plain (OpenSpec.ofChange nodeActsSpec)) nodeActsCard

/-- THE SECOND FORM's CARD OF 'amblerlaw15.NodeFunction'. -/
def nodeFunctionUptoCard : Claim7 := { stood := { row := nodeFunctionUptoRow, standIns := [], harness := (true, "3661ea52624d16a06564132beaace66a0b8bab90a4b1883c350d64d3e8c1516d"), looks := true }, kinds := [], alts := [], laidByText := true, laidKinds := [.data, .sentinel, .sentinel, .sentinel, .sentinel, .sentinel, .sentinel, .sentinel, .sentinel, .sentinel], laidTests := true, laidLooks := .later }
def NodeFunctionUptoCardSaid : Prop := Claim7.holds Tryz.pinned (.plain (OpenSpec.upto nodeFunctionSpec)) nodeFunctionUptoCard

/-- THE SECOND FORM's CARD OF 'amblerlaw15.NodeActs'. -/
def nodeActsUptoCard : Claim7 := { stood := { row := nodeActsUptoRow, standIns := [], harness := (true, "3661ea52624d16a06564132beaace66a0b8bab90a4b1883c350d64d3e8c1516d"), looks := true }, kinds := [], alts := [], laidByText := true, laidKinds := [.data, .sentinel, .sentinel, .sentinel, .sentinel, .sentinel, .sentinel, .sentinel, .sentinel, .sentinel, .sentinel, .sentinel, .sentinel, .sentinel, .sentinel, .sentinel, .sentinel], laidTests := true, laidLooks := .later }
def NodeActsUptoCardSaid : Prop := Claim7.holds Tryz.pinned (.plain (OpenSpec.upto nodeActsSpec)) nodeActsUptoCard
end Rows
end Go.Proofs.YtolhmibejhldkaaGreatDoor
