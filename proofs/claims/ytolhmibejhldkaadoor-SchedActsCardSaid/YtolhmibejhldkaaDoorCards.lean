/-
  DERIVED. GIVEN WITH THE SEED: THE CARDS: each row of YtolhmibejhldkaaDoorRows.lean that lists a variable, with what it lists TIED to the program's text (the seventh form; the later family's looks); each row that meets fmt, with fmt's text TOLD by the authors' own Lean function (tested against real Go, not proved from fmt's source: count such statements apart). THE CARD IS WHAT COUNTS. Prove the row's statement (the work); the ties are given (YtolhmibejhldkaaDoorTie.lean); close each card by the builder's one call (the guide's Derived/Test/ToyasCard.lean, 'card_holds'). Laid BY PROGRAM, IN A SANDBOX (cutbox-door.mjs). By AI agents, Wed Nov 11 2026. No macro, syntax, notation, axiom, sorry.
-/
import Derived.Test.YtolhmibejhldkaaDoorRows
import GoSem.ClaimSeven
namespace Go.Proofs.YtolhmibejhldkaaDoor
namespace Rows

/-- THE TIED CARD OF 'amblerlaw20.SchedAlone'. -/
def schedAloneCard : Claim7 := { stood := { row := schedAloneRow, standIns := [], harness := (true, "563277f83256728b6b213ceb87a0f4c49c443738e243191890eaa17bc5d251fa"), looks := true }, kinds := [], alts := [], laidByText := true, laidKinds := [.sentinel, .sentinel, .sentinel, .sentinel], laidTests := true, laidLooks := .later }
def SchedAloneCardSaid : Prop := Claim7.holds Tryd.pinned (.plain (OpenSpec.ofChange schedAloneSpec)) schedAloneCard

/-- THE TIED CARD OF 'amblerlaw20.SchedSoon'. -/
def schedSoonCard : Claim7 := { stood := { row := schedSoonRow, standIns := [], harness := (true, "563277f83256728b6b213ceb87a0f4c49c443738e243191890eaa17bc5d251fa"), looks := true }, kinds := [], alts := [], laidByText := true, laidKinds := [.sentinel, .sentinel, .sentinel, .sentinel], laidTests := true, laidLooks := .later }
def SchedSoonCardSaid : Prop := Claim7.holds Tryd.pinned (.plain (OpenSpec.ofChange schedSoonSpec)) schedSoonCard

/-- THE TIED CARD OF 'amblerlaw20.SchedActs'. -/
def schedActsCard : Claim7 := { stood := { row := schedActsRow, standIns := [], harness := (true, "563277f83256728b6b213ceb87a0f4c49c443738e243191890eaa17bc5d251fa"), looks := true }, kinds := [], alts := [], laidByText := true, laidKinds := [.sentinel, .sentinel, .sentinel, .sentinel, .sentinel, .sentinel, .sentinel, .sentinel, .sentinel, .sentinel, .sentinel, .sentinel, .sentinel, .sentinel, .sentinel, .sentinel], laidTests := true, laidLooks := .later }
def SchedActsCardSaid : Prop := Claim7.holds Tryd.pinned (.plain (OpenSpec.ofChange schedActsSpec)) schedActsCard

/-- THE SECOND FORM's CARD OF 'amblerlaw20.SchedAlone'. -/
def schedAloneUptoCard : Claim7 := { stood := { row := schedAloneUptoRow, standIns := [], harness := (true, "563277f83256728b6b213ceb87a0f4c49c443738e243191890eaa17bc5d251fa"), looks := true }, kinds := [], alts := [], laidByText := true, laidKinds := [.sentinel, .sentinel, .sentinel, .sentinel], laidTests := true, laidLooks := .later }
def SchedAloneUptoCardSaid : Prop := Claim7.holds Tryd.pinned (.plain (OpenSpec.upto schedAloneSpec)) schedAloneUptoCard

/-- THE SECOND FORM's CARD OF 'amblerlaw20.SchedSoon'. -/
def schedSoonUptoCard : Claim7 := { stood := { row := schedSoonUptoRow, standIns := [], harness := (true, "563277f83256728b6b213ceb87a0f4c49c443738e243191890eaa17bc5d251fa"), looks := true }, kinds := [], alts := [], laidByText := true, laidKinds := [.sentinel, .sentinel, .sentinel, .sentinel], laidTests := true, laidLooks := .later }
def SchedSoonUptoCardSaid : Prop := Claim7.holds Tryd.pinned (.plain (OpenSpec.upto schedSoonSpec)) schedSoonUptoCard

/-- THE SECOND FORM's CARD OF 'amblerlaw20.SchedActs'. -/
def schedActsUptoCard : Claim7 := { stood := { row := schedActsUptoRow, standIns := [], harness := (true, "563277f83256728b6b213ceb87a0f4c49c443738e243191890eaa17bc5d251fa"), looks := true }, kinds := [], alts := [], laidByText := true, laidKinds := [.sentinel, .sentinel, .sentinel, .sentinel, .sentinel, .sentinel, .sentinel, .sentinel, .sentinel, .sentinel, .sentinel, .sentinel, .sentinel, .sentinel, .sentinel, .sentinel], laidTests := true, laidLooks := .later }
def SchedActsUptoCardSaid : Prop := Claim7.holds Tryd.pinned (.plain (OpenSpec.upto schedActsSpec)) schedActsUptoCard
end Rows
end Go.Proofs.YtolhmibejhldkaaDoor
