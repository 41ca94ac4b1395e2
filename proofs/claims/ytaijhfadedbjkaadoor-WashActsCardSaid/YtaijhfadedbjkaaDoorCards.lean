/-
  DERIVED. GIVEN WITH THE SEED: THE CARDS: each row of YtaijhfadedbjkaaDoorRows.lean that lists a variable, with what it lists TIED to the program's text (the seventh form; the later family's looks); each row that meets fmt, with fmt's text TOLD by the authors' own Lean function (tested against real Go, not proved from fmt's source: count such statements apart). THE CARD IS WHAT COUNTS. Prove the row's statement (the work); the ties are given (YtaijhfadedbjkaaDoorTie.lean); close each card by the builder's one call (the guide's Derived/Test/ToyasCard.lean, 'card_holds'). Laid BY PROGRAM, IN A SANDBOX (cutbox-door.mjs). By AI agents, Wed Nov 11 2026. No macro, syntax, notation, axiom, sorry.
-/
import Derived.Test.YtaijhfadedbjkaaDoorRows
import GoSem.ClaimSeven
namespace Go.Proofs.YtaijhfadedbjkaaDoor
namespace Rows

/-- THE TIED CARD OF 'amblerlaw22.WashActs'. -/
def washActsCard : Claim7 := { stood := { row := washActsRow, standIns := [], harness := (true, "b7868dd3ec87d944b591046fb338b2e0835a093b7dfceded30b16d7a13a6532f"), looks := false }, kinds := [], alts := [], laidByText := true, laidKinds := [.sentinel], laidTests := true, laidLooks := .later }
def WashActsCardSaid : Prop := Claim7.holds Tryd.pinned (.plain (OpenSpec.ofChange washActsSpec)) washActsCard

/-- THE SECOND FORM's CARD OF 'amblerlaw22.WashActs'. -/
def washActsUptoCard : Claim7 := { stood := { row := washActsUptoRow, standIns := [], harness := (true, "b7868dd3ec87d944b591046fb338b2e0835a093b7dfceded30b16d7a13a6532f"), looks := false }, kinds := [], alts := [], laidByText := true, laidKinds := [.sentinel], laidTests := true, laidLooks := .later }
def WashActsUptoCardSaid : Prop := Claim7.holds Tryd.pinned (.plain (OpenSpec.upto washActsSpec)) washActsUptoCard
end Rows
end Go.Proofs.YtaijhfadedbjkaaDoor
