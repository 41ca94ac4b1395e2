/-
  DERIVED. GIVEN WITH THE SEED: THE CARDS: each row of YtannohinhlefaaaGreatDoorRows.lean that lists a variable, with what it lists TIED to the program's text (the seventh form; the later family's looks); each row that meets fmt, with fmt's text TOLD by the authors' own Lean function (tested against real Go, not proved from fmt's source: count such statements apart). THE CARD IS WHAT COUNTS. Prove the row's statement (the work); the ties are given (YtannohinhlefaaaGreatDoorTie.lean); close each card by the builder's one call (the guide's Derived/Test/ToyasCard.lean, 'card_holds'). Laid BY PROGRAM, IN A SANDBOX (cutbox-door.mjs). By AI agents, Wed Nov 11 2026. No macro, syntax, notation, axiom, sorry.
-/
import Derived.Test.YtannohinhlefaaaGreatDoorRows
import GoSem.ClaimSeven
namespace Go.Proofs.YtannohinhlefaaaGreatDoor
namespace Rows

/-- THE TIED CARD OF 'amblerlaw09.TableActs'. -/
def tableActsCard : Claim7 := { stood := { row := tableActsRow, standIns := [], harness := (true, "4a0e214f08f125614a2ea9b499f5e19b51b6e3aec51fcbed30d9f3283eb953a3"), looks := true }, kinds := [], alts := [], laidByText := true, laidKinds := [.data, .sentinel, .sentinel, .sentinel, .sentinel, .sentinel, .sentinel, .sentinel, .sentinel, .sentinel, .sentinel, .sentinel, .sentinel, .sentinel, .sentinel, .sentinel, .sentinel], laidTests := true, laidLooks := .later }
def TableActsCardSaid : Prop := Claim7.holds Tryz.pinned (.plain (OpenSpec.ofChange tableActsSpec)) tableActsCard

/-- THE TIED CARD OF 'amblerlaw12.EvacAll'. -/
def evacAllCard : Claim7 := { stood := { row := evacAllRow, standIns := [], harness := (true, "4a0e214f08f125614a2ea9b499f5e19b51b6e3aec51fcbed30d9f3283eb953a3"), looks := true }, kinds := [], alts := [], laidByText := true, laidKinds := [.data, .sentinel, .sentinel, .sentinel, .sentinel, .sentinel, .sentinel, .sentinel, .sentinel, .sentinel], laidTests := true, laidLooks := .later }
def EvacAllCardSaid : Prop := Claim7.holds Tryz.pinned (.plain (OpenSpec.ofChange evacAllSpec)) evacAllCard

/-- THE SECOND FORM's CARD OF 'amblerlaw09.TableActs'. -/
def tableActsUptoCard : Claim7 := { stood := { row := tableActsUptoRow, standIns := [], harness := (true, "4a0e214f08f125614a2ea9b499f5e19b51b6e3aec51fcbed30d9f3283eb953a3"), looks := true }, kinds := [], alts := [], laidByText := true, laidKinds := [.data, .sentinel, .sentinel, .sentinel, .sentinel, .sentinel, .sentinel, .sentinel, .sentinel, .sentinel, .sentinel, .sentinel, .sentinel, .sentinel, .sentinel, .sentinel, .sentinel], laidTests := true, laidLooks := .later }
def TableActsUptoCardSaid : Prop := Claim7.holds Tryz.pinned (.plain (OpenSpec.upto tableActsSpec)) tableActsUptoCard

/-- THE SECOND FORM's CARD OF 'amblerlaw12.EvacAll'. -/
def evacAllUptoCard : Claim7 := { stood := { row := evacAllUptoRow, standIns := [], harness := (true, "4a0e214f08f125614a2ea9b499f5e19b51b6e3aec51fcbed30d9f3283eb953a3"), looks := true }, kinds := [], alts := [], laidByText := true, laidKinds := [.data, .sentinel, .sentinel, .sentinel, .sentinel, .sentinel, .sentinel, .sentinel, .sentinel, .sentinel], laidTests := true, laidLooks := .later }
def EvacAllUptoCardSaid : Prop := Claim7.holds Tryz.pinned (.plain (OpenSpec.upto evacAllSpec)) evacAllUptoCard
end Rows
end Go.Proofs.YtannohinhlefaaaGreatDoor
