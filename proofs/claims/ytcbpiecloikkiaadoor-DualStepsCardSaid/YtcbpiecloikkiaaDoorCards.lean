/-
  DERIVED. GIVEN WITH THE SEED: THE CARDS: each row of YtcbpiecloikkiaaDoorRows.lean that lists a variable, with what it lists TIED to the program's text (the seventh form; the later family's looks); each row that meets fmt, with fmt's text TOLD by the authors' own Lean function (tested against real Go, not proved from fmt's source: count such statements apart). THE CARD IS WHAT COUNTS. Prove the row's statement (the work); the ties are given (YtcbpiecloikkiaaDoorTie.lean); close each card by the builder's one call (the guide's Derived/Test/ToyasCard.lean, 'card_holds'). Laid BY PROGRAM, IN A SANDBOX (cutbox-door.mjs). By AI agents, Wed Nov 11 2026. No macro, syntax, notation, axiom, sorry.
-/
import Derived.Test.YtcbpiecloikkiaaDoorRows
import GoSem.ClaimSeven
namespace Go.Proofs.YtcbpiecloikkiaaDoor
namespace Rows

/-- THE TIED CARD OF 'amblerlaw12.EvacErrs'. -/
def evacErrsCard : Claim7 := { stood := { row := evacErrsRow, standIns := [], harness := (true, "51f375040cecbb0e23973b5060d5a892bdf771700f4b66197da45b58eac2b5e8"), looks := true }, kinds := [], alts := [], laidByText := true, laidKinds := [.data, .sentinel, .sentinel, .sentinel, .sentinel, .sentinel, .sentinel, .sentinel, .sentinel, .sentinel, .sentinel, .sentinel, .sentinel, .sentinel, .sentinel, .sentinel, .sentinel], laidTests := true, laidLooks := .later }
def EvacErrsCardSaid : Prop := Claim7.holds Tryd.pinned (.plain (OpenSpec.ofChange evacErrsSpec)) evacErrsCard

/-- THE TIED CARD OF 'amblerlaw13.DualSteps'. -/
def dualStepsCard : Claim7 := { stood := { row := dualStepsRow, standIns := [], harness := (true, "51f375040cecbb0e23973b5060d5a892bdf771700f4b66197da45b58eac2b5e8"), looks := true }, kinds := [], alts := [], laidByText := true, laidKinds := [.data, .sentinel, .sentinel, .sentinel, .sentinel, .sentinel, .sentinel, .sentinel, .sentinel, .sentinel], laidTests := true, laidLooks := .later }
def DualStepsCardSaid : Prop := Claim7.holds Tryd.pinned (.plain (OpenSpec.ofChange dualStepsSpec)) dualStepsCard

/-- THE SECOND FORM's CARD OF 'amblerlaw12.EvacErrs'. -/
def evacErrsUptoCard : Claim7 := { stood := { row := evacErrsUptoRow, standIns := [], harness := (true, "51f375040cecbb0e23973b5060d5a892bdf771700f4b66197da45b58eac2b5e8"), looks := true }, kinds := [], alts := [], laidByText := true, laidKinds := [.data, .sentinel, .sentinel, .sentinel, .sentinel, .sentinel, .sentinel, .sentinel, .sentinel, .sentinel, .sentinel, .sentinel, .sentinel, .sentinel, .sentinel, .sentinel, .sentinel], laidTests := true, laidLooks := .later }
def EvacErrsUptoCardSaid : Prop := Claim7.holds Tryd.pinned (.plain (OpenSpec.upto evacErrsSpec)) evacErrsUptoCard

/-- THE SECOND FORM's CARD OF 'amblerlaw13.DualSteps'. -/
def dualStepsUptoCard : Claim7 := { stood := { row := dualStepsUptoRow, standIns := [], harness := (true, "51f375040cecbb0e23973b5060d5a892bdf771700f4b66197da45b58eac2b5e8"), looks := true }, kinds := [], alts := [], laidByText := true, laidKinds := [.data, .sentinel, .sentinel, .sentinel, .sentinel, .sentinel, .sentinel, .sentinel, .sentinel, .sentinel], laidTests := true, laidLooks := .later }
def DualStepsUptoCardSaid : Prop := Claim7.holds Tryd.pinned (.plain (OpenSpec.upto dualStepsSpec)) dualStepsUptoCard
end Rows
end Go.Proofs.YtcbpiecloikkiaaDoor
