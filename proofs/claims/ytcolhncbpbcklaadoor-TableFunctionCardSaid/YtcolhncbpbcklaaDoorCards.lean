/-
  DERIVED. GIVEN WITH THE SEED: THE CARDS: each row of YtcolhncbpbcklaaDoorRows.lean that lists a variable, with what it lists TIED to the program's text (the seventh form; the later family's looks); each row that meets fmt, with fmt's text TOLD by the authors' own Lean function (tested against real Go, not proved from fmt's source: count such statements apart). THE CARD IS WHAT COUNTS. Prove the row's statement (the work); the ties are given (YtcolhncbpbcklaaDoorTie.lean); close each card by the builder's one call (the guide's Derived/Test/ToyasCard.lean, 'card_holds'). Laid BY PROGRAM, IN A SANDBOX (cutbox-door.mjs). By AI agents, Wed Nov 11 2026. No macro, syntax, notation, axiom, sorry.
-/
import Derived.Test.YtcolhncbpbcklaaDoorRows
import GoSem.ClaimSeven
namespace Go.Proofs.YtcolhncbpbcklaaDoor
namespace Rows

/-- THE TIED CARD OF 'amblerlaw09.TableFunction'. -/
def tableFunctionCard : Claim7 := { stood := { row := tableFunctionRow, standIns := [], harness := (true, "49cda0711882f2121799839efe105fa66484a9ba4361df3aa3760816668583f1"), looks := true }, kinds := [], alts := [], laidByText := true, laidKinds := [.data, .sentinel, .sentinel, .sentinel, .sentinel, .sentinel, .sentinel, .sentinel, .sentinel, .sentinel, .sentinel, .sentinel, .sentinel, .sentinel, .sentinel, .sentinel, .sentinel], laidTests := true, laidLooks := .later }
def TableFunctionCardSaid : Prop := Claim7.holds Tryd.pinned (.plain (OpenSpec.ofChange tableFunctionSpec)) tableFunctionCard

/-- THE TIED CARD OF 'amblerlaw11.BuildEmpty'. -/
def buildEmptyCard : Claim7 := { stood := { row := buildEmptyRow, standIns := [], harness := (true, "49cda0711882f2121799839efe105fa66484a9ba4361df3aa3760816668583f1"), looks := true }, kinds := [], alts := [], laidByText := true, laidKinds := [.data, .sentinel, .sentinel, .sentinel, .sentinel, .sentinel, .sentinel, .sentinel, .sentinel, .sentinel, .sentinel, .sentinel, .sentinel, .sentinel, .sentinel, .sentinel, .sentinel], laidTests := true, laidLooks := .later }
def BuildEmptyCardSaid : Prop := Claim7.holds Tryd.pinned (.plain (OpenSpec.ofChange buildEmptySpec)) buildEmptyCard

/-- THE TIED CARD OF 'amblerlaw12.EvacErrs'. -/
def evacErrsCard : Claim7 := { stood := { row := evacErrsRow, standIns := [], harness := (true, "49cda0711882f2121799839efe105fa66484a9ba4361df3aa3760816668583f1"), looks := true }, kinds := [], alts := [], laidByText := true, laidKinds := [.data, .sentinel, .sentinel, .sentinel, .sentinel, .sentinel, .sentinel, .sentinel, .sentinel, .sentinel, .sentinel, .sentinel, .sentinel, .sentinel, .sentinel, .sentinel, .sentinel], laidTests := true, laidLooks := .later }
def EvacErrsCardSaid : Prop := Claim7.holds Tryd.pinned (.plain (OpenSpec.ofChange evacErrsSpec)) evacErrsCard

/-- THE TIED CARD OF 'amblerlaw12.EvacSides'. -/
def evacSidesCard : Claim7 := { stood := { row := evacSidesRow, standIns := [], harness := (true, "49cda0711882f2121799839efe105fa66484a9ba4361df3aa3760816668583f1"), looks := true }, kinds := [], alts := [], laidByText := true, laidKinds := [.data, .sentinel, .sentinel, .sentinel, .sentinel, .sentinel, .sentinel, .sentinel, .sentinel, .sentinel], laidTests := true, laidLooks := .later }
def EvacSidesCardSaid : Prop := Claim7.holds Tryd.pinned (.plain (OpenSpec.ofChange evacSidesSpec)) evacSidesCard

/-- THE SECOND FORM's CARD OF 'amblerlaw09.TableFunction'. -/
def tableFunctionUptoCard : Claim7 := { stood := { row := tableFunctionUptoRow, standIns := [], harness := (true, "49cda0711882f2121799839efe105fa66484a9ba4361df3aa3760816668583f1"), looks := true }, kinds := [], alts := [], laidByText := true, laidKinds := [.data, .sentinel, .sentinel, .sentinel, .sentinel, .sentinel, .sentinel, .sentinel, .sentinel, .sentinel, .sentinel, .sentinel, .sentinel, .sentinel, .sentinel, .sentinel, .sentinel], laidTests := true, laidLooks := .later }
def TableFunctionUptoCardSaid : Prop := Claim7.holds Tryd.pinned (.plain (OpenSpec.upto tableFunctionSpec)) tableFunctionUptoCard

/-- THE SECOND FORM's CARD OF 'amblerlaw11.BuildEmpty'. -/
def buildEmptyUptoCard : Claim7 := { stood := { row := buildEmptyUptoRow, standIns := [], harness := (true, "49cda0711882f2121799839efe105fa66484a9ba4361df3aa3760816668583f1"), looks := true }, kinds := [], alts := [], laidByText := true, laidKinds := [.data, .sentinel, .sentinel, .sentinel, .sentinel, .sentinel, .sentinel, .sentinel, .sentinel, .sentinel, .sentinel, .sentinel, .sentinel, .sentinel, .sentinel, .sentinel, .sentinel], laidTests := true, laidLooks := .later }
def BuildEmptyUptoCardSaid : Prop := Claim7.holds Tryd.pinned (.plain (OpenSpec.upto buildEmptySpec)) buildEmptyUptoCard

/-- THE SECOND FORM's CARD OF 'amblerlaw12.EvacErrs'. -/
def evacErrsUptoCard : Claim7 := { stood := { row := evacErrsUptoRow, standIns := [], harness := (true, "49cda0711882f2121799839efe105fa66484a9ba4361df3aa3760816668583f1"), looks := true }, kinds := [], alts := [], laidByText := true, laidKinds := [.data, .sentinel, .sentinel, .sentinel, .sentinel, .sentinel, .sentinel, .sentinel, .sentinel, .sentinel, .sentinel, .sentinel, .sentinel, .sentinel, .sentinel, .sentinel, .sentinel], laidTests := true, laidLooks := .later }
def EvacErrsUptoCardSaid : Prop := Claim7.holds Tryd.pinned (.plain (OpenSpec.upto evacErrsSpec)) evacErrsUptoCard

/-- THE SECOND FORM's CARD OF 'amblerlaw12.EvacSides'. -/
def evacSidesUptoCard : Claim7 := { stood := { row := evacSidesUptoRow, standIns := [], harness := (true, "49cda0711882f2121799839efe105fa66484a9ba4361df3aa3760816668583f1"), looks := true }, kinds := [], alts := [], laidByText := true, laidKinds := [.data, .sentinel, .sentinel, .sentinel, .sentinel, .sentinel, .sentinel, .sentinel, .sentinel, .sentinel], laidTests := true, laidLooks := .later }
def EvacSidesUptoCardSaid : Prop := Claim7.holds Tryd.pinned (.plain (OpenSpec.upto evacSidesSpec)) evacSidesUptoCard
end Rows
end Go.Proofs.YtcolhncbpbcklaaDoor
