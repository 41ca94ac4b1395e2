/-
  DERIVED. GIVEN WITH THE SEED: THE CARDS: each row of YtgamgphfjndiiaaGreatDoorRows.lean that lists a variable, with what it lists TIED to the program's text (the seventh form; the later family's looks); each row that meets fmt, with fmt's text TOLD by the authors' own Lean function (tested against real Go, not proved from fmt's source: count such statements apart). THE CARD IS WHAT COUNTS. Prove the row's statement (the work); the ties are given (YtgamgphfjndiiaaGreatDoorTie.lean); close each card by the builder's one call (the guide's Derived/Test/ToyasCard.lean, 'card_holds'). Laid BY PROGRAM, IN A SANDBOX (cutbox-door.mjs). By AI agents, Wed Nov 11 2026. No macro, syntax, notation, axiom, sorry.
-/
import Derived.Test.YtgamgphfjndiiaaGreatDoorRows
import GoSem.ClaimSeven
namespace Go.Proofs.YtgamgphfjndiiaaGreatDoor
namespace Rows

/-- THE TIED CARD OF 'amblerlaw09.TableActs'. -/
def tableActsCard : Claim7 := { stood := { row := tableActsRow, standIns := [], harness := (true, "3e30030e613e837f77213ef44f479ed4fe363e369a67cffffed9a12deb4160d2"), looks := true }, kinds := [], alts := [], laidByText := true, laidKinds := [.data, .sentinel, .sentinel, .sentinel, .sentinel, .sentinel, .sentinel, .sentinel, .sentinel, .sentinel, .sentinel, .sentinel, .sentinel, .sentinel, .sentinel, .sentinel, .sentinel], laidTests := true, laidLooks := .later }
def TableActsCardSaid : Prop := Claim7.holds Tryz.pinned (.plain (OpenSpec.ofChange tableActsSpec)) tableActsCard

/-- THE TIED CARD OF 'amblerlaw12.EvacSteps'. -/
def evacStepsCard : Claim7 := { stood := { row := evacStepsRow, standIns := [], harness := (true, "3e30030e613e837f77213ef44f479ed4fe363e369a67cffffed9a12deb4160d2"), looks := true }, kinds := [], alts := [], laidByText := true, laidKinds := [.data, .sentinel, .sentinel, .sentinel, .sentinel, .sentinel, .sentinel, .sentinel, .sentinel, .sentinel, .sentinel, .sentinel, .sentinel, .sentinel, .sentinel, .sentinel, .sentinel], laidTests := true, laidLooks := .later }
def EvacStepsCardSaid : Prop := Claim7.holds Tryz.pinned (.plain (OpenSpec.ofChange evacStepsSpec)) evacStepsCard

/-- THE TIED CARD OF 'amblerlaw10.SoundStays'. -/
def soundStaysCard : Claim7 := { stood := { row := soundStaysRow, standIns := [], harness := (true, "3e30030e613e837f77213ef44f479ed4fe363e369a67cffffed9a12deb4160d2"), looks := true }, kinds := [], alts := [], laidByText := true, laidKinds := [.data, .sentinel, .sentinel, .sentinel, .sentinel, .sentinel, .sentinel, .sentinel, .sentinel], laidTests := true, laidLooks := .later }
def SoundStaysCardSaid : Prop := Claim7.holds Tryz.pinned (.plain (OpenSpec.ofChange soundStaysSpec)) soundStaysCard

/-- THE TIED CARD OF 'amblerlaw10.SoundPaths'. -/
def soundPathsCard : Claim7 := { stood := { row := soundPathsRow, standIns := [], harness := (true, "3e30030e613e837f77213ef44f479ed4fe363e369a67cffffed9a12deb4160d2"), looks := true }, kinds := [], alts := [], laidByText := true, laidKinds := [.data, .sentinel, .sentinel, .sentinel, .sentinel, .sentinel, .sentinel, .sentinel, .sentinel], laidTests := true, laidLooks := .later }
def SoundPathsCardSaid : Prop := Claim7.holds Tryz.pinned (.plain (OpenSpec.ofChange soundPathsSpec)) soundPathsCard

/-- THE TIED CARD OF 'amblerlaw10.SoundShapes'. -/
def soundShapesCard : Claim7 := { stood := { row := soundShapesRow, standIns := [], harness := (true, "3e30030e613e837f77213ef44f479ed4fe363e369a67cffffed9a12deb4160d2"), looks := true }, kinds := [], alts := [], laidByText := true, laidKinds := [.data, .sentinel, .sentinel, .sentinel, .sentinel, .sentinel, .sentinel, .sentinel, .sentinel, .sentinel, .sentinel, .sentinel, .sentinel, .sentinel, .sentinel, .sentinel, .sentinel], laidTests := true, laidLooks := .later }
def SoundShapesCardSaid : Prop := Claim7.holds Tryz.pinned (.plain (OpenSpec.ofChange soundShapesSpec)) soundShapesCard

/-- THE TIED CARD OF 'amblerlaw12.EvacAll'. -/
def evacAllCard : Claim7 := { stood := { row := evacAllRow, standIns := [], harness := (true, "3e30030e613e837f77213ef44f479ed4fe363e369a67cffffed9a12deb4160d2"), looks := true }, kinds := [], alts := [], laidByText := true, laidKinds := [.data, .sentinel, .sentinel, .sentinel, .sentinel, .sentinel, .sentinel, .sentinel, .sentinel, .sentinel], laidTests := true, laidLooks := .later }
def EvacAllCardSaid : Prop := Claim7.holds Tryz.pinned (.plain (OpenSpec.ofChange evacAllSpec)) evacAllCard

/-- THE SECOND FORM's CARD OF 'amblerlaw09.TableActs'. -/
def tableActsUptoCard : Claim7 := { stood := { row := tableActsUptoRow, standIns := [], harness := (true, "3e30030e613e837f77213ef44f479ed4fe363e369a67cffffed9a12deb4160d2"), looks := true }, kinds := [], alts := [], laidByText := true, laidKinds := [.data, .sentinel, .sentinel, .sentinel, .sentinel, .sentinel, .sentinel, .sentinel, .sentinel, .sentinel, .sentinel, .sentinel, .sentinel, .sentinel, .sentinel, .sentinel, .sentinel], laidTests := true, laidLooks := .later }
def TableActsUptoCardSaid : Prop := Claim7.holds Tryz.pinned (.plain (OpenSpec.upto tableActsSpec)) tableActsUptoCard

/-- THE SECOND FORM's CARD OF 'amblerlaw12.EvacSteps'. -/
def evacStepsUptoCard : Claim7 := { stood := { row := evacStepsUptoRow, standIns := [], harness := (true, "3e30030e613e837f77213ef44f479ed4fe363e369a67cffffed9a12deb4160d2"), looks := true }, kinds := [], alts := [], laidByText := true, laidKinds := [.data, .sentinel, .sentinel, .sentinel, .sentinel, .sentinel, .sentinel, .sentinel, .sentinel, .sentinel, .sentinel, .sentinel, .sentinel, .sentinel, .sentinel, .sentinel, .sentinel], laidTests := true, laidLooks := .later }
def EvacStepsUptoCardSaid : Prop := Claim7.holds Tryz.pinned (.plain (OpenSpec.upto evacStepsSpec)) evacStepsUptoCard

/-- THE SECOND FORM's CARD OF 'amblerlaw10.SoundStays'. -/
def soundStaysUptoCard : Claim7 := { stood := { row := soundStaysUptoRow, standIns := [], harness := (true, "3e30030e613e837f77213ef44f479ed4fe363e369a67cffffed9a12deb4160d2"), looks := true }, kinds := [], alts := [], laidByText := true, laidKinds := [.data, .sentinel, .sentinel, .sentinel, .sentinel, .sentinel, .sentinel, .sentinel, .sentinel], laidTests := true, laidLooks := .later }
def SoundStaysUptoCardSaid : Prop := Claim7.holds Tryz.pinned (.plain (OpenSpec.upto soundStaysSpec)) soundStaysUptoCard

/-- THE SECOND FORM's CARD OF 'amblerlaw10.SoundPaths'. -/
def soundPathsUptoCard : Claim7 := { stood := { row := soundPathsUptoRow, standIns := [], harness := (true, "3e30030e613e837f77213ef44f479ed4fe363e369a67cffffed9a12deb4160d2"), looks := true }, kinds := [], alts := [], laidByText := true, laidKinds := [.data, .sentinel, .sentinel, .sentinel, .sentinel, .sentinel, .sentinel, .sentinel, .sentinel], laidTests := true, laidLooks := .later }
def SoundPathsUptoCardSaid : Prop := Claim7.holds Tryz.pinned (.plain (OpenSpec.upto soundPathsSpec)) soundPathsUptoCard

/-- THE SECOND FORM's CARD OF 'amblerlaw10.SoundShapes'. -/
def soundShapesUptoCard : Claim7 := { stood := { row := soundShapesUptoRow, standIns := [], harness := (true, "3e30030e613e837f77213ef44f479ed4fe363e369a67cffffed9a12deb4160d2"), looks := true }, kinds := [], alts := [], laidByText := true, laidKinds := [.data, .sentinel, .sentinel, .sentinel, .sentinel, .sentinel, .sentinel, .sentinel, .sentinel, .sentinel, .sentinel, .sentinel, .sentinel, .sentinel, .sentinel, .sentinel, .sentinel], laidTests := true, laidLooks := .later }
def SoundShapesUptoCardSaid : Prop := Claim7.holds Tryz.pinned (.plain (OpenSpec.upto soundShapesSpec)) soundShapesUptoCard

/-- THE SECOND FORM's CARD OF 'amblerlaw12.EvacAll'. -/
def evacAllUptoCard : Claim7 := { stood := { row := evacAllUptoRow, standIns := [], harness := (true, "3e30030e613e837f77213ef44f479ed4fe363e369a67cffffed9a12deb4160d2"), looks := true }, kinds := [], alts := [], laidByText := true, laidKinds := [.data, .sentinel, .sentinel, .sentinel, .sentinel, .sentinel, .sentinel, .sentinel, .sentinel, .sentinel], laidTests := true, laidLooks := .later }
def EvacAllUptoCardSaid : Prop := Claim7.holds Tryz.pinned (.plain (OpenSpec.upto evacAllSpec)) evacAllUptoCard
end Rows
end Go.Proofs.YtgamgphfjndiiaaGreatDoor
