/-
  DERIVED. GIVEN WITH THE SEED: THE CARDS: each row of YtfdeoblciichmaaDoorRows.lean that lists a variable, with what it lists TIED to the program's text (the seventh form; the later family's looks); each row that meets fmt, with fmt's text TOLD by the authors' own Lean function (tested against real Go, not proved from fmt's source: count such statements apart). THE CARD IS WHAT COUNTS. Prove the row's statement (the work); the ties are given (YtfdeoblciichmaaDoorTie.lean); close each card by the builder's one call (the guide's Derived/Test/ToyasCard.lean, 'card_holds'). Laid BY PROGRAM, IN A SANDBOX (cutbox-door.mjs). By AI agents, Wed Nov 11 2026. No macro, syntax, notation, axiom, sorry.
-/
import Derived.Test.YtfdeoblciichmaaDoorRows
import GoSem.ClaimSeven
namespace Go.Proofs.YtfdeoblciichmaaDoor
namespace Rows

/-- THE TIED CARD OF 'amblerlaw01.SwarTwo'. -/
def swarTwoCard : Claim7 := { stood := { row := swarTwoRow, standIns := [], harness := (true, "100e8984f41631c189965c370ac1b5fafbb1bfca32d612d7e068a69b44170d0b"), looks := false }, kinds := [], alts := [], laidByText := true, laidKinds := [.data], laidTests := true, laidLooks := .later }
def SwarTwoCardSaid : Prop := Claim7.holds Tryd.pinned (.plain (OpenSpec.ofChange swarTwoSpec)) swarTwoCard

/-- THE TIED CARD OF 'amblerlaw01.SwarLanes'. -/
def swarLanesCard : Claim7 := { stood := { row := swarLanesRow, standIns := [], harness := (true, "100e8984f41631c189965c370ac1b5fafbb1bfca32d612d7e068a69b44170d0b"), looks := false }, kinds := [], alts := [], laidByText := true, laidKinds := [.data], laidTests := true, laidLooks := .later }
def SwarLanesCardSaid : Prop := Claim7.holds Tryd.pinned (.plain (OpenSpec.ofChange swarLanesSpec)) swarLanesCard

/-- THE TIED CARD OF 'amblerlaw01.SwarMasks'. -/
def swarMasksCard : Claim7 := { stood := { row := swarMasksRow, standIns := [], harness := (true, "100e8984f41631c189965c370ac1b5fafbb1bfca32d612d7e068a69b44170d0b"), looks := false }, kinds := [], alts := [], laidByText := true, laidKinds := [.data], laidTests := true, laidLooks := .later }
def SwarMasksCardSaid : Prop := Claim7.holds Tryd.pinned (.plain (OpenSpec.ofChange swarMasksSpec)) swarMasksCard

/-- THE TIED CARD OF 'amblerlaw01.SwarBack'. -/
def swarBackCard : Claim7 := { stood := { row := swarBackRow, standIns := [], harness := (true, "100e8984f41631c189965c370ac1b5fafbb1bfca32d612d7e068a69b44170d0b"), looks := false }, kinds := [], alts := [], laidByText := true, laidKinds := [.data], laidTests := true, laidLooks := .later }
def SwarBackCardSaid : Prop := Claim7.holds Tryd.pinned (.plain (OpenSpec.ofChange swarBackSpec)) swarBackCard

/-- THE SECOND FORM's CARD OF 'amblerlaw01.SwarTwo'. -/
def swarTwoUptoCard : Claim7 := { stood := { row := swarTwoUptoRow, standIns := [], harness := (true, "100e8984f41631c189965c370ac1b5fafbb1bfca32d612d7e068a69b44170d0b"), looks := false }, kinds := [], alts := [], laidByText := true, laidKinds := [.data], laidTests := true, laidLooks := .later }
def SwarTwoUptoCardSaid : Prop := Claim7.holds Tryd.pinned (.plain (OpenSpec.upto swarTwoSpec)) swarTwoUptoCard

/-- THE SECOND FORM's CARD OF 'amblerlaw01.SwarLanes'. -/
def swarLanesUptoCard : Claim7 := { stood := { row := swarLanesUptoRow, standIns := [], harness := (true, "100e8984f41631c189965c370ac1b5fafbb1bfca32d612d7e068a69b44170d0b"), looks := false }, kinds := [], alts := [], laidByText := true, laidKinds := [.data], laidTests := true, laidLooks := .later }
def SwarLanesUptoCardSaid : Prop := Claim7.holds Tryd.pinned (.plain (OpenSpec.upto swarLanesSpec)) swarLanesUptoCard

/-- THE SECOND FORM's CARD OF 'amblerlaw01.SwarMasks'. -/
def swarMasksUptoCard : Claim7 := { stood := { row := swarMasksUptoRow, standIns := [], harness := (true, "100e8984f41631c189965c370ac1b5fafbb1bfca32d612d7e068a69b44170d0b"), looks := false }, kinds := [], alts := [], laidByText := true, laidKinds := [.data], laidTests := true, laidLooks := .later }
def SwarMasksUptoCardSaid : Prop := Claim7.holds Tryd.pinned (.plain (OpenSpec.upto swarMasksSpec)) swarMasksUptoCard

/-- THE SECOND FORM's CARD OF 'amblerlaw01.SwarBack'. -/
def swarBackUptoCard : Claim7 := { stood := { row := swarBackUptoRow, standIns := [], harness := (true, "100e8984f41631c189965c370ac1b5fafbb1bfca32d612d7e068a69b44170d0b"), looks := false }, kinds := [], alts := [], laidByText := true, laidKinds := [.data], laidTests := true, laidLooks := .later }
def SwarBackUptoCardSaid : Prop := Claim7.holds Tryd.pinned (.plain (OpenSpec.upto swarBackSpec)) swarBackUptoCard
end Rows
end Go.Proofs.YtfdeoblciichmaaDoor
