/-
  NARROWER THAN 'FOR EVERY INPUT', by the rows' own cells (each row's printed sentence says how): CtrlTells: laid · MixSums: laid · ChooseTells: laid · MixTells: laid · MixBack: laid · CtrlApart: laid · CtrlSets: laid · CtrlPaths: laid · MixSpreads: laid · DirActs: laid · CopyistKeeps: laid · CopyistActs: laid.
  DERIVED. THE GIVEN ROWS OF THIS SEAT. 12 by the template 'for every input the law returns true; each argument reads behind the call as it read before'; 0 by the template 'total and deterministic' (their statements: YtdlfkjpnbgobhaaDoorTotals.lean).
  GIVEN WITH THE SEED: the statements are not yours to turn. If you find one false, say at which input.
  Laid BY PROGRAM, IN A SANDBOX (cutbox-rows.mjs): the forced cells as the released guide's own fill.sh prints them over the translation 8093486dff9363df… (all of the seat's roots in one cut). By AI agents, Wed Nov 11 2026. No macro, syntax, notation, axiom, sorry.
-/
import Derived.Test.YtdlfkjpnbgobhaaDoorChecked
import GoSem.Claim
import GoSem.ClaimJoined
import GoSem.ClaimMapViews
import Derived.JoinedTies
import Derived.KernelRfl
namespace Go.Proofs.YtdlfkjpnbgobhaaDoor
/- THE CELL 'sum', in the pinned program and in every row, IS THE sha256 OF THE DUMP (.gsa) THAT YtdlfkjpnbgobhaaDoorProg.lean LOADS. Nothing in Lean hashes anything: it is a label: what it is worth is what the hold of that sum in a sandbox is worth. -/
noncomputable def Tryd.pinned : Pinned := { name := "ytdlfkjpnbgobhaadoor", sum := "8093486dff9363dffcf83c6676f0054a9026f1917220cb64c1a7b9999c692f05", checked := Tryd.checked }
namespace Rows
def none {H : Type} : Left H := { results := [], args := [] }

/- WHAT THE LISTED PACKAGE-LEVEL VARIABLES READ AS WHEN THE CALL BEGINS. Each datum BY PROGRAM (the guide's laid-datum.mjs) off the statement by which the dump's own 'gosem.cut.vars' lays the variable. In a bare row this is a premise. The card (YtdlfkjpnbgobhaaDoorCards.lean) ties it to the program's text. -/
def laid_ambler_api_ErrRange {H : Type} : DataW H := .iface "*errors.errorString" (.ptr (.agg [.lit (.string [97, 32, 110, 117, 109, 98, 101, 114, 32, 105, 115, 32, 111, 117, 116, 32, 111, 102, 32, 105, 116, 115, 32, 114, 97, 110, 103, 101])]))
def laid_ambler_api_ErrForm {H : Type} : DataW H := .iface "*errors.errorString" (.ptr (.agg [.lit (.string [105, 116, 32, 105, 115, 32, 110, 111, 116, 32, 111, 102, 32, 105, 116, 115, 32, 102, 111, 114, 109])]))
def laid_ambler_api_ErrKind {H : Type} : DataW H := .iface "*errors.errorString" (.ptr (.agg [.lit (.string [105, 116, 32, 105, 115, 32, 111, 102, 32, 97, 110, 111, 116, 104, 101, 114, 32, 107, 105, 110, 100])]))
def laid_ambler_mix_words {H : Type} : DataW H := .agg [.lit (.string [115, 97, 109, 101]), .lit (.string [111, 110, 101]), .lit (.string [109, 117, 108, 116]), .lit (.string [102, 110, 118]), .lit (.string [116, 117, 114, 110]), .lit (.string [116, 111, 112])]
def laid_ambler_api_ErrFull {H : Type} : DataW H := .iface "*errors.errorString" (.ptr (.agg [.lit (.string [116, 104, 101, 114, 101, 32, 105, 115, 32, 110, 111, 32, 109, 111, 114, 101, 32, 114, 111, 111, 109])]))
def laid_ambler_api_ErrNone {H : Type} : DataW H := .iface "*errors.errorString" (.ptr (.agg [.lit (.string [116, 104, 101, 114, 101, 32, 105, 115, 32, 110, 111, 110, 101])]))
def laid_ambler_api_ErrState {H : Type} : DataW H := .iface "*errors.errorString" (.ptr (.agg [.lit (.string [105, 116, 32, 99, 97, 110, 32, 110, 111, 116, 32, 98, 101, 32, 100, 111, 110, 101, 32, 105, 110, 32, 116, 104, 105, 115, 32, 115, 116, 97, 116, 101])]))
def laid_ambler_api_ErrBadIter {H : Type} : DataW H := .iface "*errors.errorString" (.ptr (.agg [.lit (.string [116, 104, 101, 114, 101, 32, 105, 115, 32, 110, 111, 32, 115, 117, 99, 104, 32, 105, 116, 101, 114, 97, 116, 111, 114])]))
def laid_ambler_api_ErrTooMany {H : Type} : DataW H := .iface "*errors.errorString" (.ptr (.agg [.lit (.string [116, 104, 101, 114, 101, 32, 97, 114, 101, 32, 116, 111, 111, 32, 109, 97, 110, 121, 32, 105, 116, 101, 114, 97, 116, 111, 114, 115])]))
def laid_ambler_api_ErrHash {H : Type} : DataW H := .iface "*errors.errorString" (.ptr (.agg [.lit (.string [111, 110, 101, 32, 107, 101, 121, 32, 104, 97, 115, 32, 116, 119, 111, 32, 104, 97, 115, 104, 101, 115])]))
def laid_ambler_api_ErrLong {H : Type} : DataW H := .iface "*errors.errorString" (.ptr (.agg [.lit (.string [116, 104, 101, 114, 101, 32, 105, 115, 32, 109, 111, 114, 101, 32, 116, 104, 97, 110, 32, 109, 97, 121, 32, 98, 101])]))
def laid_ambler_api_ErrBroken {H : Type} : DataW H := .iface "*errors.errorString" (.ptr (.agg [.lit (.string [115, 111, 109, 101, 116, 104, 105, 110, 103, 32, 116, 104, 97, 116, 32, 109, 117, 115, 116, 32, 98, 101, 32, 115, 111, 32, 105, 115, 32, 110, 111, 116])]))
def laid_ambler_api_ErrLimit {H : Type} : DataW H := .iface "*errors.errorString" (.ptr (.agg [.lit (.string [97, 32, 108, 105, 109, 105, 116, 32, 105, 115, 32, 112, 97, 115, 115, 101, 100])]))
def laid_ambler_api_ErrEmpty {H : Type} : DataW H := .iface "*errors.errorString" (.ptr (.agg [.lit (.string [116, 104, 101, 114, 101, 32, 105, 115, 32, 110, 111, 116, 104, 105, 110, 103, 32, 105, 110, 32, 105, 116])]))
def laid_ambler_api_ErrNumber {H : Type} : DataW H := .iface "*errors.errorString" (.ptr (.agg [.lit (.string [116, 104, 101, 32, 116, 101, 120, 116, 32, 105, 115, 32, 110, 111, 32, 110, 117, 109, 98, 101, 114])]))
def laid_ambler_api_ErrName {H : Type} : DataW H := .iface "*errors.errorString" (.ptr (.agg [.lit (.string [116, 104, 101, 114, 101, 32, 105, 115, 32, 110, 111, 32, 115, 117, 99, 104, 32, 110, 97, 109, 101])]))
def laid_ambler_api_ErrDup {H : Type} : DataW H := .iface "*errors.errorString" (.ptr (.agg [.lit (.string [105, 116, 32, 105, 115, 32, 116, 104, 101, 114, 101, 32, 97, 108, 114, 101, 97, 100, 121])]))
def laid_ambler_choose_words {H : Type} : DataW H := .agg [.lit (.string [110, 111, 110, 101]), .lit (.string [115, 119, 101, 101, 112]), .lit (.string [103, 114, 111, 119]), .lit (.string [115, 112, 108, 105, 116])]

/-- 'amblerlaw02.CtrlTells': WHATEVER THE INPUT: true; the input reads as it did. -/
def ctrlTellsSpec : ChangeSpec := { name := "ctrlTells", fn := fun _ => fun
  | [d1, d2, d3] => { results := [.lit (.bool true)], args := [d1, d2, d3] }
  | _ => none }
def ctrlTellsRow : OpenClaim := { program := "ytdlfkjpnbgobhaadoor", sum := "8093486dff9363dffcf83c6676f0054a9026f1917220cb64c1a7b9999c692f05", func := "ambler/amblerlaw02.CtrlTells", spec := "ctrlTells", named := ["ambler/api.ErrRange", "ambler/api.ErrForm"], apart := false, laid := [("ambler/api.ErrRange", laid_ambler_api_ErrRange), ("ambler/api.ErrForm", laid_ambler_api_ErrForm)] }
def CtrlTellsSaid : Prop := ctrlTellsRow.holds Tryd.pinned (OpenSpec.ofChange ctrlTellsSpec)

/-- ITS FALSE NEIGHBOUR: 'it returns false'. Refute it at one input. -/
def ctrlTellsWrong : ChangeSpec := { name := "ctrlTells", fn := fun _ => fun
  | [d1, d2, d3] => { results := [.lit (.bool false)], args := [d1, d2, d3] }
  | _ => none }
def CtrlTellsWrongFalsely : Prop := ctrlTellsRow.holds Tryd.pinned (OpenSpec.ofChange ctrlTellsWrong)

/-- 'amblerlaw29.MixSums': WHATEVER THE INPUT: true; the input reads as it did. -/
def mixSumsSpec : ChangeSpec := { name := "mixSums", fn := fun _ => fun
  | [d1, d2, d3] => { results := [.lit (.bool true)], args := [d1, d2, d3] }
  | _ => none }
def mixSumsRow : OpenClaim := { program := "ytdlfkjpnbgobhaadoor", sum := "8093486dff9363dffcf83c6676f0054a9026f1917220cb64c1a7b9999c692f05", func := "ambler/amblerlaw29.MixSums", spec := "mixSums", named := ["ambler/api.ErrKind", "ambler/mix.words", "ambler/api.ErrRange"], apart := false, laid := [("ambler/api.ErrRange", laid_ambler_api_ErrRange), ("ambler/api.ErrKind", laid_ambler_api_ErrKind), ("ambler/mix.words", laid_ambler_mix_words)] }
def MixSumsSaid : Prop := mixSumsRow.holds Tryd.pinned (OpenSpec.ofChange mixSumsSpec)

/-- ITS FALSE NEIGHBOUR: 'it returns false'. Refute it at one input. -/
def mixSumsWrong : ChangeSpec := { name := "mixSums", fn := fun _ => fun
  | [d1, d2, d3] => { results := [.lit (.bool false)], args := [d1, d2, d3] }
  | _ => none }
def MixSumsWrongFalsely : Prop := mixSumsRow.holds Tryd.pinned (OpenSpec.ofChange mixSumsWrong)

/-- 'amblerlaw14.ChooseTells': WHATEVER THE INPUT: true; the input reads as it did. -/
def chooseTellsSpec : ChangeSpec := { name := "chooseTells", fn := fun _ => fun
  | [d1, d2] => { results := [.lit (.bool true)], args := [d1, d2] }
  | _ => none }
def chooseTellsRow : OpenClaim := { program := "ytdlfkjpnbgobhaadoor", sum := "8093486dff9363dffcf83c6676f0054a9026f1917220cb64c1a7b9999c692f05", func := "ambler/amblerlaw14.ChooseTells", spec := "chooseTells", inPlace := ["internal/reflectlite.TypeOf"], unfollowed := true, recurses := true, named := ["ambler/choose.words", "ambler/api.ErrKind", "ambler/api.ErrRange", "ambler/api.ErrFull", "ambler/api.ErrForm", "ambler/api.ErrNone", "ambler/api.ErrState", "ambler/api.ErrBadIter", "ambler/api.ErrTooMany", "ambler/api.ErrHash", "ambler/api.ErrLong", "ambler/api.ErrBroken", "ambler/api.ErrLimit", "ambler/api.ErrEmpty", "ambler/api.ErrNumber", "ambler/api.ErrName", "ambler/api.ErrDup"], apart := false, laid := [("ambler/api.ErrRange", laid_ambler_api_ErrRange), ("ambler/api.ErrFull", laid_ambler_api_ErrFull), ("ambler/api.ErrForm", laid_ambler_api_ErrForm), ("ambler/api.ErrNone", laid_ambler_api_ErrNone), ("ambler/api.ErrState", laid_ambler_api_ErrState), ("ambler/api.ErrBadIter", laid_ambler_api_ErrBadIter), ("ambler/api.ErrTooMany", laid_ambler_api_ErrTooMany), ("ambler/api.ErrHash", laid_ambler_api_ErrHash), ("ambler/api.ErrLong", laid_ambler_api_ErrLong), ("ambler/api.ErrBroken", laid_ambler_api_ErrBroken), ("ambler/api.ErrLimit", laid_ambler_api_ErrLimit), ("ambler/api.ErrEmpty", laid_ambler_api_ErrEmpty), ("ambler/api.ErrNumber", laid_ambler_api_ErrNumber), ("ambler/api.ErrKind", laid_ambler_api_ErrKind), ("ambler/api.ErrName", laid_ambler_api_ErrName), ("ambler/api.ErrDup", laid_ambler_api_ErrDup), ("ambler/choose.words", laid_ambler_choose_words)] }
def ChooseTellsSaid : Prop := chooseTellsRow.holds Tryd.pinned (OpenSpec.ofChange chooseTellsSpec)

/-- ITS FALSE NEIGHBOUR: 'it returns false'. Refute it at one input. -/
def chooseTellsWrong : ChangeSpec := { name := "chooseTells", fn := fun _ => fun
  | [d1, d2] => { results := [.lit (.bool false)], args := [d1, d2] }
  | _ => none }
def ChooseTellsWrongFalsely : Prop := chooseTellsRow.holds Tryd.pinned (OpenSpec.ofChange chooseTellsWrong)

/-- 'amblerlaw29.MixTells': WHATEVER THE INPUT: true; the input reads as it did. -/
def mixTellsSpec : ChangeSpec := { name := "mixTells", fn := fun _ => fun
  | [d1, d2, d3] => { results := [.lit (.bool true)], args := [d1, d2, d3] }
  | _ => none }
def mixTellsRow : OpenClaim := { program := "ytdlfkjpnbgobhaadoor", sum := "8093486dff9363dffcf83c6676f0054a9026f1917220cb64c1a7b9999c692f05", func := "ambler/amblerlaw29.MixTells", spec := "mixTells", inPlace := ["internal/reflectlite.TypeOf"], unfollowed := true, recurses := true, named := ["ambler/api.ErrKind", "ambler/mix.words", "ambler/api.ErrName", "ambler/api.ErrRange", "ambler/api.ErrFull", "ambler/api.ErrForm", "ambler/api.ErrNone", "ambler/api.ErrState", "ambler/api.ErrBadIter", "ambler/api.ErrTooMany", "ambler/api.ErrHash", "ambler/api.ErrLong", "ambler/api.ErrBroken", "ambler/api.ErrLimit", "ambler/api.ErrEmpty", "ambler/api.ErrNumber", "ambler/api.ErrDup"], apart := false, laid := [("ambler/api.ErrRange", laid_ambler_api_ErrRange), ("ambler/api.ErrFull", laid_ambler_api_ErrFull), ("ambler/api.ErrForm", laid_ambler_api_ErrForm), ("ambler/api.ErrNone", laid_ambler_api_ErrNone), ("ambler/api.ErrState", laid_ambler_api_ErrState), ("ambler/api.ErrBadIter", laid_ambler_api_ErrBadIter), ("ambler/api.ErrTooMany", laid_ambler_api_ErrTooMany), ("ambler/api.ErrHash", laid_ambler_api_ErrHash), ("ambler/api.ErrLong", laid_ambler_api_ErrLong), ("ambler/api.ErrBroken", laid_ambler_api_ErrBroken), ("ambler/api.ErrLimit", laid_ambler_api_ErrLimit), ("ambler/api.ErrEmpty", laid_ambler_api_ErrEmpty), ("ambler/api.ErrNumber", laid_ambler_api_ErrNumber), ("ambler/api.ErrKind", laid_ambler_api_ErrKind), ("ambler/api.ErrName", laid_ambler_api_ErrName), ("ambler/api.ErrDup", laid_ambler_api_ErrDup), ("ambler/mix.words", laid_ambler_mix_words)] }
def MixTellsSaid : Prop := mixTellsRow.holds Tryd.pinned (OpenSpec.ofChange mixTellsSpec)

/-- ITS FALSE NEIGHBOUR: 'it returns false'. Refute it at one input. -/
def mixTellsWrong : ChangeSpec := { name := "mixTells", fn := fun _ => fun
  | [d1, d2, d3] => { results := [.lit (.bool false)], args := [d1, d2, d3] }
  | _ => none }
def MixTellsWrongFalsely : Prop := mixTellsRow.holds Tryd.pinned (OpenSpec.ofChange mixTellsWrong)

/-- 'amblerlaw29.MixBack': WHATEVER THE INPUT: true; the input reads as it did. -/
def mixBackSpec : ChangeSpec := { name := "mixBack", fn := fun _ => fun
  | [d1, d2, d3] => { results := [.lit (.bool true)], args := [d1, d2, d3] }
  | _ => none }
def mixBackRow : OpenClaim := { program := "ytdlfkjpnbgobhaadoor", sum := "8093486dff9363dffcf83c6676f0054a9026f1917220cb64c1a7b9999c692f05", func := "ambler/amblerlaw29.MixBack", spec := "mixBack", inPlace := ["internal/reflectlite.TypeOf"], unfollowed := true, recurses := true, named := ["ambler/api.ErrKind", "ambler/api.ErrNumber", "ambler/api.ErrRange", "ambler/api.ErrFull", "ambler/api.ErrForm", "ambler/api.ErrNone", "ambler/api.ErrState", "ambler/api.ErrBadIter", "ambler/api.ErrTooMany", "ambler/api.ErrHash", "ambler/api.ErrLong", "ambler/api.ErrBroken", "ambler/api.ErrLimit", "ambler/api.ErrEmpty", "ambler/api.ErrName", "ambler/api.ErrDup"], apart := false, laid := [("ambler/api.ErrRange", laid_ambler_api_ErrRange), ("ambler/api.ErrFull", laid_ambler_api_ErrFull), ("ambler/api.ErrForm", laid_ambler_api_ErrForm), ("ambler/api.ErrNone", laid_ambler_api_ErrNone), ("ambler/api.ErrState", laid_ambler_api_ErrState), ("ambler/api.ErrBadIter", laid_ambler_api_ErrBadIter), ("ambler/api.ErrTooMany", laid_ambler_api_ErrTooMany), ("ambler/api.ErrHash", laid_ambler_api_ErrHash), ("ambler/api.ErrLong", laid_ambler_api_ErrLong), ("ambler/api.ErrBroken", laid_ambler_api_ErrBroken), ("ambler/api.ErrLimit", laid_ambler_api_ErrLimit), ("ambler/api.ErrEmpty", laid_ambler_api_ErrEmpty), ("ambler/api.ErrNumber", laid_ambler_api_ErrNumber), ("ambler/api.ErrKind", laid_ambler_api_ErrKind), ("ambler/api.ErrName", laid_ambler_api_ErrName), ("ambler/api.ErrDup", laid_ambler_api_ErrDup)] }
def MixBackSaid : Prop := mixBackRow.holds Tryd.pinned (OpenSpec.ofChange mixBackSpec)

/-- ITS FALSE NEIGHBOUR: 'it returns false'. Refute it at one input. -/
def mixBackWrong : ChangeSpec := { name := "mixBack", fn := fun _ => fun
  | [d1, d2, d3] => { results := [.lit (.bool false)], args := [d1, d2, d3] }
  | _ => none }
def MixBackWrongFalsely : Prop := mixBackRow.holds Tryd.pinned (OpenSpec.ofChange mixBackWrong)

/-- 'amblerlaw02.CtrlApart': WHATEVER THE INPUT: true; the input reads as it did. -/
def ctrlApartSpec : ChangeSpec := { name := "ctrlApart", fn := fun _ => fun
  | [d1, d2, d3] => { results := [.lit (.bool true)], args := [d1, d2, d3] }
  | _ => none }
def ctrlApartRow : OpenClaim := { program := "ytdlfkjpnbgobhaadoor", sum := "8093486dff9363dffcf83c6676f0054a9026f1917220cb64c1a7b9999c692f05", func := "ambler/amblerlaw02.CtrlApart", spec := "ctrlApart", named := ["ambler/api.ErrRange", "ambler/api.ErrForm"], apart := false, laid := [("ambler/api.ErrRange", laid_ambler_api_ErrRange), ("ambler/api.ErrForm", laid_ambler_api_ErrForm)] }
def CtrlApartSaid : Prop := ctrlApartRow.holds Tryd.pinned (OpenSpec.ofChange ctrlApartSpec)

/-- ITS FALSE NEIGHBOUR: 'it returns false'. Refute it at one input. -/
def ctrlApartWrong : ChangeSpec := { name := "ctrlApart", fn := fun _ => fun
  | [d1, d2, d3] => { results := [.lit (.bool false)], args := [d1, d2, d3] }
  | _ => none }
def CtrlApartWrongFalsely : Prop := ctrlApartRow.holds Tryd.pinned (OpenSpec.ofChange ctrlApartWrong)

/-- 'amblerlaw02.CtrlSets': WHATEVER THE INPUT: true; the input reads as it did. -/
def ctrlSetsSpec : ChangeSpec := { name := "ctrlSets", fn := fun _ => fun
  | [d1, d2, d3] => { results := [.lit (.bool true)], args := [d1, d2, d3] }
  | _ => none }
def ctrlSetsRow : OpenClaim := { program := "ytdlfkjpnbgobhaadoor", sum := "8093486dff9363dffcf83c6676f0054a9026f1917220cb64c1a7b9999c692f05", func := "ambler/amblerlaw02.CtrlSets", spec := "ctrlSets", inPlace := ["internal/reflectlite.TypeOf"], unfollowed := true, recurses := true, named := ["ambler/api.ErrRange", "ambler/api.ErrForm", "ambler/api.ErrFull", "ambler/api.ErrNone", "ambler/api.ErrState", "ambler/api.ErrBadIter", "ambler/api.ErrTooMany", "ambler/api.ErrHash", "ambler/api.ErrLong", "ambler/api.ErrBroken", "ambler/api.ErrLimit", "ambler/api.ErrEmpty", "ambler/api.ErrNumber", "ambler/api.ErrKind", "ambler/api.ErrName", "ambler/api.ErrDup"], apart := false, laid := [("ambler/api.ErrRange", laid_ambler_api_ErrRange), ("ambler/api.ErrFull", laid_ambler_api_ErrFull), ("ambler/api.ErrForm", laid_ambler_api_ErrForm), ("ambler/api.ErrNone", laid_ambler_api_ErrNone), ("ambler/api.ErrState", laid_ambler_api_ErrState), ("ambler/api.ErrBadIter", laid_ambler_api_ErrBadIter), ("ambler/api.ErrTooMany", laid_ambler_api_ErrTooMany), ("ambler/api.ErrHash", laid_ambler_api_ErrHash), ("ambler/api.ErrLong", laid_ambler_api_ErrLong), ("ambler/api.ErrBroken", laid_ambler_api_ErrBroken), ("ambler/api.ErrLimit", laid_ambler_api_ErrLimit), ("ambler/api.ErrEmpty", laid_ambler_api_ErrEmpty), ("ambler/api.ErrNumber", laid_ambler_api_ErrNumber), ("ambler/api.ErrKind", laid_ambler_api_ErrKind), ("ambler/api.ErrName", laid_ambler_api_ErrName), ("ambler/api.ErrDup", laid_ambler_api_ErrDup)] }
def CtrlSetsSaid : Prop := ctrlSetsRow.holds Tryd.pinned (OpenSpec.ofChange ctrlSetsSpec)

/-- ITS FALSE NEIGHBOUR: 'it returns false'. Refute it at one input. -/
def ctrlSetsWrong : ChangeSpec := { name := "ctrlSets", fn := fun _ => fun
  | [d1, d2, d3] => { results := [.lit (.bool false)], args := [d1, d2, d3] }
  | _ => none }
def CtrlSetsWrongFalsely : Prop := ctrlSetsRow.holds Tryd.pinned (OpenSpec.ofChange ctrlSetsWrong)

/-- 'amblerlaw02.CtrlPaths': WHATEVER THE INPUT: true; the input reads as it did. -/
def ctrlPathsSpec : ChangeSpec := { name := "ctrlPaths", fn := fun _ => fun
  | [d1, d2] => { results := [.lit (.bool true)], args := [d1, d2] }
  | _ => none }
def ctrlPathsRow : OpenClaim := { program := "ytdlfkjpnbgobhaadoor", sum := "8093486dff9363dffcf83c6676f0054a9026f1917220cb64c1a7b9999c692f05", func := "ambler/amblerlaw02.CtrlPaths", spec := "ctrlPaths", inPlace := ["internal/reflectlite.TypeOf"], unfollowed := true, recurses := true, named := ["ambler/api.ErrRange", "ambler/api.ErrForm", "ambler/api.ErrFull", "ambler/api.ErrNone", "ambler/api.ErrState", "ambler/api.ErrBadIter", "ambler/api.ErrTooMany", "ambler/api.ErrHash", "ambler/api.ErrLong", "ambler/api.ErrBroken", "ambler/api.ErrLimit", "ambler/api.ErrEmpty", "ambler/api.ErrNumber", "ambler/api.ErrKind", "ambler/api.ErrName", "ambler/api.ErrDup"], apart := false, laid := [("ambler/api.ErrRange", laid_ambler_api_ErrRange), ("ambler/api.ErrFull", laid_ambler_api_ErrFull), ("ambler/api.ErrForm", laid_ambler_api_ErrForm), ("ambler/api.ErrNone", laid_ambler_api_ErrNone), ("ambler/api.ErrState", laid_ambler_api_ErrState), ("ambler/api.ErrBadIter", laid_ambler_api_ErrBadIter), ("ambler/api.ErrTooMany", laid_ambler_api_ErrTooMany), ("ambler/api.ErrHash", laid_ambler_api_ErrHash), ("ambler/api.ErrLong", laid_ambler_api_ErrLong), ("ambler/api.ErrBroken", laid_ambler_api_ErrBroken), ("ambler/api.ErrLimit", laid_ambler_api_ErrLimit), ("ambler/api.ErrEmpty", laid_ambler_api_ErrEmpty), ("ambler/api.ErrNumber", laid_ambler_api_ErrNumber), ("ambler/api.ErrKind", laid_ambler_api_ErrKind), ("ambler/api.ErrName", laid_ambler_api_ErrName), ("ambler/api.ErrDup", laid_ambler_api_ErrDup)] }
def CtrlPathsSaid : Prop := ctrlPathsRow.holds Tryd.pinned (OpenSpec.ofChange ctrlPathsSpec)

/-- ITS FALSE NEIGHBOUR: 'it returns false'. Refute it at one input. -/
def ctrlPathsWrong : ChangeSpec := { name := "ctrlPaths", fn := fun _ => fun
  | [d1, d2] => { results := [.lit (.bool false)], args := [d1, d2] }
  | _ => none }
def CtrlPathsWrongFalsely : Prop := ctrlPathsRow.holds Tryd.pinned (OpenSpec.ofChange ctrlPathsWrong)

/-- 'amblerlaw29.MixSpreads': WHATEVER THE INPUT: true; the input reads as it did. -/
def mixSpreadsSpec : ChangeSpec := { name := "mixSpreads", fn := fun _ => fun
  | [d1, d2, d3] => { results := [.lit (.bool true)], args := [d1, d2, d3] }
  | _ => none }
def mixSpreadsRow : OpenClaim := { program := "ytdlfkjpnbgobhaadoor", sum := "8093486dff9363dffcf83c6676f0054a9026f1917220cb64c1a7b9999c692f05", func := "ambler/amblerlaw29.MixSpreads", spec := "mixSpreads", inPlace := ["internal/reflectlite.TypeOf"], unfollowed := true, recurses := true, named := ["ambler/api.ErrKind", "ambler/mix.words", "ambler/api.ErrRange", "ambler/api.ErrFull", "ambler/api.ErrForm", "ambler/api.ErrNone", "ambler/api.ErrState", "ambler/api.ErrBadIter", "ambler/api.ErrTooMany", "ambler/api.ErrHash", "ambler/api.ErrLong", "ambler/api.ErrBroken", "ambler/api.ErrLimit", "ambler/api.ErrEmpty", "ambler/api.ErrNumber", "ambler/api.ErrName", "ambler/api.ErrDup"], apart := false, laid := [("ambler/api.ErrRange", laid_ambler_api_ErrRange), ("ambler/api.ErrFull", laid_ambler_api_ErrFull), ("ambler/api.ErrForm", laid_ambler_api_ErrForm), ("ambler/api.ErrNone", laid_ambler_api_ErrNone), ("ambler/api.ErrState", laid_ambler_api_ErrState), ("ambler/api.ErrBadIter", laid_ambler_api_ErrBadIter), ("ambler/api.ErrTooMany", laid_ambler_api_ErrTooMany), ("ambler/api.ErrHash", laid_ambler_api_ErrHash), ("ambler/api.ErrLong", laid_ambler_api_ErrLong), ("ambler/api.ErrBroken", laid_ambler_api_ErrBroken), ("ambler/api.ErrLimit", laid_ambler_api_ErrLimit), ("ambler/api.ErrEmpty", laid_ambler_api_ErrEmpty), ("ambler/api.ErrNumber", laid_ambler_api_ErrNumber), ("ambler/api.ErrKind", laid_ambler_api_ErrKind), ("ambler/api.ErrName", laid_ambler_api_ErrName), ("ambler/api.ErrDup", laid_ambler_api_ErrDup), ("ambler/mix.words", laid_ambler_mix_words)] }
def MixSpreadsSaid : Prop := mixSpreadsRow.holds Tryd.pinned (OpenSpec.ofChange mixSpreadsSpec)

/-- ITS FALSE NEIGHBOUR: 'it returns false'. Refute it at one input. -/
def mixSpreadsWrong : ChangeSpec := { name := "mixSpreads", fn := fun _ => fun
  | [d1, d2, d3] => { results := [.lit (.bool false)], args := [d1, d2, d3] }
  | _ => none }
def MixSpreadsWrongFalsely : Prop := mixSpreadsRow.holds Tryd.pinned (OpenSpec.ofChange mixSpreadsWrong)

/-- 'amblerlaw16.DirActs': WHATEVER THE INPUT: true; the input reads as it did. -/
def dirActsSpec : ChangeSpec := { name := "dirActs", fn := fun _ => fun
  | [d1, d2, d3] => { results := [.lit (.bool true)], args := [d1, d2, d3] }
  | _ => none }
def dirActsRow : OpenClaim := { program := "ytdlfkjpnbgobhaadoor", sum := "8093486dff9363dffcf83c6676f0054a9026f1917220cb64c1a7b9999c692f05", func := "ambler/amblerlaw16.DirActs", spec := "dirActs", inPlace := ["internal/reflectlite.TypeOf"], unfollowed := true, recurses := true, named := ["ambler/api.ErrRange", "ambler/api.ErrFull", "ambler/api.ErrForm", "ambler/api.ErrNone", "ambler/api.ErrState", "ambler/api.ErrBadIter", "ambler/api.ErrTooMany", "ambler/api.ErrHash", "ambler/api.ErrLong", "ambler/api.ErrBroken", "ambler/api.ErrLimit", "ambler/api.ErrEmpty", "ambler/api.ErrNumber", "ambler/api.ErrKind", "ambler/api.ErrName", "ambler/api.ErrDup"], apart := false, laid := [("ambler/api.ErrRange", laid_ambler_api_ErrRange), ("ambler/api.ErrFull", laid_ambler_api_ErrFull), ("ambler/api.ErrForm", laid_ambler_api_ErrForm), ("ambler/api.ErrNone", laid_ambler_api_ErrNone), ("ambler/api.ErrState", laid_ambler_api_ErrState), ("ambler/api.ErrBadIter", laid_ambler_api_ErrBadIter), ("ambler/api.ErrTooMany", laid_ambler_api_ErrTooMany), ("ambler/api.ErrHash", laid_ambler_api_ErrHash), ("ambler/api.ErrLong", laid_ambler_api_ErrLong), ("ambler/api.ErrBroken", laid_ambler_api_ErrBroken), ("ambler/api.ErrLimit", laid_ambler_api_ErrLimit), ("ambler/api.ErrEmpty", laid_ambler_api_ErrEmpty), ("ambler/api.ErrNumber", laid_ambler_api_ErrNumber), ("ambler/api.ErrKind", laid_ambler_api_ErrKind), ("ambler/api.ErrName", laid_ambler_api_ErrName), ("ambler/api.ErrDup", laid_ambler_api_ErrDup)] }
def DirActsSaid : Prop := dirActsRow.holds Tryd.pinned (OpenSpec.ofChange dirActsSpec)

/-- ITS FALSE NEIGHBOUR: 'it returns false'. Refute it at one input. -/
def dirActsWrong : ChangeSpec := { name := "dirActs", fn := fun _ => fun
  | [d1, d2, d3] => { results := [.lit (.bool false)], args := [d1, d2, d3] }
  | _ => none }
def DirActsWrongFalsely : Prop := dirActsRow.holds Tryd.pinned (OpenSpec.ofChange dirActsWrong)

/-- 'amblerlaw17.CopyistKeeps': WHATEVER THE INPUT: true; the input reads as it did. -/
def copyistKeepsSpec : ChangeSpec := { name := "copyistKeeps", fn := fun _ => fun
  | [d1, d2, d3] => { results := [.lit (.bool true)], args := [d1, d2, d3] }
  | _ => none }
def copyistKeepsRow : OpenClaim := { program := "ytdlfkjpnbgobhaadoor", sum := "8093486dff9363dffcf83c6676f0054a9026f1917220cb64c1a7b9999c692f05", func := "ambler/amblerlaw17.CopyistKeeps", spec := "copyistKeeps", named := ["ambler/api.ErrRange", "ambler/api.ErrNone", "ambler/api.ErrLimit", "ambler/api.ErrBroken", "ambler/api.ErrState"], apart := false, laid := [("ambler/api.ErrRange", laid_ambler_api_ErrRange), ("ambler/api.ErrNone", laid_ambler_api_ErrNone), ("ambler/api.ErrState", laid_ambler_api_ErrState), ("ambler/api.ErrBroken", laid_ambler_api_ErrBroken), ("ambler/api.ErrLimit", laid_ambler_api_ErrLimit)] }
def CopyistKeepsSaid : Prop := copyistKeepsRow.holds Tryd.pinned (OpenSpec.ofChange copyistKeepsSpec)

/-- ITS FALSE NEIGHBOUR: 'it returns false'. Refute it at one input. -/
def copyistKeepsWrong : ChangeSpec := { name := "copyistKeeps", fn := fun _ => fun
  | [d1, d2, d3] => { results := [.lit (.bool false)], args := [d1, d2, d3] }
  | _ => none }
def CopyistKeepsWrongFalsely : Prop := copyistKeepsRow.holds Tryd.pinned (OpenSpec.ofChange copyistKeepsWrong)

/-- 'amblerlaw17.CopyistActs': WHATEVER THE INPUT: true; the input reads as it did. -/
def copyistActsSpec : ChangeSpec := { name := "copyistActs", fn := fun _ => fun
  | [d1, d2, d3] => { results := [.lit (.bool true)], args := [d1, d2, d3] }
  | _ => none }
def copyistActsRow : OpenClaim := { program := "ytdlfkjpnbgobhaadoor", sum := "8093486dff9363dffcf83c6676f0054a9026f1917220cb64c1a7b9999c692f05", func := "ambler/amblerlaw17.CopyistActs", spec := "copyistActs", inPlace := ["internal/reflectlite.TypeOf"], unfollowed := true, recurses := true, named := ["ambler/api.ErrRange", "ambler/api.ErrNone", "ambler/api.ErrLimit", "ambler/api.ErrBroken", "ambler/api.ErrState", "ambler/api.ErrFull", "ambler/api.ErrForm", "ambler/api.ErrBadIter", "ambler/api.ErrTooMany", "ambler/api.ErrHash", "ambler/api.ErrLong", "ambler/api.ErrEmpty", "ambler/api.ErrNumber", "ambler/api.ErrKind", "ambler/api.ErrName", "ambler/api.ErrDup"], apart := false, laid := [("ambler/api.ErrRange", laid_ambler_api_ErrRange), ("ambler/api.ErrFull", laid_ambler_api_ErrFull), ("ambler/api.ErrForm", laid_ambler_api_ErrForm), ("ambler/api.ErrNone", laid_ambler_api_ErrNone), ("ambler/api.ErrState", laid_ambler_api_ErrState), ("ambler/api.ErrBadIter", laid_ambler_api_ErrBadIter), ("ambler/api.ErrTooMany", laid_ambler_api_ErrTooMany), ("ambler/api.ErrHash", laid_ambler_api_ErrHash), ("ambler/api.ErrLong", laid_ambler_api_ErrLong), ("ambler/api.ErrBroken", laid_ambler_api_ErrBroken), ("ambler/api.ErrLimit", laid_ambler_api_ErrLimit), ("ambler/api.ErrEmpty", laid_ambler_api_ErrEmpty), ("ambler/api.ErrNumber", laid_ambler_api_ErrNumber), ("ambler/api.ErrKind", laid_ambler_api_ErrKind), ("ambler/api.ErrName", laid_ambler_api_ErrName), ("ambler/api.ErrDup", laid_ambler_api_ErrDup)] }
def CopyistActsSaid : Prop := copyistActsRow.holds Tryd.pinned (OpenSpec.ofChange copyistActsSpec)

/-- ITS FALSE NEIGHBOUR: 'it returns false'. Refute it at one input. -/
def copyistActsWrong : ChangeSpec := { name := "copyistActs", fn := fun _ => fun
  | [d1, d2, d3] => { results := [.lit (.bool false)], args := [d1, d2, d3] }
  | _ => none }
def CopyistActsWrongFalsely : Prop := copyistActsRow.holds Tryd.pinned (OpenSpec.ofChange copyistActsWrong)

/- THE SECOND FORM. 'bulk': how many values and letters a reading holds, each counted each time it is reached (what is shared counts as often as it is met; a slice's spare places count too). A statement '..UptoSaid' is the law's where the arguments, and the package variables that the reading takes, are together of bulk at most 1048576: NARROWER than '..Said'. Prove '..Said' where nothing that the law and all that it calls make is longer than what came in: it says more and counts as full. Else prove '..UptoSaid'. A law counts once. -/
mutual
def uptoBulk {H : Type} : DataW H → Nat
  | .lit (.string bytes) => bytes.length + 1
  | .lit _ => 1
  | .nil => 1
  | .ptr d => uptoBulk d + 1
  | .slice elems spare => uptoBulkAll elems + uptoBulkAll spare + 1
  | .agg parts => uptoBulkAll parts + 1
  | .iface _ d => uptoBulk d + 1
  | .map entries => uptoBulkEntries entries + 1
  | .held _ => 1
def uptoBulkAll {H : Type} : List (DataW H) → Nat
  | [] => 0
  | d :: r => uptoBulk d + uptoBulkAll r
def uptoBulkEntries {H : Type} : List (Lit × DataW H) → Nat
  | [] => 0
  | x :: r => uptoBulkEntry x + uptoBulkEntries r
def uptoBulkEntry {H : Type} : Lit × DataW H → Nat
  | (.string bytes, d) => bytes.length + uptoBulk d + 1
  | (_, d) => uptoBulk d + 1
 end
def uptoSmall : (H : Type) → List (DataW H) → Bool := fun _ ds => decide (uptoBulkAll ds ≤ 1048576)
def OpenSpec.upto (s : _root_.Go.ChangeSpec) : _root_.Go.OpenSpec := { _root_.Go.OpenSpec.ofChange s with cond := some uptoSmall }

/-- 'amblerlaw02.CtrlTells', WHERE WHAT IT READS IS OF BULK AT MOST 1048576: true; the input reads as it did. -/
def ctrlTellsUptoRow : OpenClaim := { program := "ytdlfkjpnbgobhaadoor", sum := "8093486dff9363dffcf83c6676f0054a9026f1917220cb64c1a7b9999c692f05", func := "ambler/amblerlaw02.CtrlTells", spec := "ctrlTells", named := ["ambler/api.ErrRange", "ambler/api.ErrForm"], apart := false, laid := [("ambler/api.ErrRange", laid_ambler_api_ErrRange), ("ambler/api.ErrForm", laid_ambler_api_ErrForm)], narrowed := true }
def CtrlTellsUptoSaid : Prop := ctrlTellsUptoRow.holds Tryd.pinned (OpenSpec.upto ctrlTellsSpec)

/-- 'amblerlaw29.MixSums', WHERE WHAT IT READS IS OF BULK AT MOST 1048576: true; the input reads as it did. -/
def mixSumsUptoRow : OpenClaim := { program := "ytdlfkjpnbgobhaadoor", sum := "8093486dff9363dffcf83c6676f0054a9026f1917220cb64c1a7b9999c692f05", func := "ambler/amblerlaw29.MixSums", spec := "mixSums", named := ["ambler/api.ErrKind", "ambler/mix.words", "ambler/api.ErrRange"], apart := false, laid := [("ambler/api.ErrRange", laid_ambler_api_ErrRange), ("ambler/api.ErrKind", laid_ambler_api_ErrKind), ("ambler/mix.words", laid_ambler_mix_words)], narrowed := true }
def MixSumsUptoSaid : Prop := mixSumsUptoRow.holds Tryd.pinned (OpenSpec.upto mixSumsSpec)

/-- 'amblerlaw14.ChooseTells', WHERE WHAT IT READS IS OF BULK AT MOST 1048576: true; the input reads as it did. -/
def chooseTellsUptoRow : OpenClaim := { program := "ytdlfkjpnbgobhaadoor", sum := "8093486dff9363dffcf83c6676f0054a9026f1917220cb64c1a7b9999c692f05", func := "ambler/amblerlaw14.ChooseTells", spec := "chooseTells", inPlace := ["internal/reflectlite.TypeOf"], unfollowed := true, recurses := true, named := ["ambler/choose.words", "ambler/api.ErrKind", "ambler/api.ErrRange", "ambler/api.ErrFull", "ambler/api.ErrForm", "ambler/api.ErrNone", "ambler/api.ErrState", "ambler/api.ErrBadIter", "ambler/api.ErrTooMany", "ambler/api.ErrHash", "ambler/api.ErrLong", "ambler/api.ErrBroken", "ambler/api.ErrLimit", "ambler/api.ErrEmpty", "ambler/api.ErrNumber", "ambler/api.ErrName", "ambler/api.ErrDup"], apart := false, laid := [("ambler/api.ErrRange", laid_ambler_api_ErrRange), ("ambler/api.ErrFull", laid_ambler_api_ErrFull), ("ambler/api.ErrForm", laid_ambler_api_ErrForm), ("ambler/api.ErrNone", laid_ambler_api_ErrNone), ("ambler/api.ErrState", laid_ambler_api_ErrState), ("ambler/api.ErrBadIter", laid_ambler_api_ErrBadIter), ("ambler/api.ErrTooMany", laid_ambler_api_ErrTooMany), ("ambler/api.ErrHash", laid_ambler_api_ErrHash), ("ambler/api.ErrLong", laid_ambler_api_ErrLong), ("ambler/api.ErrBroken", laid_ambler_api_ErrBroken), ("ambler/api.ErrLimit", laid_ambler_api_ErrLimit), ("ambler/api.ErrEmpty", laid_ambler_api_ErrEmpty), ("ambler/api.ErrNumber", laid_ambler_api_ErrNumber), ("ambler/api.ErrKind", laid_ambler_api_ErrKind), ("ambler/api.ErrName", laid_ambler_api_ErrName), ("ambler/api.ErrDup", laid_ambler_api_ErrDup), ("ambler/choose.words", laid_ambler_choose_words)], narrowed := true }
def ChooseTellsUptoSaid : Prop := chooseTellsUptoRow.holds Tryd.pinned (OpenSpec.upto chooseTellsSpec)

/-- 'amblerlaw29.MixTells', WHERE WHAT IT READS IS OF BULK AT MOST 1048576: true; the input reads as it did. -/
def mixTellsUptoRow : OpenClaim := { program := "ytdlfkjpnbgobhaadoor", sum := "8093486dff9363dffcf83c6676f0054a9026f1917220cb64c1a7b9999c692f05", func := "ambler/amblerlaw29.MixTells", spec := "mixTells", inPlace := ["internal/reflectlite.TypeOf"], unfollowed := true, recurses := true, named := ["ambler/api.ErrKind", "ambler/mix.words", "ambler/api.ErrName", "ambler/api.ErrRange", "ambler/api.ErrFull", "ambler/api.ErrForm", "ambler/api.ErrNone", "ambler/api.ErrState", "ambler/api.ErrBadIter", "ambler/api.ErrTooMany", "ambler/api.ErrHash", "ambler/api.ErrLong", "ambler/api.ErrBroken", "ambler/api.ErrLimit", "ambler/api.ErrEmpty", "ambler/api.ErrNumber", "ambler/api.ErrDup"], apart := false, laid := [("ambler/api.ErrRange", laid_ambler_api_ErrRange), ("ambler/api.ErrFull", laid_ambler_api_ErrFull), ("ambler/api.ErrForm", laid_ambler_api_ErrForm), ("ambler/api.ErrNone", laid_ambler_api_ErrNone), ("ambler/api.ErrState", laid_ambler_api_ErrState), ("ambler/api.ErrBadIter", laid_ambler_api_ErrBadIter), ("ambler/api.ErrTooMany", laid_ambler_api_ErrTooMany), ("ambler/api.ErrHash", laid_ambler_api_ErrHash), ("ambler/api.ErrLong", laid_ambler_api_ErrLong), ("ambler/api.ErrBroken", laid_ambler_api_ErrBroken), ("ambler/api.ErrLimit", laid_ambler_api_ErrLimit), ("ambler/api.ErrEmpty", laid_ambler_api_ErrEmpty), ("ambler/api.ErrNumber", laid_ambler_api_ErrNumber), ("ambler/api.ErrKind", laid_ambler_api_ErrKind), ("ambler/api.ErrName", laid_ambler_api_ErrName), ("ambler/api.ErrDup", laid_ambler_api_ErrDup), ("ambler/mix.words", laid_ambler_mix_words)], narrowed := true }
def MixTellsUptoSaid : Prop := mixTellsUptoRow.holds Tryd.pinned (OpenSpec.upto mixTellsSpec)

/-- 'amblerlaw29.MixBack', WHERE WHAT IT READS IS OF BULK AT MOST 1048576: true; the input reads as it did. -/
def mixBackUptoRow : OpenClaim := { program := "ytdlfkjpnbgobhaadoor", sum := "8093486dff9363dffcf83c6676f0054a9026f1917220cb64c1a7b9999c692f05", func := "ambler/amblerlaw29.MixBack", spec := "mixBack", inPlace := ["internal/reflectlite.TypeOf"], unfollowed := true, recurses := true, named := ["ambler/api.ErrKind", "ambler/api.ErrNumber", "ambler/api.ErrRange", "ambler/api.ErrFull", "ambler/api.ErrForm", "ambler/api.ErrNone", "ambler/api.ErrState", "ambler/api.ErrBadIter", "ambler/api.ErrTooMany", "ambler/api.ErrHash", "ambler/api.ErrLong", "ambler/api.ErrBroken", "ambler/api.ErrLimit", "ambler/api.ErrEmpty", "ambler/api.ErrName", "ambler/api.ErrDup"], apart := false, laid := [("ambler/api.ErrRange", laid_ambler_api_ErrRange), ("ambler/api.ErrFull", laid_ambler_api_ErrFull), ("ambler/api.ErrForm", laid_ambler_api_ErrForm), ("ambler/api.ErrNone", laid_ambler_api_ErrNone), ("ambler/api.ErrState", laid_ambler_api_ErrState), ("ambler/api.ErrBadIter", laid_ambler_api_ErrBadIter), ("ambler/api.ErrTooMany", laid_ambler_api_ErrTooMany), ("ambler/api.ErrHash", laid_ambler_api_ErrHash), ("ambler/api.ErrLong", laid_ambler_api_ErrLong), ("ambler/api.ErrBroken", laid_ambler_api_ErrBroken), ("ambler/api.ErrLimit", laid_ambler_api_ErrLimit), ("ambler/api.ErrEmpty", laid_ambler_api_ErrEmpty), ("ambler/api.ErrNumber", laid_ambler_api_ErrNumber), ("ambler/api.ErrKind", laid_ambler_api_ErrKind), ("ambler/api.ErrName", laid_ambler_api_ErrName), ("ambler/api.ErrDup", laid_ambler_api_ErrDup)], narrowed := true }
def MixBackUptoSaid : Prop := mixBackUptoRow.holds Tryd.pinned (OpenSpec.upto mixBackSpec)

/-- 'amblerlaw02.CtrlApart', WHERE WHAT IT READS IS OF BULK AT MOST 1048576: true; the input reads as it did. -/
def ctrlApartUptoRow : OpenClaim := { program := "ytdlfkjpnbgobhaadoor", sum := "8093486dff9363dffcf83c6676f0054a9026f1917220cb64c1a7b9999c692f05", func := "ambler/amblerlaw02.CtrlApart", spec := "ctrlApart", named := ["ambler/api.ErrRange", "ambler/api.ErrForm"], apart := false, laid := [("ambler/api.ErrRange", laid_ambler_api_ErrRange), ("ambler/api.ErrForm", laid_ambler_api_ErrForm)], narrowed := true }
def CtrlApartUptoSaid : Prop := ctrlApartUptoRow.holds Tryd.pinned (OpenSpec.upto ctrlApartSpec)

/-- 'amblerlaw02.CtrlSets', WHERE WHAT IT READS IS OF BULK AT MOST 1048576: true; the input reads as it did. -/
def ctrlSetsUptoRow : OpenClaim := { program := "ytdlfkjpnbgobhaadoor", sum := "8093486dff9363dffcf83c6676f0054a9026f1917220cb64c1a7b9999c692f05", func := "ambler/amblerlaw02.CtrlSets", spec := "ctrlSets", inPlace := ["internal/reflectlite.TypeOf"], unfollowed := true, recurses := true, named := ["ambler/api.ErrRange", "ambler/api.ErrForm", "ambler/api.ErrFull", "ambler/api.ErrNone", "ambler/api.ErrState", "ambler/api.ErrBadIter", "ambler/api.ErrTooMany", "ambler/api.ErrHash", "ambler/api.ErrLong", "ambler/api.ErrBroken", "ambler/api.ErrLimit", "ambler/api.ErrEmpty", "ambler/api.ErrNumber", "ambler/api.ErrKind", "ambler/api.ErrName", "ambler/api.ErrDup"], apart := false, laid := [("ambler/api.ErrRange", laid_ambler_api_ErrRange), ("ambler/api.ErrFull", laid_ambler_api_ErrFull), ("ambler/api.ErrForm", laid_ambler_api_ErrForm), ("ambler/api.ErrNone", laid_ambler_api_ErrNone), ("ambler/api.ErrState", laid_ambler_api_ErrState), ("ambler/api.ErrBadIter", laid_ambler_api_ErrBadIter), ("ambler/api.ErrTooMany", laid_ambler_api_ErrTooMany), ("ambler/api.ErrHash", laid_ambler_api_ErrHash), ("ambler/api.ErrLong", laid_ambler_api_ErrLong), ("ambler/api.ErrBroken", laid_ambler_api_ErrBroken), ("ambler/api.ErrLimit", laid_ambler_api_ErrLimit), ("ambler/api.ErrEmpty", laid_ambler_api_ErrEmpty), ("ambler/api.ErrNumber", laid_ambler_api_ErrNumber), ("ambler/api.ErrKind", laid_ambler_api_ErrKind), ("ambler/api.ErrName", laid_ambler_api_ErrName), ("ambler/api.ErrDup", laid_ambler_api_ErrDup)], narrowed := true }
def CtrlSetsUptoSaid : Prop := ctrlSetsUptoRow.holds Tryd.pinned (OpenSpec.upto ctrlSetsSpec)

/-- 'amblerlaw02.CtrlPaths', WHERE WHAT IT READS IS OF BULK AT MOST 1048576: true; the input reads as it did. -/
def ctrlPathsUptoRow : OpenClaim := { program := "ytdlfkjpnbgobhaadoor", sum := "8093486dff9363dffcf83c6676f0054a9026f1917220cb64c1a7b9999c692f05", func := "ambler/amblerlaw02.CtrlPaths", spec := "ctrlPaths", inPlace := ["internal/reflectlite.TypeOf"], unfollowed := true, recurses := true, named := ["ambler/api.ErrRange", "ambler/api.ErrForm", "ambler/api.ErrFull", "ambler/api.ErrNone", "ambler/api.ErrState", "ambler/api.ErrBadIter", "ambler/api.ErrTooMany", "ambler/api.ErrHash", "ambler/api.ErrLong", "ambler/api.ErrBroken", "ambler/api.ErrLimit", "ambler/api.ErrEmpty", "ambler/api.ErrNumber", "ambler/api.ErrKind", "ambler/api.ErrName", "ambler/api.ErrDup"], apart := false, laid := [("ambler/api.ErrRange", laid_ambler_api_ErrRange), ("ambler/api.ErrFull", laid_ambler_api_ErrFull), ("ambler/api.ErrForm", laid_ambler_api_ErrForm), ("ambler/api.ErrNone", laid_ambler_api_ErrNone), ("ambler/api.ErrState", laid_ambler_api_ErrState), ("ambler/api.ErrBadIter", laid_ambler_api_ErrBadIter), ("ambler/api.ErrTooMany", laid_ambler_api_ErrTooMany), ("ambler/api.ErrHash", laid_ambler_api_ErrHash), ("ambler/api.ErrLong", laid_ambler_api_ErrLong), ("ambler/api.ErrBroken", laid_ambler_api_ErrBroken), ("ambler/api.ErrLimit", laid_ambler_api_ErrLimit), ("ambler/api.ErrEmpty", laid_ambler_api_ErrEmpty), ("ambler/api.ErrNumber", laid_ambler_api_ErrNumber), ("ambler/api.ErrKind", laid_ambler_api_ErrKind), ("ambler/api.ErrName", laid_ambler_api_ErrName), ("ambler/api.ErrDup", laid_ambler_api_ErrDup)], narrowed := true }
def CtrlPathsUptoSaid : Prop := ctrlPathsUptoRow.holds Tryd.pinned (OpenSpec.upto ctrlPathsSpec)

/-- 'amblerlaw29.MixSpreads', WHERE WHAT IT READS IS OF BULK AT MOST 1048576: true; the input reads as it did. -/
def mixSpreadsUptoRow : OpenClaim := { program := "ytdlfkjpnbgobhaadoor", sum := "8093486dff9363dffcf83c6676f0054a9026f1917220cb64c1a7b9999c692f05", func := "ambler/amblerlaw29.MixSpreads", spec := "mixSpreads", inPlace := ["internal/reflectlite.TypeOf"], unfollowed := true, recurses := true, named := ["ambler/api.ErrKind", "ambler/mix.words", "ambler/api.ErrRange", "ambler/api.ErrFull", "ambler/api.ErrForm", "ambler/api.ErrNone", "ambler/api.ErrState", "ambler/api.ErrBadIter", "ambler/api.ErrTooMany", "ambler/api.ErrHash", "ambler/api.ErrLong", "ambler/api.ErrBroken", "ambler/api.ErrLimit", "ambler/api.ErrEmpty", "ambler/api.ErrNumber", "ambler/api.ErrName", "ambler/api.ErrDup"], apart := false, laid := [("ambler/api.ErrRange", laid_ambler_api_ErrRange), ("ambler/api.ErrFull", laid_ambler_api_ErrFull), ("ambler/api.ErrForm", laid_ambler_api_ErrForm), ("ambler/api.ErrNone", laid_ambler_api_ErrNone), ("ambler/api.ErrState", laid_ambler_api_ErrState), ("ambler/api.ErrBadIter", laid_ambler_api_ErrBadIter), ("ambler/api.ErrTooMany", laid_ambler_api_ErrTooMany), ("ambler/api.ErrHash", laid_ambler_api_ErrHash), ("ambler/api.ErrLong", laid_ambler_api_ErrLong), ("ambler/api.ErrBroken", laid_ambler_api_ErrBroken), ("ambler/api.ErrLimit", laid_ambler_api_ErrLimit), ("ambler/api.ErrEmpty", laid_ambler_api_ErrEmpty), ("ambler/api.ErrNumber", laid_ambler_api_ErrNumber), ("ambler/api.ErrKind", laid_ambler_api_ErrKind), ("ambler/api.ErrName", laid_ambler_api_ErrName), ("ambler/api.ErrDup", laid_ambler_api_ErrDup), ("ambler/mix.words", laid_ambler_mix_words)], narrowed := true }
def MixSpreadsUptoSaid : Prop := mixSpreadsUptoRow.holds Tryd.pinned (OpenSpec.upto mixSpreadsSpec)

/-- 'amblerlaw16.DirActs', WHERE WHAT IT READS IS OF BULK AT MOST 1048576: true; the input reads as it did. -/
def dirActsUptoRow : OpenClaim := { program := "ytdlfkjpnbgobhaadoor", sum := "8093486dff9363dffcf83c6676f0054a9026f1917220cb64c1a7b9999c692f05", func := "ambler/amblerlaw16.DirActs", spec := "dirActs", inPlace := ["internal/reflectlite.TypeOf"], unfollowed := true, recurses := true, named := ["ambler/api.ErrRange", "ambler/api.ErrFull", "ambler/api.ErrForm", "ambler/api.ErrNone", "ambler/api.ErrState", "ambler/api.ErrBadIter", "ambler/api.ErrTooMany", "ambler/api.ErrHash", "ambler/api.ErrLong", "ambler/api.ErrBroken", "ambler/api.ErrLimit", "ambler/api.ErrEmpty", "ambler/api.ErrNumber", "ambler/api.ErrKind", "ambler/api.ErrName", "ambler/api.ErrDup"], apart := false, laid := [("ambler/api.ErrRange", laid_ambler_api_ErrRange), ("ambler/api.ErrFull", laid_ambler_api_ErrFull), ("ambler/api.ErrForm", laid_ambler_api_ErrForm), ("ambler/api.ErrNone", laid_ambler_api_ErrNone), ("ambler/api.ErrState", laid_ambler_api_ErrState), ("ambler/api.ErrBadIter", laid_ambler_api_ErrBadIter), ("ambler/api.ErrTooMany", laid_ambler_api_ErrTooMany), ("ambler/api.ErrHash", laid_ambler_api_ErrHash), ("ambler/api.ErrLong", laid_ambler_api_ErrLong), ("ambler/api.ErrBroken", laid_ambler_api_ErrBroken), ("ambler/api.ErrLimit", laid_ambler_api_ErrLimit), ("ambler/api.ErrEmpty", laid_ambler_api_ErrEmpty), ("ambler/api.ErrNumber", laid_ambler_api_ErrNumber), ("ambler/api.ErrKind", laid_ambler_api_ErrKind), ("ambler/api.ErrName", laid_ambler_api_ErrName), ("ambler/api.ErrDup", laid_ambler_api_ErrDup)], narrowed := true }
def DirActsUptoSaid : Prop := dirActsUptoRow.holds Tryd.pinned (OpenSpec.upto dirActsSpec)

/-- 'amblerlaw17.CopyistKeeps', WHERE WHAT IT READS IS OF BULK AT MOST 1048576: true; the input reads as it did. -/
def copyistKeepsUptoRow : OpenClaim := { program := "ytdlfkjpnbgobhaadoor", sum := "8093486dff9363dffcf83c6676f0054a9026f1917220cb64c1a7b9999c692f05", func := "ambler/amblerlaw17.CopyistKeeps", spec := "copyistKeeps", named := ["ambler/api.ErrRange", "ambler/api.ErrNone", "ambler/api.ErrLimit", "ambler/api.ErrBroken", "ambler/api.ErrState"], apart := false, laid := [("ambler/api.ErrRange", laid_ambler_api_ErrRange), ("ambler/api.ErrNone", laid_ambler_api_ErrNone), ("ambler/api.ErrState", laid_ambler_api_ErrState), ("ambler/api.ErrBroken", laid_ambler_api_ErrBroken), ("ambler/api.ErrLimit", laid_ambler_api_ErrLimit)], narrowed := true }
def CopyistKeepsUptoSaid : Prop := copyistKeepsUptoRow.holds Tryd.pinned (OpenSpec.upto copyistKeepsSpec)

/-- 'amblerlaw17.CopyistActs', WHERE WHAT IT READS IS OF BULK AT MOST 1048576: true; the input reads as it did. -/
def copyistActsUptoRow : OpenClaim := { program := "ytdlfkjpnbgobhaadoor", sum := "8093486dff9363dffcf83c6676f0054a9026f1917220cb64c1a7b9999c692f05", func := "ambler/amblerlaw17.CopyistActs", spec := "copyistActs", inPlace := ["internal/reflectlite.TypeOf"], unfollowed := true, recurses := true, named := ["ambler/api.ErrRange", "ambler/api.ErrNone", "ambler/api.ErrLimit", "ambler/api.ErrBroken", "ambler/api.ErrState", "ambler/api.ErrFull", "ambler/api.ErrForm", "ambler/api.ErrBadIter", "ambler/api.ErrTooMany", "ambler/api.ErrHash", "ambler/api.ErrLong", "ambler/api.ErrEmpty", "ambler/api.ErrNumber", "ambler/api.ErrKind", "ambler/api.ErrName", "ambler/api.ErrDup"], apart := false, laid := [("ambler/api.ErrRange", laid_ambler_api_ErrRange), ("ambler/api.ErrFull", laid_ambler_api_ErrFull), ("ambler/api.ErrForm", laid_ambler_api_ErrForm), ("ambler/api.ErrNone", laid_ambler_api_ErrNone), ("ambler/api.ErrState", laid_ambler_api_ErrState), ("ambler/api.ErrBadIter", laid_ambler_api_ErrBadIter), ("ambler/api.ErrTooMany", laid_ambler_api_ErrTooMany), ("ambler/api.ErrHash", laid_ambler_api_ErrHash), ("ambler/api.ErrLong", laid_ambler_api_ErrLong), ("ambler/api.ErrBroken", laid_ambler_api_ErrBroken), ("ambler/api.ErrLimit", laid_ambler_api_ErrLimit), ("ambler/api.ErrEmpty", laid_ambler_api_ErrEmpty), ("ambler/api.ErrNumber", laid_ambler_api_ErrNumber), ("ambler/api.ErrKind", laid_ambler_api_ErrKind), ("ambler/api.ErrName", laid_ambler_api_ErrName), ("ambler/api.ErrDup", laid_ambler_api_ErrDup)], narrowed := true }
def CopyistActsUptoSaid : Prop := copyistActsUptoRow.holds Tryd.pinned (OpenSpec.upto copyistActsSpec)

end Rows
end Go.Proofs.YtdlfkjpnbgobhaaDoor
