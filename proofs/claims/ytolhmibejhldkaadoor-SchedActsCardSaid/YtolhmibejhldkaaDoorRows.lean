/-
  NARROWER THAN 'FOR EVERY INPUT', by the rows' own cells (each row's printed sentence says how): SchedAlone: laid · SchedSoon: laid · SchedActs: laid.
  DERIVED. THE GIVEN ROWS OF THIS SEAT. 3 by the template 'for every input the law returns true; each argument reads behind the call as it read before'; 0 by the template 'total and deterministic' (their statements: YtolhmibejhldkaaDoorTotals.lean).
  GIVEN WITH THE SEED: the statements are not yours to turn. If you find one false, say at which input.
  Laid BY PROGRAM, IN A SANDBOX (cutbox-rows.mjs): the forced cells as the released guide's own fill.sh prints them over the translation 0994ada868ea148c… (all of the seat's roots in one cut). By AI agents, Wed Nov 11 2026. No macro, syntax, notation, axiom, sorry.
-/
import Derived.Test.YtolhmibejhldkaaDoorChecked
import GoSem.Claim
import GoSem.ClaimJoined
import GoSem.ClaimMapViews
import Derived.JoinedTies
import Derived.KernelRfl
namespace Go.Proofs.YtolhmibejhldkaaDoor
/- THE CELL 'sum', in the pinned program and in every row, IS THE sha256 OF THE DUMP (.gsa) THAT YtolhmibejhldkaaDoorProg.lean LOADS. Nothing in Lean hashes anything: it is a label: what it is worth is what the hold of that sum in a sandbox is worth. -/
noncomputable def Tryd.pinned : Pinned := { name := "ytolhmibejhldkaadoor", sum := "0994ada868ea148cab3fb0c1071e394098234dee265b98d273ecd18c3a951b95", checked := Tryd.checked }
namespace Rows
def none {H : Type} : Left H := { results := [], args := [] }

/- WHAT THE LISTED PACKAGE-LEVEL VARIABLES READ AS WHEN THE CALL BEGINS. Each datum BY PROGRAM (the guide's laid-datum.mjs) off the statement by which the dump's own 'gosem.cut.vars' lays the variable. In a bare row this is a premise. The card (YtolhmibejhldkaaDoorCards.lean) ties it to the program's text. -/
def laid_ambler_api_ErrRange {H : Type} : DataW H := .iface "*errors.errorString" (.ptr (.agg [.lit (.string [97, 32, 110, 117, 109, 98, 101, 114, 32, 105, 115, 32, 111, 117, 116, 32, 111, 102, 32, 105, 116, 115, 32, 114, 97, 110, 103, 101])]))
def laid_ambler_api_ErrFull {H : Type} : DataW H := .iface "*errors.errorString" (.ptr (.agg [.lit (.string [116, 104, 101, 114, 101, 32, 105, 115, 32, 110, 111, 32, 109, 111, 114, 101, 32, 114, 111, 111, 109])]))
def laid_ambler_api_ErrNone {H : Type} : DataW H := .iface "*errors.errorString" (.ptr (.agg [.lit (.string [116, 104, 101, 114, 101, 32, 105, 115, 32, 110, 111, 110, 101])]))
def laid_ambler_api_ErrDup {H : Type} : DataW H := .iface "*errors.errorString" (.ptr (.agg [.lit (.string [105, 116, 32, 105, 115, 32, 116, 104, 101, 114, 101, 32, 97, 108, 114, 101, 97, 100, 121])]))
def laid_ambler_api_ErrForm {H : Type} : DataW H := .iface "*errors.errorString" (.ptr (.agg [.lit (.string [105, 116, 32, 105, 115, 32, 110, 111, 116, 32, 111, 102, 32, 105, 116, 115, 32, 102, 111, 114, 109])]))
def laid_ambler_api_ErrState {H : Type} : DataW H := .iface "*errors.errorString" (.ptr (.agg [.lit (.string [105, 116, 32, 99, 97, 110, 32, 110, 111, 116, 32, 98, 101, 32, 100, 111, 110, 101, 32, 105, 110, 32, 116, 104, 105, 115, 32, 115, 116, 97, 116, 101])]))
def laid_ambler_api_ErrBadIter {H : Type} : DataW H := .iface "*errors.errorString" (.ptr (.agg [.lit (.string [116, 104, 101, 114, 101, 32, 105, 115, 32, 110, 111, 32, 115, 117, 99, 104, 32, 105, 116, 101, 114, 97, 116, 111, 114])]))
def laid_ambler_api_ErrTooMany {H : Type} : DataW H := .iface "*errors.errorString" (.ptr (.agg [.lit (.string [116, 104, 101, 114, 101, 32, 97, 114, 101, 32, 116, 111, 111, 32, 109, 97, 110, 121, 32, 105, 116, 101, 114, 97, 116, 111, 114, 115])]))
def laid_ambler_api_ErrHash {H : Type} : DataW H := .iface "*errors.errorString" (.ptr (.agg [.lit (.string [111, 110, 101, 32, 107, 101, 121, 32, 104, 97, 115, 32, 116, 119, 111, 32, 104, 97, 115, 104, 101, 115])]))
def laid_ambler_api_ErrLong {H : Type} : DataW H := .iface "*errors.errorString" (.ptr (.agg [.lit (.string [116, 104, 101, 114, 101, 32, 105, 115, 32, 109, 111, 114, 101, 32, 116, 104, 97, 110, 32, 109, 97, 121, 32, 98, 101])]))
def laid_ambler_api_ErrBroken {H : Type} : DataW H := .iface "*errors.errorString" (.ptr (.agg [.lit (.string [115, 111, 109, 101, 116, 104, 105, 110, 103, 32, 116, 104, 97, 116, 32, 109, 117, 115, 116, 32, 98, 101, 32, 115, 111, 32, 105, 115, 32, 110, 111, 116])]))
def laid_ambler_api_ErrLimit {H : Type} : DataW H := .iface "*errors.errorString" (.ptr (.agg [.lit (.string [97, 32, 108, 105, 109, 105, 116, 32, 105, 115, 32, 112, 97, 115, 115, 101, 100])]))
def laid_ambler_api_ErrEmpty {H : Type} : DataW H := .iface "*errors.errorString" (.ptr (.agg [.lit (.string [116, 104, 101, 114, 101, 32, 105, 115, 32, 110, 111, 116, 104, 105, 110, 103, 32, 105, 110, 32, 105, 116])]))
def laid_ambler_api_ErrNumber {H : Type} : DataW H := .iface "*errors.errorString" (.ptr (.agg [.lit (.string [116, 104, 101, 32, 116, 101, 120, 116, 32, 105, 115, 32, 110, 111, 32, 110, 117, 109, 98, 101, 114])]))
def laid_ambler_api_ErrKind {H : Type} : DataW H := .iface "*errors.errorString" (.ptr (.agg [.lit (.string [105, 116, 32, 105, 115, 32, 111, 102, 32, 97, 110, 111, 116, 104, 101, 114, 32, 107, 105, 110, 100])]))
def laid_ambler_api_ErrName {H : Type} : DataW H := .iface "*errors.errorString" (.ptr (.agg [.lit (.string [116, 104, 101, 114, 101, 32, 105, 115, 32, 110, 111, 32, 115, 117, 99, 104, 32, 110, 97, 109, 101])]))

/-- 'amblerlaw20.SchedAlone': WHATEVER THE INPUT: true; the input reads as it did. -/
def schedAloneSpec : ChangeSpec := { name := "schedAlone", fn := fun _ => fun
  | [d1, d2] => { results := [.lit (.bool true)], args := [d1, d2] }
  | _ => none }
def schedAloneRow : OpenClaim := { program := "ytolhmibejhldkaadoor", sum := "0994ada868ea148cab3fb0c1071e394098234dee265b98d273ecd18c3a951b95", func := "ambler/amblerlaw20.SchedAlone", spec := "schedAlone", unfollowed := true, recurses := true, named := ["ambler/api.ErrRange", "ambler/api.ErrNone", "ambler/api.ErrDup", "ambler/api.ErrFull"], apart := false, laid := [("ambler/api.ErrRange", laid_ambler_api_ErrRange), ("ambler/api.ErrFull", laid_ambler_api_ErrFull), ("ambler/api.ErrNone", laid_ambler_api_ErrNone), ("ambler/api.ErrDup", laid_ambler_api_ErrDup)] }
def SchedAloneSaid : Prop := schedAloneRow.holds Tryd.pinned (OpenSpec.ofChange schedAloneSpec)

/-- ITS FALSE NEIGHBOUR: 'it returns false'. Refute it at one input. -/
def schedAloneWrong : ChangeSpec := { name := "schedAlone", fn := fun _ => fun
  | [d1, d2] => { results := [.lit (.bool false)], args := [d1, d2] }
  | _ => none }
def SchedAloneWrongFalsely : Prop := schedAloneRow.holds Tryd.pinned (OpenSpec.ofChange schedAloneWrong)

/-- 'amblerlaw20.SchedSoon': WHATEVER THE INPUT: true; the input reads as it did. -/
def schedSoonSpec : ChangeSpec := { name := "schedSoon", fn := fun _ => fun
  | [d1, d2, d3] => { results := [.lit (.bool true)], args := [d1, d2, d3] }
  | _ => none }
def schedSoonRow : OpenClaim := { program := "ytolhmibejhldkaadoor", sum := "0994ada868ea148cab3fb0c1071e394098234dee265b98d273ecd18c3a951b95", func := "ambler/amblerlaw20.SchedSoon", spec := "schedSoon", unfollowed := true, recurses := true, named := ["ambler/api.ErrRange", "ambler/api.ErrNone", "ambler/api.ErrDup", "ambler/api.ErrFull"], apart := false, laid := [("ambler/api.ErrRange", laid_ambler_api_ErrRange), ("ambler/api.ErrFull", laid_ambler_api_ErrFull), ("ambler/api.ErrNone", laid_ambler_api_ErrNone), ("ambler/api.ErrDup", laid_ambler_api_ErrDup)] }
def SchedSoonSaid : Prop := schedSoonRow.holds Tryd.pinned (OpenSpec.ofChange schedSoonSpec)

/-- ITS FALSE NEIGHBOUR: 'it returns false'. Refute it at one input. -/
def schedSoonWrong : ChangeSpec := { name := "schedSoon", fn := fun _ => fun
  | [d1, d2, d3] => { results := [.lit (.bool false)], args := [d1, d2, d3] }
  | _ => none }
def SchedSoonWrongFalsely : Prop := schedSoonRow.holds Tryd.pinned (OpenSpec.ofChange schedSoonWrong)

/-- 'amblerlaw20.SchedActs': WHATEVER THE INPUT: true; the input reads as it did. -/
def schedActsSpec : ChangeSpec := { name := "schedActs", fn := fun _ => fun
  | [d1, d2] => { results := [.lit (.bool true)], args := [d1, d2] }
  | _ => none }
def schedActsRow : OpenClaim := { program := "ytolhmibejhldkaadoor", sum := "0994ada868ea148cab3fb0c1071e394098234dee265b98d273ecd18c3a951b95", func := "ambler/amblerlaw20.SchedActs", spec := "schedActs", inPlace := ["internal/reflectlite.TypeOf"], unfollowed := true, recurses := true, named := ["ambler/api.ErrRange", "ambler/api.ErrNone", "ambler/api.ErrDup", "ambler/api.ErrFull", "ambler/api.ErrForm", "ambler/api.ErrState", "ambler/api.ErrBadIter", "ambler/api.ErrTooMany", "ambler/api.ErrHash", "ambler/api.ErrLong", "ambler/api.ErrBroken", "ambler/api.ErrLimit", "ambler/api.ErrEmpty", "ambler/api.ErrNumber", "ambler/api.ErrKind", "ambler/api.ErrName"], apart := false, laid := [("ambler/api.ErrRange", laid_ambler_api_ErrRange), ("ambler/api.ErrFull", laid_ambler_api_ErrFull), ("ambler/api.ErrForm", laid_ambler_api_ErrForm), ("ambler/api.ErrNone", laid_ambler_api_ErrNone), ("ambler/api.ErrState", laid_ambler_api_ErrState), ("ambler/api.ErrBadIter", laid_ambler_api_ErrBadIter), ("ambler/api.ErrTooMany", laid_ambler_api_ErrTooMany), ("ambler/api.ErrHash", laid_ambler_api_ErrHash), ("ambler/api.ErrLong", laid_ambler_api_ErrLong), ("ambler/api.ErrBroken", laid_ambler_api_ErrBroken), ("ambler/api.ErrLimit", laid_ambler_api_ErrLimit), ("ambler/api.ErrEmpty", laid_ambler_api_ErrEmpty), ("ambler/api.ErrNumber", laid_ambler_api_ErrNumber), ("ambler/api.ErrKind", laid_ambler_api_ErrKind), ("ambler/api.ErrName", laid_ambler_api_ErrName), ("ambler/api.ErrDup", laid_ambler_api_ErrDup)] }
def SchedActsSaid : Prop := schedActsRow.holds Tryd.pinned (OpenSpec.ofChange schedActsSpec)

/-- ITS FALSE NEIGHBOUR: 'it returns false'. Refute it at one input. -/
def schedActsWrong : ChangeSpec := { name := "schedActs", fn := fun _ => fun
  | [d1, d2] => { results := [.lit (.bool false)], args := [d1, d2] }
  | _ => none }
def SchedActsWrongFalsely : Prop := schedActsRow.holds Tryd.pinned (OpenSpec.ofChange schedActsWrong)

/- THE SECOND FORM. 'bulk': how many values and letters a reading holds, each counted each time it is reached (what is shared counts as often as it is met; a slice's spare places count too). A statement '..UptoSaid' is the law's where the arguments, and the package variables that the reading takes, are together of bulk at most 1048576: NARROWER than '..Said'. Prove '..Said' where nothing that the law and all that it calls make is longer than what came in: it says more and counts as full. Else prove '..UptoSaid'. A law counts once. -/
mutual
def uptoBulk {H : Type} : DataW H → Nat
  | .lit (.string bytes) => bytes.length + 1
  | .lit _ => 1
  | .nil => 1
  | .ptr d => uptoBulk d + 1
  | .slice elems spare => uptoBulkAll elems + uptoBulkAll spare + 1
  | .agg parts => uptoBulkAll parts + 1
  | .iface _ d => uptoBulk d + 1
  | .map entries => uptoBulkEntries entries + 1
  | .held _ => 1
def uptoBulkAll {H : Type} : List (DataW H) → Nat
  | [] => 0
  | d :: r => uptoBulk d + uptoBulkAll r
def uptoBulkEntries {H : Type} : List (Lit × DataW H) → Nat
  | [] => 0
  | x :: r => uptoBulkEntry x + uptoBulkEntries r
def uptoBulkEntry {H : Type} : Lit × DataW H → Nat
  | (.string bytes, d) => bytes.length + uptoBulk d + 1
  | (_, d) => uptoBulk d + 1
 end
def uptoSmall : (H : Type) → List (DataW H) → Bool := fun _ ds => decide (uptoBulkAll ds ≤ 1048576)
def OpenSpec.upto (s : _root_.Go.ChangeSpec) : _root_.Go.OpenSpec := { _root_.Go.OpenSpec.ofChange s with cond := some uptoSmall }

/-- 'amblerlaw20.SchedAlone', WHERE WHAT IT READS IS OF BULK AT MOST 1048576: true; the input reads as it did. -/
def schedAloneUptoRow : OpenClaim := { program := "ytolhmibejhldkaadoor", sum := "0994ada868ea148cab3fb0c1071e394098234dee265b98d273ecd18c3a951b95", func := "ambler/amblerlaw20.SchedAlone", spec := "schedAlone", unfollowed := true, recurses := true, named := ["ambler/api.ErrRange", "ambler/api.ErrNone", "ambler/api.ErrDup", "ambler/api.ErrFull"], apart := false, laid := [("ambler/api.ErrRange", laid_ambler_api_ErrRange), ("ambler/api.ErrFull", laid_ambler_api_ErrFull), ("ambler/api.ErrNone", laid_ambler_api_ErrNone), ("ambler/api.ErrDup", laid_ambler_api_ErrDup)], narrowed := true }
def SchedAloneUptoSaid : Prop := schedAloneUptoRow.holds Tryd.pinned (OpenSpec.upto schedAloneSpec)

/-- 'amblerlaw20.SchedSoon', WHERE WHAT IT READS IS OF BULK AT MOST 1048576: true; the input reads as it did. -/
def schedSoonUptoRow : OpenClaim := { program := "ytolhmibejhldkaadoor", sum := "0994ada868ea148cab3fb0c1071e394098234dee265b98d273ecd18c3a951b95", func := "ambler/amblerlaw20.SchedSoon", spec := "schedSoon", unfollowed := true, recurses := true, named := ["ambler/api.ErrRange", "ambler/api.ErrNone", "ambler/api.ErrDup", "ambler/api.ErrFull"], apart := false, laid := [("ambler/api.ErrRange", laid_ambler_api_ErrRange), ("ambler/api.ErrFull", laid_ambler_api_ErrFull), ("ambler/api.ErrNone", laid_ambler_api_ErrNone), ("ambler/api.ErrDup", laid_ambler_api_ErrDup)], narrowed := true }
def SchedSoonUptoSaid : Prop := schedSoonUptoRow.holds Tryd.pinned (OpenSpec.upto schedSoonSpec)

/-- 'amblerlaw20.SchedActs', WHERE WHAT IT READS IS OF BULK AT MOST 1048576: true; the input reads as it did. -/
def schedActsUptoRow : OpenClaim := { program := "ytolhmibejhldkaadoor", sum := "0994ada868ea148cab3fb0c1071e394098234dee265b98d273ecd18c3a951b95", func := "ambler/amblerlaw20.SchedActs", spec := "schedActs", inPlace := ["internal/reflectlite.TypeOf"], unfollowed := true, recurses := true, named := ["ambler/api.ErrRange", "ambler/api.ErrNone", "ambler/api.ErrDup", "ambler/api.ErrFull", "ambler/api.ErrForm", "ambler/api.ErrState", "ambler/api.ErrBadIter", "ambler/api.ErrTooMany", "ambler/api.ErrHash", "ambler/api.ErrLong", "ambler/api.ErrBroken", "ambler/api.ErrLimit", "ambler/api.ErrEmpty", "ambler/api.ErrNumber", "ambler/api.ErrKind", "ambler/api.ErrName"], apart := false, laid := [("ambler/api.ErrRange", laid_ambler_api_ErrRange), ("ambler/api.ErrFull", laid_ambler_api_ErrFull), ("ambler/api.ErrForm", laid_ambler_api_ErrForm), ("ambler/api.ErrNone", laid_ambler_api_ErrNone), ("ambler/api.ErrState", laid_ambler_api_ErrState), ("ambler/api.ErrBadIter", laid_ambler_api_ErrBadIter), ("ambler/api.ErrTooMany", laid_ambler_api_ErrTooMany), ("ambler/api.ErrHash", laid_ambler_api_ErrHash), ("ambler/api.ErrLong", laid_ambler_api_ErrLong), ("ambler/api.ErrBroken", laid_ambler_api_ErrBroken), ("ambler/api.ErrLimit", laid_ambler_api_ErrLimit), ("ambler/api.ErrEmpty", laid_ambler_api_ErrEmpty), ("ambler/api.ErrNumber", laid_ambler_api_ErrNumber), ("ambler/api.ErrKind", laid_ambler_api_ErrKind), ("ambler/api.ErrName", laid_ambler_api_ErrName), ("ambler/api.ErrDup", laid_ambler_api_ErrDup)], narrowed := true }
def SchedActsUptoSaid : Prop := schedActsUptoRow.holds Tryd.pinned (OpenSpec.upto schedActsSpec)

end Rows
end Go.Proofs.YtolhmibejhldkaaDoor
