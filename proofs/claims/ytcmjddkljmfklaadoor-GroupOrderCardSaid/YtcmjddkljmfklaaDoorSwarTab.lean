/- The table of math/bits, out of a row's list; numbers of words and bytes. Condition: the list. -/
import Derived.Test.YtcmjddkljmfklaaDoorLaidInts
import Derived.Test.YtcmjddkljmfklaaDoorSwarFirst
namespace Go.Proofs.YtcmjddkljmfklaaDoor
set_option linter.unusedVariables false
set_option linter.unusedSimpArgs false
open Go.ChangeShapes Go.WideShapes Go.ChangeAt Go.RowKit

theorem tab64_of {w : World} {l : List (String × DataW Unit)} (h : laidMet Tryd.prog l w) (hm : ("math/bits.deBruijn64tab", (Rows.laid_math_bits_deBruijn64tab : DataW Unit)) ∈ l) : Tab64 w := by
  intro j hj
  have hd : (Rows.laid_math_bits_deBruijn64tab : DataW Unit) = .agg ((Lib.deBruijn64tab.map (fun n : Nat => (n : Int))).map fun s => .lit (.int .u8 s)) := rfl
  rw [hd] at hm
  have hc := laid_ints (g := 16) (t := 185) (e := 5) (k := 64) (kd := .u8) h hm (by kernel_rfl) (by kernel_rfl) Tryd.underlying185 Tryd.underlying5 (by kernel_rfl) (by kernel_rfl) j (by simpa [Lib.deBruijn64tab] using hj)
  rw [hc]
  congr 2
  have hl : j < Lib.deBruijn64tab.length := by simpa [Lib.deBruijn64tab] using hj
  simp [List.getElem?_eq_getElem hl]
theorem u64_nat {a : Int} (h : (Lit.int .u64 a).wf = true) : ∃ n : Nat, n < 18446744073709551616 ∧ a = (n : Int) := by
  have hb : 0 ≤ a ∧ a ≤ 18446744073709551615 := by simpa [Lit.wf, IntKind.min, IntKind.max, IntKind.signed, IntKind.bits] using h
  exact ⟨a.toNat, by omega, by omega⟩
theorem u8_nat {a : Int} (h : (Lit.int .u8 a).wf = true) : ∃ n : Nat, n < 256 ∧ a = (n : Int) := by
  have hb : 0 ≤ a ∧ a ≤ 255 := by simpa [Lit.wf, IntKind.min, IntKind.max, IntKind.signed, IntKind.bits] using h
  exact ⟨a.toNat, by omega, by omega⟩
end Go.Proofs.YtcmjddkljmfklaaDoor
