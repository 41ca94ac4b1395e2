/- The walk of DirHalves. Condition: the error's cell. -/
import Derived.Test.YtplimhllfbdocaaDoorDir
import Derived.Deep.Cut
namespace Go.Proofs.YtplimhllfbdocaaDoor
set_option linter.unusedVariables false
set_option linter.unusedSimpArgs false
open Go.RowKit Go.Proofs

theorem readsInts_gives {w : World} {a : Option Addr} {base cap : Nat} {xs : List Int} (h : w.ownsRow base 3 1 (.slice a xs.length cap) xs.length (xs.map (Value.int .i64))) : ReadsInts w (.slice a xs.length cap) xs := readsInts_own h
theorem list_ext_getD {xs ys : List Int} (hl : xs.length = ys.length) (h : ∀ j, j < xs.length → xs.getD j 0 = ys.getD j 0) : xs = ys := by
  apply List.ext_getElem hl
  intro j h1 h2
  have := h j h1
  simpa [List.getD_eq_getElem?_getD, List.getElem?_eq_getElem h1, List.getElem?_eq_getElem h2] using this
theorem setsL_halves (es : List Int) (p h : Nat) (x : Int) (hb : (2 * p + 2) * h ≤ es.length) : setsL (setsL es ((2 * p) * h) h x) ((2 * p + 1) * h) h x = setsL es (p * (2 * h)) (2 * h) x := by
  have e1 : (2 * p) * h = p * (2 * h) := by rw [Nat.mul_comm 2 p, Nat.mul_assoc]
  have e2 : (2 * p + 1) * h = p * (2 * h) + h := by rw [Nat.add_mul, e1, Nat.one_mul]
  have e3 : (2 * p + 2) * h = p * (2 * h) + 2 * h := by rw [Nat.add_mul, e1]
  rw [e1, e2]
  rw [e3] at hb
  generalize p * (2 * h) = a at *
  apply list_ext_getD (by simp [setsL_len])
  intro j hj
  simp only [setsL_len] at hj
  rw [setsL_get _ _ _ _ (by rw [setsL_len]; omega) _ (by rw [setsL_len]; omega), setsL_get _ _ _ _ (by omega) _ hj, setsL_get _ _ _ _ (by omega) _ hj]
  by_cases c1 : a + h ≤ j ∧ j < a + h + h
  · rw [if_pos c1, if_pos (by omega)]
  · rw [if_neg c1]
    by_cases c2 : a ≤ j ∧ j < a + h
    · rw [if_pos c2, if_pos (by omega)]
    · rw [if_neg c2, if_neg (by omega)]
/-- the first k prefixes of y entries each are numbered -/
def NumD (es : List Int) (y k : Nat) : Prop := ∀ j, j < k * y → es.getD j 0 = 100 + ((j / y : Nat) : Int)
theorem numD_next {es : List Int} {y k : Nat} (hy : 0 < y) (h : NumD es y k) (hb : k * y + y ≤ es.length) : NumD (setsL es (k * y) y (100 + (k : Int))) y (k + 1) := by
  intro j hj
  rw [Nat.add_mul, Nat.one_mul] at hj
  rw [setsL_get _ _ _ _ hb _ (by omega)]
  by_cases c : k * y ≤ j ∧ j < k * y + y
  · rw [if_pos c]
    have : j / y = k := by
      apply Nat.div_eq_of_lt_le
      · exact c.1
      · rw [Nat.add_mul, Nat.one_mul]; exact c.2
    rw [this]
  · rw [if_neg c]; exact h j (by omega)
theorem dnew_badI (a : Int) (ha : a < 0 ∨ 5 < a) (E : Nat → Addr) (w : World) (he : EC w E [1]) :
    Calls Tryd.prog 118 #[.int .i64 a] w fun e w' => e = .returned (.tuple #[.pointer none, .iface 243 (.pointer (some (E 1)))]) ∧ Below w.heap.size w w' := dnew_bad a ha E w he
theorem halves_facts (d k p : Nat) (hd5 : d ≤ 5) (hkd : k < d) (hp : p < 2 ^ k) : ∃ h y M : Nat, h = 2 ^ (d - (k + 1)) ∧ y = 2 ^ (d - k) ∧ M = 2 ^ k ∧ y = 2 * h ∧ 0 < h ∧ y ≤ 32 ∧ M ≤ 32 ∧ M * y = 2 ^ d ∧ p < M ∧ (2 * p + 2) * h ≤ 2 ^ d := by
  have hyh : 2 ^ (d - k) = 2 * 2 ^ (d - (k + 1)) := by rw [show d - k = d - (k + 1) + 1 by omega, Nat.pow_succ, Nat.mul_comm]
  have hMy : 2 ^ k * 2 ^ (d - k) = 2 ^ d := by rw [← Nat.pow_add]; congr 1; omega
  have h5 : ∀ m, m ≤ 5 → 2 ^ m ≤ 32 := fun m hm => Nat.pow_le_pow_right (by decide) hm
  refine ⟨_, _, _, rfl, rfl, rfl, hyh, Nat.two_pow_pos _, h5 _ (by omega), h5 _ (by omega), hMy, hp, ?_⟩
  rw [← hMy, hyh, show 2 * p + 2 = (p + 1) * 2 by omega, Nat.mul_assoc]
  exact Nat.mul_le_mul_right _ hp
end Go.Proofs.YtplimhllfbdocaaDoor
