/- The first lane of a mask, the table of math/bits, and the chapter's example. Condition: the table. -/
import Derived.Test.YtdlfkjpnbgobhaaDoorSwar
import Derived.Lib.TrailingZeros
namespace Go.Proofs.YtdlfkjpnbgobhaaDoor
set_option linter.unusedVariables false
set_option linter.unusedSimpArgs false
open Go.RowKit Go.Proofs

theorem tz_key (x a : Nat) (hx : x < 18446744073709551616) (hx0 : x ≠ 0) (hlow : x &&& (18446744073709551616 - x) = a) :
    IntKind.u64.wrap (bits BinOp.and IntKind.u64 (x : Int) (IntKind.u64.wrap (-(x : Int))) * 285870213051353865) / 288230376151711744 = ((a * 285870213051353865 % 18446744073709551616 / 288230376151711744 : Nat) : Int) := by
  have e1 : IntKind.u64.wrap (-(x : Int)) = ((18446744073709551616 - x : Nat) : Int) := by rw [IntKind.wrap_u64]; omega
  rw [e1, bits_and_u64_nat x _ hx (by omega), hlow, IntKind.wrap_u64]
  omega

/-- the first lane that is in, behind k -/
def firstFrom (f : Nat → Bool) : Nat → Nat → Option Nat
  | 0, _ => none
  | n + 1, k => if f k then some k else firstFrom f n (k + 1)
def firstL (f : Nat → Bool) : Option Nat := firstFrom f 8 0
theorem firstFrom_spec (f : Nat → Bool) : ∀ (n k : Nat), match firstFrom f n k with
    | none => ∀ i, k ≤ i → i < k + n → f i = false
    | some j => k ≤ j ∧ j < k + n ∧ f j = true ∧ ∀ i, k ≤ i → i < j → f i = false := by
  intro n
  induction n with
  | zero => intro k; simp [firstFrom]; intro i h1 h2; omega
  | succ n ih =>
    intro k
    unfold firstFrom
    cases hk : f k
    · simp only [Bool.false_eq_true, if_false]
      have := ih (k + 1)
      cases hf : firstFrom f n (k + 1) with
      | none =>
        rw [hf] at this
        intro i h1 h2
        by_cases e : i = k
        · rw [e]; exact hk
        · exact this i (by omega) (by omega)
      | some j =>
        rw [hf] at this
        obtain ⟨a, b, c, d⟩ := this
        refine ⟨by omega, by omega, c, fun i h1 h2 => ?_⟩
        by_cases e : i = k
        · rw [e]; exact hk
        · exact d i (by omega) h2
    · simp only [if_true]
      exact ⟨Nat.le_refl _, by omega, hk, fun i h1 h2 => by omega⟩
theorem firstL_none {f : Nat → Bool} (h : firstL f = none) : ∀ i, i < 8 → f i = false := by
  have := firstFrom_spec f 8 0
  unfold firstL at h; rw [h] at this
  exact fun i hi => this i (by omega) (by omega)
theorem firstL_some {f : Nat → Bool} {j : Nat} (h : firstL f = some j) : j < 8 ∧ f j = true ∧ ∀ i, i < j → f i = false := by
  have := firstFrom_spec f 8 0
  unfold firstL at h; rw [h] at this
  exact ⟨by omega, this.2.2.1, fun i hi => this.2.2.2 i (by omega) hi⟩
theorem maskB_none {f : Nat → Bool} (h : ∀ i, i < 8 → f i = false) : maskB f = 0 := by
  simp [maskB, ofL, h 0 (by omega), h 1 (by omega), h 2 (by omega), h 3 (by omega), h 4 (by omega), h 5 (by omega), h 6 (by omega), h 7 (by omega)]
theorem maskB_some {f : Nat → Bool} {j : Nat} (h : firstL f = some j) : ∃ m, maskB f = 2 ^ (8 * j + 7) * (2 * m + 1) := by
  obtain ⟨hj, hf, hb⟩ := firstL_some h
  have t : ∀ i, ∃ u, u ≤ 1 ∧ (if f i then 128 else 0) = 128 * u := fun i => by
    cases f i
    · exact ⟨0, by omega, rfl⟩
    · exact ⟨1, by omega, rfl⟩
  have t' : ∀ i, i < j → (if f i then 128 else 0) = 0 := fun i hi => by rw [hb i hi]; rfl
  have tj : (if f j then 128 else 0) = 128 := by rw [hf]; rfl
  obtain ⟨u1, _, e1⟩ := t 1
  obtain ⟨u2, _, e2⟩ := t 2
  obtain ⟨u3, _, e3⟩ := t 3
  obtain ⟨u4, _, e4⟩ := t 4
  obtain ⟨u5, _, e5⟩ := t 5
  obtain ⟨u6, _, e6⟩ := t 6
  obtain ⟨u7, _, e7⟩ := t 7
  unfold maskB ofL
  rcases lt8 hj with rfl | rfl | rfl | rfl | rfl | rfl | rfl | rfl
  · exact ⟨128 * (u1 + 256 * u2 + 65536 * u3 + 16777216 * u4 + 4294967296 * u5 + 1099511627776 * u6 + 281474976710656 * u7), by simp only [tj, e1, e2, e3, e4, e5, e6, e7, Nat.reduceMul, Nat.reduceAdd, Nat.reducePow]; omega⟩
  · exact ⟨128 * (u2 + 256 * u3 + 65536 * u4 + 16777216 * u5 + 4294967296 * u6 + 1099511627776 * u7), by simp only [tj, t' 0 (by omega), e2, e3, e4, e5, e6, e7, Nat.reduceMul, Nat.reduceAdd, Nat.reducePow]; omega⟩
  · exact ⟨128 * (u3 + 256 * u4 + 65536 * u5 + 16777216 * u6 + 4294967296 * u7), by simp only [tj, t' 0 (by omega), t' 1 (by omega), e3, e4, e5, e6, e7, Nat.reduceMul, Nat.reduceAdd, Nat.reducePow]; omega⟩
  · exact ⟨128 * (u4 + 256 * u5 + 65536 * u6 + 16777216 * u7), by simp only [tj, t' 0 (by omega), t' 1 (by omega), t' 2 (by omega), e4, e5, e6, e7, Nat.reduceMul, Nat.reduceAdd, Nat.reducePow]; omega⟩
  · exact ⟨128 * (u5 + 256 * u6 + 65536 * u7), by simp only [tj, t' 0 (by omega), t' 1 (by omega), t' 2 (by omega), t' 3 (by omega), e5, e6, e7, Nat.reduceMul, Nat.reduceAdd, Nat.reducePow]; omega⟩
  · exact ⟨128 * (u6 + 256 * u7), by simp only [tj, t' 0 (by omega), t' 1 (by omega), t' 2 (by omega), t' 3 (by omega), t' 4 (by omega), e6, e7, Nat.reduceMul, Nat.reduceAdd, Nat.reducePow]; omega⟩
  · exact ⟨128 * u7, by simp only [tj, t' 0 (by omega), t' 1 (by omega), t' 2 (by omega), t' 3 (by omega), t' 4 (by omega), t' 5 (by omega), e7, Nat.reduceMul, Nat.reduceAdd, Nat.reducePow]; omega⟩
  · exact ⟨0, by simp only [tj, t' 0 (by omega), t' 1 (by omega), t' 2 (by omega), t' 3 (by omega), t' 4 (by omega), t' 5 (by omega), t' 6 (by omega), Nat.reduceMul, Nat.reduceAdd, Nat.reducePow]⟩
theorem maskB_low {f : Nat → Bool} {j : Nat} (h : firstL f = some j) : maskB f ≠ 0 ∧ maskB f &&& (18446744073709551616 - maskB f) = 2 ^ (8 * j + 7) := by
  obtain ⟨m, hm⟩ := maskB_some h
  have hlt := maskB_lt f
  refine ⟨by rw [hm]; exact Nat.ne_of_gt (Nat.mul_pos (Nat.two_pow_pos _) (by omega)), ?_⟩
  have := Lib.and_neg 64 (8 * j + 7) m (by rw [← hm]; exact hlt)
  rw [← hm] at this; exact this

end Go.Proofs.YtdlfkjpnbgobhaaDoor
