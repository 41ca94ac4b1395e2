/- The first lane of a mask, the table of math/bits, and the chapter's example. Condition: the table. -/
import Derived.Test.YtcmjddkljmfklaaDoorSwar
import Derived.Lib.TrailingZeros
namespace Go.Proofs.YtcmjddkljmfklaaDoor
set_option linter.unusedVariables false
set_option linter.unusedSimpArgs false
open Go.RowKit Go.Proofs

/-- the table of math/bits, where it lies -/
def Tab64 (w : World) : Prop := ∀ j : Nat, j < 64 → w.cell? ⟨16, j, none⟩ = some (.int .u8 ((Lib.deBruijn64tab.getD j 0 : Nat) : Int))
theorem Tab64.below {w w' : World} (h : Tab64 w) (hb : Below w.heap.size w w') : Tab64 w' := fun j hj => (hb.cell (World.block_lt_of_cell? _ _ (h j hj))).trans (h j hj)

theorem tz_key (x a : Nat) (hx : x < 18446744073709551616) (hx0 : x ≠ 0) (hlow : x &&& (18446744073709551616 - x) = a) :
    IntKind.u64.wrap (bits BinOp.and IntKind.u64 (x : Int) (IntKind.u64.wrap (-(x : Int))) * 285870213051353865) / 288230376151711744 = ((a * 285870213051353865 % 18446744073709551616 / 288230376151711744 : Nat) : Int) := by
  have e1 : IntKind.u64.wrap (-(x : Int)) = ((18446744073709551616 - x : Nat) : Int) := by rw [IntKind.wrap_u64]; omega
  rw [e1, bits_and_u64_nat x _ hx (by omega), hlow, IntKind.wrap_u64]
  omega

set_option maxHeartbeats 800000 in
theorem tz_any (x k : Nat) (hx : x < 18446744073709551616) (hx0 : x ≠ 0) (hk : k < 64) (hlow : x &&& (18446744073709551616 - x) = 2 ^ k) (w : World) (hT : Tab64 w) :
    Calls Tryd.prog 122 #[.int .u64 (x : Int)] w fun e w' => e = .returned (.int .i64 (k : Int)) ∧ w = w' := by
  obtain ⟨hi, htab⟩ := Lib.deBruijn64_at k hk
  have key := tz_key x _ hx hx0 hlow
  obtain ⟨idx, hidx⟩ : ∃ i, i = 2 ^ k * 285870213051353865 % 18446744073709551616 / 288230376151711744 := ⟨_, rfl⟩
  rw [← hidx] at hi htab key
  have hcell := hT idx hi
  rw [htab] at hcell
  have hz : ((x : Int) == 0) = false := by simp; omega
  have hi' : (idx : Int) < 64 := by omega
  clear hidx htab hT hlow hx0
  go_enter Tryd.func122, Tryd.ntmps122
  go_wp2_with (simp only [key])
  go_ret
  exact ⟨rfl, rfl⟩

/-- the first lane that is in, behind k -/
def firstFrom (f : Nat → Bool) : Nat → Nat → Option Nat
  | 0, _ => none
  | n + 1, k => if f k then some k else firstFrom f n (k + 1)
def firstL (f : Nat → Bool) : Option Nat := firstFrom f 8 0
theorem firstFrom_spec (f : Nat → Bool) : ∀ (n k : Nat), match firstFrom f n k with
    | none => ∀ i, k ≤ i → i < k + n → f i = false
    | some j => k ≤ j ∧ j < k + n ∧ f j = true ∧ ∀ i, k ≤ i → i < j → f i = false := by
  intro n
  induction n with
  | zero => intro k; simp [firstFrom]; intro i h1 h2; omega
  | succ n ih =>
    intro k
    unfold firstFrom
    cases hk : f k
    · simp only [Bool.false_eq_true, if_false]
      have := ih (k + 1)
      cases hf : firstFrom f n (k + 1) with
      | none =>
        rw [hf] at this
        intro i h1 h2
        by_cases e : i = k
        · rw [e]; exact hk
        · exact this i (by omega) (by omega)
      | some j =>
        rw [hf] at this
        obtain ⟨a, b, c, d⟩ := this
        refine ⟨by omega, by omega, c, fun i h1 h2 => ?_⟩
        by_cases e : i = k
        · rw [e]; exact hk
        · exact d i (by omega) h2
    · simp only [if_true]
      exact ⟨Nat.le_refl _, by omega, hk, fun i h1 h2 => by omega⟩
theorem firstL_none {f : Nat → Bool} (h : firstL f = none) : ∀ i, i < 8 → f i = false := by
  have := firstFrom_spec f 8 0
  unfold firstL at h; rw [h] at this
  exact fun i hi => this i (by omega) (by omega)
theorem firstL_some {f : Nat → Bool} {j : Nat} (h : firstL f = some j) : j < 8 ∧ f j = true ∧ ∀ i, i < j → f i = false := by
  have := firstFrom_spec f 8 0
  unfold firstL at h; rw [h] at this
  exact ⟨by omega, this.2.2.1, fun i hi => this.2.2.2 i (by omega) hi⟩
theorem maskB_none {f : Nat → Bool} (h : ∀ i, i < 8 → f i = false) : maskB f = 0 := by
  simp [maskB, ofL, h 0 (by omega), h 1 (by omega), h 2 (by omega), h 3 (by omega), h 4 (by omega), h 5 (by omega), h 6 (by omega), h 7 (by omega)]
theorem maskB_some {f : Nat → Bool} {j : Nat} (h : firstL f = some j) : ∃ m, maskB f = 2 ^ (8 * j + 7) * (2 * m + 1) := by
  obtain ⟨hj, hf, hb⟩ := firstL_some h
  have t : ∀ i, ∃ u, u ≤ 1 ∧ (if f i then 128 else 0) = 128 * u := fun i => by
    cases f i
    · exact ⟨0, by omega, rfl⟩
    · exact ⟨1, by omega, rfl⟩
  have t' : ∀ i, i < j → (if f i then 128 else 0) = 0 := fun i hi => by rw [hb i hi]; rfl
  have tj : (if f j then 128 else 0) = 128 := by rw [hf]; rfl
  obtain ⟨u1, _, e1⟩ := t 1
  obtain ⟨u2, _, e2⟩ := t 2
  obtain ⟨u3, _, e3⟩ := t 3
  obtain ⟨u4, _, e4⟩ := t 4
  obtain ⟨u5, _, e5⟩ := t 5
  obtain ⟨u6, _, e6⟩ := t 6
  obtain ⟨u7, _, e7⟩ := t 7
  unfold maskB ofL
  rcases lt8 hj with rfl | rfl | rfl | rfl | rfl | rfl | rfl | rfl
  · exact ⟨128 * (u1 + 256 * u2 + 65536 * u3 + 16777216 * u4 + 4294967296 * u5 + 1099511627776 * u6 + 281474976710656 * u7), by simp only [tj, e1, e2, e3, e4, e5, e6, e7, Nat.reduceMul, Nat.reduceAdd, Nat.reducePow]; omega⟩
  · exact ⟨128 * (u2 + 256 * u3 + 65536 * u4 + 16777216 * u5 + 4294967296 * u6 + 1099511627776 * u7), by simp only [tj, t' 0 (by omega), e2, e3, e4, e5, e6, e7, Nat.reduceMul, Nat.reduceAdd, Nat.reducePow]; omega⟩
  · exact ⟨128 * (u3 + 256 * u4 + 65536 * u5 + 16777216 * u6 + 4294967296 * u7), by simp only [tj, t' 0 (by omega), t' 1 (by omega), e3, e4, e5, e6, e7, Nat.reduceMul, Nat.reduceAdd, Nat.reducePow]; omega⟩
  · exact ⟨128 * (u4 + 256 * u5 + 65536 * u6 + 16777216 * u7), by simp only [tj, t' 0 (by omega), t' 1 (by omega), t' 2 (by omega), e4, e5, e6, e7, Nat.reduceMul, Nat.reduceAdd, Nat.reducePow]; omega⟩
  · exact ⟨128 * (u5 + 256 * u6 + 65536 * u7), by simp only [tj, t' 0 (by omega), t' 1 (by omega), t' 2 (by omega), t' 3 (by omega), e5, e6, e7, Nat.reduceMul, Nat.reduceAdd, Nat.reducePow]; omega⟩
  · exact ⟨128 * (u6 + 256 * u7), by simp only [tj, t' 0 (by omega), t' 1 (by omega), t' 2 (by omega), t' 3 (by omega), t' 4 (by omega), e6, e7, Nat.reduceMul, Nat.reduceAdd, Nat.reducePow]; omega⟩
  · exact ⟨128 * u7, by simp only [tj, t' 0 (by omega), t' 1 (by omega), t' 2 (by omega), t' 3 (by omega), t' 4 (by omega), t' 5 (by omega), e7, Nat.reduceMul, Nat.reduceAdd, Nat.reducePow]; omega⟩
  · exact ⟨0, by simp only [tj, t' 0 (by omega), t' 1 (by omega), t' 2 (by omega), t' 3 (by omega), t' 4 (by omega), t' 5 (by omega), t' 6 (by omega), Nat.reduceMul, Nat.reduceAdd, Nat.reducePow]⟩
theorem maskB_low {f : Nat → Bool} {j : Nat} (h : firstL f = some j) : maskB f ≠ 0 ∧ maskB f &&& (18446744073709551616 - maskB f) = 2 ^ (8 * j + 7) := by
  obtain ⟨m, hm⟩ := maskB_some h
  have hlt := maskB_lt f
  refine ⟨by rw [hm]; exact Nat.ne_of_gt (Nat.mul_pos (Nat.two_pow_pos _) (by omega)), ?_⟩
  have := Lib.and_neg 64 (8 * j + 7) m (by rw [← hm]; exact hlt)
  rw [← hm] at this; exact this

theorem first_none (m : Nat) (hm : m < 18446744073709551616) (h : firstL (highB m) = none) (w : World) :
    Calls Tryd.prog 97 #[.int .u64 (m : Int)] w fun e w' => e = .returned (.int .i64 (-1)) ∧ w = w' := by
  have hh := high_any m hm
  have h0 := maskB_none (firstL_none h)
  rw [h0] at hh
  clear h h0
  go_enter Tryd.func97, Tryd.ntmps97
  go_wp2_with (go_at_call 119; refine (hh _).mono ?_; rintro e w' ⟨rfl, rfl⟩)
  go_ret
  exact ⟨rfl, rfl⟩
theorem first_some (m j : Nat) (hm : m < 18446744073709551616) (h : firstL (highB m) = some j) (w : World) (hT : Tab64 w) :
    Calls Tryd.prog 97 #[.int .u64 (m : Int)] w fun e w' => e = .returned (.int .i64 (j : Int)) ∧ w = w' := by
  have hh := high_any m hm
  obtain ⟨h1, h2⟩ := maskB_low h
  have hj := (firstL_some h).1
  have ht := tz_any _ (8 * j + 7) (maskB_lt _) h1 (by omega) h2 w hT
  obtain ⟨x, hx⟩ : ∃ x, x = maskB (highB m) := ⟨_, rfl⟩
  rw [← hx] at hh ht h1
  have hz : ((x : Int) == 0) = false := by simp; omega
  have hq : ((8 * j + 7 : Nat) : Int) / 8 = j := by omega
  have hj' : ((8 * j + 7 : Nat) : Int) ≤ 63 := by omega
  have hj2 : (0 : Int) ≤ ((8 * j + 7 : Nat) : Int) := by omega
  generalize ((8 * j + 7 : Nat) : Int) = z at *
  clear h h1 h2 hx hm
  go_enter Tryd.func97, Tryd.ntmps97
  go_wp2_with (first | (go_at_call 119; refine (hh _).mono ?_; rintro e w' ⟨rfl, rfl⟩) | (go_at_call 122; refine ht.mono ?_; rintro e w' ⟨rfl, rfl⟩))
  go_ret
  exact ⟨by rw [← hq]; rfl, rfl⟩

end Go.Proofs.YtcmjddkljmfklaaDoor
