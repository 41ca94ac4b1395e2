/- The walks of package plan. Condition: the errors. -/
import Derived.Test.YtmdopococdjkcaaDoorErrNum
import Derived.Test.YtmdopococdjkcaaDoorSeq
import Derived.Test.YtmdopococdjkcaaDoorEqInts
namespace Go.Proofs.YtmdopococdjkcaaDoor
set_option linter.unusedVariables false
set_option linter.unusedSimpArgs false
open Go.RowKit Go.Proofs

theorem within19 (n m : Int) (w : World) :
    Calls Tryd.prog 16 #[.int .i64 n, .int .i64 m] w fun e w' => e = .returned (.bool (decide (1 ≤ n ∧ n ≤ m))) ∧ w = w' := by
  by_cases h1 : n < 1
  · have e := decide_eq_false (show ¬ (1 ≤ n ∧ n ≤ m) by omega)
    rw [e]
    clear e
    have e : decide (n ≥ 1) = false := by simp; omega
    go_enter Tryd.func16, Tryd.ntmps16
    go_wp2
    go_ret
    exact ⟨rfl, rfl⟩
  · by_cases h2 : m < n
    · have e := decide_eq_false (show ¬ (1 ≤ n ∧ n ≤ m) by omega)
      rw [e]
      clear e
      have e : decide (n ≥ 1) = true := by simp; omega
      have e2 : decide (n ≤ m) = false := by simp; omega
      go_enter Tryd.func16, Tryd.ntmps16
      go_wp2
      go_ret
      exact ⟨rfl, rfl⟩
    · have e := decide_eq_true (show 1 ≤ n ∧ n ≤ m by omega)
      rw [e]
      clear e
      have e : decide (n ≥ 1) = true := by simp; omega
      have e2 : decide (n ≤ m) = true := by simp; omega
      go_enter Tryd.func16, Tryd.ntmps16
      go_wp2
      go_ret
      exact ⟨rfl, rfl⟩
theorem times_yes (k l i n b : Int) (hk : 1 ≤ k ∧ k ≤ 64) (hn : 0 ≤ n ∧ n ≤ 100) (hb : 0 ≤ b ∧ b ≤ 1000) (w : World) :
    Calls Tryd.prog 17 #[.agg #[.int .i64 k, .int .i64 l, .int .i64 i], .int .i64 n, .int .i64 b] w fun e w' => e = .returned (.int .i64 (n * k + b)) ∧ Below w.heap.size w w' := by
  have h1 : 0 ≤ n * k := Int.mul_nonneg (by omega) (by omega)
  have h2 : n * k ≤ 100 * 64 := Int.mul_le_mul (by omega) (by omega) (by omega) (by omega)
  have hw := within19 k 64
  rw [decide_eq_true hk] at hw
  go_enter Tryd.func17, Tryd.ntmps17
  go_wp2_with (go_at_call 16; refine (hw _).mono ?_; rintro e w' ⟨rfl, rfl⟩)
  go_ret
  exact ⟨rfl, by go_grown⟩
theorem times_no (k l i n b : Int) (hk : ¬ (1 ≤ k ∧ k ≤ 64)) (w : World) :
    Calls Tryd.prog 17 #[.agg #[.int .i64 k, .int .i64 l, .int .i64 i], .int .i64 n, .int .i64 b] w fun e w' => e = .returned (.int .i64 0) ∧ Below w.heap.size w w' := by
  have hw := within19 k 64
  rw [decide_eq_false hk] at hw
  go_enter Tryd.func17, Tryd.ntmps17
  go_wp2_with (go_at_call 16; refine (hw _).mono ?_; rintro e w' ⟨rfl, rfl⟩)
  go_ret
  exact ⟨rfl, by go_grown⟩
/-- so many for each, and more -/
def timesZ (k n b : Int) : Int := if 1 ≤ k ∧ k ≤ 64 then n * k + b else 0
theorem times_any (k l i n b : Int) (hn : 0 ≤ n ∧ n ≤ 100) (hb : 0 ≤ b ∧ b ≤ 1000) (w : World) :
    Calls Tryd.prog 17 #[.agg #[.int .i64 k, .int .i64 l, .int .i64 i], .int .i64 n, .int .i64 b] w fun e w' => e = .returned (.int .i64 (timesZ k n b)) ∧ Below w.heap.size w w' := by
  unfold timesZ
  by_cases hk : 1 ≤ k ∧ k ≤ 64
  · rw [if_pos hk]; exact times_yes k l i n b hk hn hb w
  · rw [if_neg hk]; exact times_no k l i n b hk w
theorem own_any (k l i : Int) (w : World) :
    Calls Tryd.prog 8 #[.agg #[.int .i64 k, .int .i64 l, .int .i64 i]] w fun e w' => e = .returned (.int .i64 (timesZ k 8 0)) ∧ Below w.heap.size w w' := by
  have ht := times_any k l i 8 0 (by decide) (by decide)
  go_enter Tryd.func8, Tryd.ntmps8
  go_wp2_with (go_at_call 17; refine (ht _).mono ?_; rintro e w1 ⟨rfl, hb1⟩)
  go_ret
  exact ⟨rfl, Below.trans (by go_grown) (hb1.mono (by simp))⟩
theorem other_any (k l i : Int) (w : World) :
    Calls Tryd.prog 9 #[.agg #[.int .i64 k, .int .i64 l, .int .i64 i]] w fun e w' => e = .returned (.int .i64 (timesZ k 1 0)) ∧ Below w.heap.size w w' := by
  have ht := times_any k l i 1 0 (by decide) (by decide)
  go_enter Tryd.func9, Tryd.ntmps9
  go_wp2_with (go_at_call 17; refine (ht _).mono ?_; rintro e w1 ⟨rfl, hb1⟩)
  go_ret
  exact ⟨rfl, Below.trans (by go_grown) (hb1.mono (by simp))⟩
theorem wash_any (k l i : Int) (w : World) :
    Calls Tryd.prog 10 #[.agg #[.int .i64 k, .int .i64 l, .int .i64 i]] w fun e w' => e = .returned (.int .i64 (timesZ k 4 0)) ∧ Below w.heap.size w w' := by
  have ht := times_any k l i 4 0 (by decide) (by decide)
  go_enter Tryd.func10, Tryd.ntmps10
  go_wp2_with (go_at_call 17; refine (ht _).mono ?_; rintro e w1 ⟨rfl, hb1⟩)
  go_ret
  exact ⟨rfl, Below.trans (by go_grown) (hb1.mono (by simp))⟩
theorem units_any (k l i : Int) (w : World) :
    Calls Tryd.prog 11 #[.agg #[.int .i64 k, .int .i64 l, .int .i64 i]] w fun e w' => e = .returned (.int .i64 (timesZ k 24 160)) ∧ Below w.heap.size w w' := by
  have ht := times_any k l i 24 160 (by decide) (by decide)
  go_enter Tryd.func11, Tryd.ntmps11
  go_wp2_with (go_at_call 17; refine (ht _).mono ?_; rintro e w1 ⟨rfl, hb1⟩)
  go_ret
  exact ⟨rfl, Below.trans (by go_grown) (hb1.mono (by simp))⟩
theorem probes_any (w : World) :
    Calls Tryd.prog 13 #[] w fun e w' => e = .returned (.int .i64 194) ∧ w = w' := by
  go_enter Tryd.func13, Tryd.ntmps13
  go_wp2
  go_ret
  exact ⟨rfl, rfl⟩
/-- the configuration may be -/
def OkC (k l i : Int) : Prop := (1 ≤ k ∧ k ≤ 64) ∧ (1 ≤ l ∧ l ≤ 192) ∧ 1 ≤ i ∧ i ≤ 8
instance (k l i : Int) : Decidable (OkC k l i) := by unfold OkC; infer_instance
theorem check_yes (k l i : Int) (h : OkC k l i) (w : World) :
    Calls Tryd.prog 7 #[.agg #[.int .i64 k, .int .i64 l, .int .i64 i]] w fun e w' => e = .returned .nilIface ∧ Below w.heap.size w w' := by
  have h1 := within19 k 64
  rw [decide_eq_true h.1] at h1
  have h2 := within19 l 192
  rw [decide_eq_true h.2.1] at h2
  have h3 := within19 i 8
  rw [decide_eq_true h.2.2] at h3
  clear h
  go_enter Tryd.func7, Tryd.ntmps7
  go_wp2_with (go_at_call 16; (first | (with_reducible refine (h1 _).mono ?_) | (with_reducible refine (h2 _).mono ?_) | (with_reducible refine (h3 _).mono ?_)); rintro e w' ⟨rfl, rfl⟩)
  go_ret
  exact ⟨rfl, by go_grown⟩
theorem check_no (k l i : Int) (h : ¬ OkC k l i) (E : Nat → Addr) (w : World) (hc : w.cell? ⟨0, 0, none⟩ = some (errAt E 1)) :
    Calls Tryd.prog 7 #[.agg #[.int .i64 k, .int .i64 l, .int .i64 i]] w fun e w' => e = .returned (errAt E 1) ∧ Below w.heap.size w w' := by
  unfold errAt at *
  have h1 := within19 k 64
  have h2 := within19 l 192
  have h3 := within19 i 8
  have hg := World.block_lt_of_cell? w _ hc
  unfold OkC at h
  by_cases q1 : 1 ≤ k ∧ k ≤ 64
  · by_cases q2 : 1 ≤ l ∧ l ≤ 192
    · have q3 : ¬ (1 ≤ i ∧ i ≤ 8) := by omega
      rw [decide_eq_true q1] at h1
      rw [decide_eq_true q2] at h2
      rw [decide_eq_false q3] at h3
      clear h q1 q2 q3
      go_enter Tryd.func7, Tryd.ntmps7
      go_wp2_with (go_at_call 16; (first | (with_reducible refine (h1 _).mono ?_) | (with_reducible refine (h2 _).mono ?_) | (with_reducible refine (h3 _).mono ?_)); rintro e w' ⟨rfl, rfl⟩)
      go_ret
      exact ⟨rfl, by go_grown⟩
    · rw [decide_eq_true q1] at h1
      rw [decide_eq_false q2] at h2
      clear h q1 q2
      go_enter Tryd.func7, Tryd.ntmps7
      go_wp2_with (go_at_call 16; (first | (with_reducible refine (h1 _).mono ?_) | (with_reducible refine (h2 _).mono ?_) | (with_reducible refine (h3 _).mono ?_)); rintro e w' ⟨rfl, rfl⟩)
      go_ret
      exact ⟨rfl, by go_grown⟩
  · rw [decide_eq_false q1] at h1
    clear h q1
    go_enter Tryd.func7, Tryd.ntmps7
    go_wp2_with (go_at_call 16; (first | (with_reducible refine (h1 _).mono ?_) | (with_reducible refine (h2 _).mono ?_) | (with_reducible refine (h3 _).mono ?_)); rintro e w' ⟨rfl, rfl⟩)
    go_ret
    exact ⟨rfl, by go_grown⟩
end Go.Proofs.YtmdopococdjkcaaDoor
