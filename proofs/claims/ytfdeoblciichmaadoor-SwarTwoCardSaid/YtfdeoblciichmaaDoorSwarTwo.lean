/- The walk of SwarTwo. Condition: the table of math/bits. -/
import Derived.Test.YtfdeoblciichmaaDoorSwarFirst
namespace Go.Proofs.YtfdeoblciichmaaDoor
set_option linter.unusedVariables false
set_option linter.unusedSimpArgs false
open Go.RowKit Go.Proofs

theorem mod8 (x : Int) : ∃ A : Nat, A < 8 ∧ IntKind.i64.wrap ((IntKind.u64.wrap x).tmod 8) = (A : Int) := by
  have h0 : 0 ≤ IntKind.u64.wrap x := by rw [IntKind.wrap_u64]; omega
  have h1 := Int.emod_nonneg (IntKind.u64.wrap x) (show (8 : Int) ≠ 0 by decide)
  have h2 := Int.emod_lt_of_pos (IntKind.u64.wrap x) (show (0 : Int) < 8 by decide)
  obtain ⟨A, hA⟩ := Int.eq_ofNat_of_zero_le h1
  refine ⟨A, by omega, ?_⟩
  rw [Int.tmod_eq_emod_of_nonneg h0, hA]
  exact IntWalk.i64_in _ (by omega)

theorem mask_bit (f : Nat → Bool) (l : Nat) (hl : l < 8) : bits .and .u64 ((maskB f : Int) / 2 ^ (8 * l + 7)) 1 = if f l then 1 else 0 := by
  have hlt := maskB_lt f
  have hd : maskB f / 2 ^ (8 * l + 7) < 18446744073709551616 := Nat.lt_of_le_of_lt (Nat.div_le_self _ _) hlt
  have e1 : ((maskB f : Nat) : Int) / 2 ^ (8 * l + 7) = ((maskB f / 2 ^ (8 * l + 7) : Nat) : Int) := by rw [Int.natCast_ediv, Int.natCast_pow]; rfl
  rw [e1, show (1 : Int) = ((1 : Nat) : Int) from rfl, bits_and_u64_nat _ 1 hd (by decide), Nat.and_one_is_mod]
  have h2 : maskB f / 2 ^ (8 * l + 7) % 2 = ln (maskB f) l / 128 := by
    unfold ln
    rw [Nat.pow_add, ← Nat.div_div_eq_div_mul]
    generalize maskB f / 2 ^ (8 * l) = q
    omega
  rw [h2, ln_maskB f l hl]
  cases f l <;> rfl

theorem set_set (w i j b c : Nat) (hb : b < 256) (hc : c < 256) (h : i ≠ j) : setL (setL w i b) j c = setL (setL w j c) i b := by
  refine ln_ext (setL_lt _ _ _ hc) (setL_lt _ _ _ hb) fun k hk => ?_
  rw [ln_setL _ _ _ _ hc hk, ln_setL _ _ _ _ hb hk, ln_setL _ _ _ _ hb hk, ln_setL _ _ _ _ hc hk]
  by_cases h1 : k = i <;> by_cases h2 : k = j <;> simp_all
theorem set_again (w i b c : Nat) (hb : b < 256) (hc : c < 256) : setL (setL w i b) i c = setL w i c := by
  refine ln_ext (setL_lt _ _ _ hc) (setL_lt _ _ _ hc) fun k hk => ?_
  rw [ln_setL _ _ _ _ hc hk, ln_setL _ _ _ _ hc hk, ln_setL _ _ _ _ hb hk]
  by_cases h1 : k = i <;> simp_all

/-- what is asked of lane k in the loop -/
theorem round_facts (X c k : Nat) (hk : k < 8) : bits .and .u64 ((maskB (equalB X c) : Int) / 2 ^ (8 * k + 7)) 1 = (if ln X k = c then 1 else 0) ∧
    bits .and .u64 ((maskB (equalB X (ln X k)) : Int) / 2 ^ (8 * k + 7)) 1 = 1 := by
  rw [mask_bit _ k hk, mask_bit _ k hk]
  exact ⟨by unfold equalB; simp, by unfold equalB; simp⟩

set_option maxRecDepth 100000 in
set_option maxHeartbeats 4000000 in
theorem swarTwo_any (m : Nat) (x y : Int) (b c : Nat) (hm : m < 18446744073709551616) (hb : b < 256) (hc : c < 256) (w : World) (hT : Tab64 w) :
    Calls Tryd.prog 3 #[.int .u64 (m : Int), .agg #[.int .i64 x, .int .i64 y], .agg #[.int .u8 (b : Int), .int .u8 (c : Int)]] w fun e w' => e = .returned (.bool true) ∧ Below w.heap.size w w' := by
  obtain ⟨i, hi, ei⟩ := mod8 x
  obtain ⟨j, hj, ej⟩ := mod8 y
  have HA := fun (w' : World) (h : Below w.heap.size w w') => alive01_any w' (hT.below h)
  replace HA := Lib.hid HA
  have W1 := with_in m i b hm hi hb
  have W2 := with_in (setL m i b) j c (setL_lt _ _ _ hb) hj hc
  have W3 := with_in m j c hm hj hc
  have W4 := with_in (setL m j c) i b (setL_lt _ _ _ hc) hi hb
  have hXlt := setL_lt (setL m i b) j c hc
  have hsame : i = j → setL m j c = setL (setL m i b) j c := fun e => by subst e; exact (set_again m i b c hb hc).symm
  have hdiff : i ≠ j → setL (setL m j c) i b = setL (setL m i b) j c := fun e => (set_set m i j b c hb hc e).symm
  obtain ⟨X, hX⟩ : ∃ X, X = setL (setL m i b) j c := ⟨_, rfl⟩
  rw [← hX] at W2 hXlt hsame hdiff
  clear hX hT
  have E1 := equal_any X c hXlt hc
  have RF := fun k hk => round_facts X c k hk
  have E2 := fun k => equal_any X (ln X k) hXlt (ln_lt X k)
  have LN := fun k hk => lane_in X k hXlt hk
  have LT := fun k => ln_lt X k
  replace RF := Lib.hid RF; replace LT := Lib.hid LT
  by_cases hij : i = j
  · subst hij
    rw [hsame rfl] at W3
    have hs := Lib.hid (hsame rfl)
    have W4' : ∀ w : World, Calls Tryd.prog 8 #[.int .u64 (X : Int), .int .i64 (i : Int), .int .u8 (b : Int)] w fun e w' => e = .returned (.int .u64 ((setL X i b : Nat) : Int)) ∧ w.drewN 1 = w' := with_in X i b hXlt hi hb
    replace W1 := Lib.hid W1; replace W2 := Lib.hid W2; replace W3 := Lib.hid W3; replace W4' := Lib.hid W4'; replace LN := Lib.hid LN; replace E1 := Lib.hid E1; replace E2 := Lib.hid E2
    clear hsame hdiff W4
    go_enter Tryd.func3, Tryd.ntmps3
    go_wp2_with (go_at_call 7; refine (HA.out _ (by go_grown)).mono ?_; rintro e w' ⟨rfl, rfl⟩)
    refine wp_region_seq (fun _ => False) #[⟨0, 0, 131072, 16, 0⟩, ⟨1, 1, 262144, 131072, 1⟩, ⟨2, 3, 524288, 262144, 0⟩, ⟨4, 7, 1048576, 524288, 0⟩, ⟨8, 15, 2097152, 1048576, 0⟩, ⟨0, 0, 4194304, 16, 0⟩, ⟨32, 32, 8388608, 4194304, 1⟩, ⟨64, 96, 16777216, 8388608, 0⟩, ⟨128, 224, 33554432, 16777216, 0⟩, ⟨256, 480, 67108864, 33554432, 0⟩, ⟨31, 31, 128, 2097152, 0⟩, ⟨2047, 2047, 256, 67108864, 0⟩] 66 [(0, 0), (1, 1), (2, 0), (3, 0), (4, 0), (5, 0), (6, 1), (7, 0), (8, 0), (9, 0), (10, 0), (11, 0)] (by kernel_rfl) (by kernel_rfl) (by kernel_rfl) (by kernel_rfl) (by kernel_rfl) (by kernel_rfl) (fun c a d v w h => by cases d <;> exact h) ?_
    refine seq_calc (by simp only [List.getElem?_toArray, List.getElem?_cons_succ, List.getElem?_cons_zero]; rfl) (by rfl) (fun u => by go_simp <;> with_reducible rfl) ?_
    try simp only [Act.put, List.setIfInBounds_toArray, List.set_cons_zero, List.set_cons_succ]
    refine seq_load1 (by simp only [List.getElem?_toArray, List.getElem?_cons_succ, List.getElem?_cons_zero]; rfl) (by rfl) rfl rfl Tryd.underlying3 rfl (by go_simp <;> with_reducible rfl) (by first | exact id | assumption | (simp; done) | (simp; omega)) ?_
    try simp only [Act.put, List.setIfInBounds_toArray, List.set_cons_zero, List.set_cons_succ]
    refine seq_calc (by simp only [List.getElem?_toArray, List.getElem?_cons_succ, List.getElem?_cons_zero]; rfl) (by rfl) (fun u => by go_simp <;> with_reducible rfl) ?_
    try simp only [Act.put, List.setIfInBounds_toArray, List.set_cons_zero, List.set_cons_succ]
    refine seq_calc (by simp only [List.getElem?_toArray, List.getElem?_cons_succ, List.getElem?_cons_zero]; rfl) (by rfl) (fun u => by go_simp <;> with_reducible rfl) ?_
    try simp only [Act.put, List.setIfInBounds_toArray, List.set_cons_zero, List.set_cons_succ]
    refine seq_calc (by simp only [List.getElem?_toArray, List.getElem?_cons_succ, List.getElem?_cons_zero]; rfl) (by rfl) (fun u => by go_simp <;> with_reducible rfl) ?_
    try simp only [Act.put, List.setIfInBounds_toArray, List.set_cons_zero, List.set_cons_succ]
    refine seq_calc (by simp only [List.getElem?_toArray, List.getElem?_cons_succ, List.getElem?_cons_zero]; rfl) (by rfl) (fun u => by go_simp <;> with_reducible rfl) ?_
    try simp only [Act.put, List.setIfInBounds_toArray, List.set_cons_zero, List.set_cons_succ]
    refine seq_load1 (by simp only [List.getElem?_toArray, List.getElem?_cons_succ, List.getElem?_cons_zero]; rfl) (by rfl) rfl rfl Tryd.underlying3 rfl (by go_simp <;> with_reducible rfl) (by first | exact id | assumption | (simp; done) | (simp; omega)) ?_
    try simp only [Act.put, List.setIfInBounds_toArray, List.set_cons_zero, List.set_cons_succ]
    refine seq_calc (by simp only [List.getElem?_toArray, List.getElem?_cons_succ, List.getElem?_cons_zero]; rfl) (by rfl) (fun u => by go_simp <;> with_reducible rfl) ?_
    try simp only [Act.put, List.setIfInBounds_toArray, List.set_cons_zero, List.set_cons_succ]
    refine seq_calc (by simp only [List.getElem?_toArray, List.getElem?_cons_succ, List.getElem?_cons_zero]; rfl) (by rfl) (fun u => by go_simp <;> with_reducible rfl) ?_
    try simp only [Act.put, List.setIfInBounds_toArray, List.set_cons_zero, List.set_cons_succ]
    refine seq_calc (by simp only [List.getElem?_toArray, List.getElem?_cons_succ, List.getElem?_cons_zero]; rfl) (by rfl) (fun u => by go_simp <;> with_reducible rfl) ?_
    try simp only [Act.put, List.setIfInBounds_toArray, List.set_cons_zero, List.set_cons_succ]
    refine seq_calc (by simp only [List.getElem?_toArray, List.getElem?_cons_succ, List.getElem?_cons_zero]; rfl) (by rfl) (fun u => by go_simp <;> with_reducible rfl) ?_
    try simp only [Act.put, List.setIfInBounds_toArray, List.set_cons_zero, List.set_cons_succ]
    refine seq_calc (by simp only [List.getElem?_toArray, List.getElem?_cons_succ, List.getElem?_cons_zero]; rfl) (by rfl) (fun u => by go_simp <;> with_reducible rfl) ?_
    try simp only [Act.put, List.setIfInBounds_toArray, List.set_cons_zero, List.set_cons_succ]
    refine seq_nil ?_
    go_wp2
    try simp only [ei, ej]
    refine wp_region_seq (fun _ => False) #[⟨0, 0, 134217728, 1, 0⟩, ⟨0, 0, 268435456, 128, 0⟩, ⟨0, 0, 536870912, 32, 0⟩, ⟨4, 4, 1073741824, 536870912, 1⟩, ⟨11, 15, 2147483648, 1476395008, 2⟩, ⟨0, 0, 4294967296, 256, 0⟩, ⟨0, 0, 8589934592, 32, 0⟩, ⟨64, 64, 17179869184, 8589934592, 1⟩, ⟨176, 255, 34359738368, 23622320128, 3⟩, ⟨511, 511, 512, 34359738368, 0⟩] 136 [(0, 0), (1, 0), (2, 0), (3, 1), (5, 0), (6, 0), (7, 1), (4, 2), (8, 3), (9, 0)] (by kernel_rfl) (by kernel_rfl) (by kernel_rfl) (by kernel_rfl) (by kernel_rfl) (by kernel_rfl) (fun c a d v w h => by cases d <;> exact h) ?_
    refine seq_calc (by simp only [List.getElem?_toArray, List.getElem?_cons_succ, List.getElem?_cons_zero]; rfl) (by rfl) (fun u => by go_simp <;> with_reducible rfl) ?_
    try simp only [Act.put, List.setIfInBounds_toArray, List.set_cons_zero, List.set_cons_succ]
    refine seq_calc (by simp only [List.getElem?_toArray, List.getElem?_cons_succ, List.getElem?_cons_zero]; rfl) (by rfl) (fun u => by go_simp <;> with_reducible rfl) ?_
    try simp only [Act.put, List.setIfInBounds_toArray, List.set_cons_zero, List.set_cons_succ]
    refine seq_calc (by simp only [List.getElem?_toArray, List.getElem?_cons_succ, List.getElem?_cons_zero]; rfl) (by rfl) (fun u => by go_simp <;> with_reducible rfl) ?_
    try simp only [Act.put, List.setIfInBounds_toArray, List.set_cons_zero, List.set_cons_succ]
    refine seq_load1 (by simp only [List.getElem?_toArray, List.getElem?_cons_succ, List.getElem?_cons_zero]; rfl) (by rfl) rfl rfl Tryd.underlying5 rfl (by go_simp <;> with_reducible rfl) (by first | exact id | assumption | (simp; done) | (simp; omega)) ?_
    try simp only [Act.put, List.setIfInBounds_toArray, List.set_cons_zero, List.set_cons_succ]
    refine seq_calc (by simp only [List.getElem?_toArray, List.getElem?_cons_succ, List.getElem?_cons_zero]; rfl) (by rfl) (fun u => by go_simp <;> with_reducible rfl) ?_
    try simp only [Act.put, List.setIfInBounds_toArray, List.set_cons_zero, List.set_cons_succ]
    refine seq_calc (by simp only [List.getElem?_toArray, List.getElem?_cons_succ, List.getElem?_cons_zero]; rfl) (by rfl) (fun u => by go_simp <;> with_reducible rfl) ?_
    try simp only [Act.put, List.setIfInBounds_toArray, List.set_cons_zero, List.set_cons_succ]
    refine seq_load1 (by simp only [List.getElem?_toArray, List.getElem?_cons_succ, List.getElem?_cons_zero]; rfl) (by rfl) rfl rfl Tryd.underlying5 rfl (by go_simp <;> with_reducible rfl) (by first | exact id | assumption | (simp; done) | (simp; omega)) ?_
    try simp only [Act.put, List.setIfInBounds_toArray, List.set_cons_zero, List.set_cons_succ]
    refine seq_do (by simp only [List.getElem?_toArray, List.getElem?_cons_succ, List.getElem?_cons_zero]; rfl) (by rfl) (fun K hK => ?_); go_wp2_with (go_at_call 8; (first | (with_reducible refine (W1.out _).mono ?_) | (with_reducible refine (W2.out _).mono ?_)); rintro e w' ⟨rfl, rfl⟩); refine hK.out _ _ (by first | (with_reducible exact Chg.refl _ _) | (with_reducible assumption) | (refine Chg.of_below ?_; with_reducible assumption) | (with_reducible exact (Chg.refl _ _).alloc _) | (with_reducible exact (Chg.refl _ _).drewN _) | (with_reducible exact (Chg.refl _ _).drew) | exact ⟨rfl, rfl, rfl, Nat.le_refl _, fun _ _ _ => rfl⟩) ?_; clear hK K
    try simp only [Act.put, List.setIfInBounds_toArray, List.set_cons_zero, List.set_cons_succ]
    refine seq_last (by simp only [List.getElem?_toArray, List.getElem?_cons_succ, List.getElem?_cons_zero]; rfl) (by rfl) (fun K hK => ?_); go_wp2_with (go_at_call 8; (first | (with_reducible refine (W1.out _).mono ?_) | (with_reducible refine (W2.out _).mono ?_)); rintro e w' ⟨rfl, rfl⟩); refine hK.out _ _ ?_; clear hK K
    try simp only [Act.put, List.setIfInBounds_toArray, List.set_cons_zero, List.set_cons_succ]
    refine seq_calc (by simp only [List.getElem?_toArray, List.getElem?_cons_succ, List.getElem?_cons_zero]; rfl) (by rfl) (fun u => by go_simp <;> with_reducible rfl) ?_
    try simp only [Act.put, List.setIfInBounds_toArray, List.set_cons_zero, List.set_cons_succ]
    refine seq_nil ?_
    go_wp2
    refine wp_region_seq (fun _ => False) #[⟨0, 0, 68719476736, 1, 0⟩, ⟨0, 0, 137438953472, 256, 0⟩, ⟨0, 0, 274877906944, 32, 0⟩, ⟨4, 4, 549755813888, 274877906944, 1⟩, ⟨11, 15, 1099511627776, 755914244096, 2⟩, ⟨0, 0, 2199023255552, 128, 0⟩, ⟨0, 0, 4398046511104, 32, 0⟩, ⟨64, 64, 8796093022208, 4398046511104, 1⟩, ⟨176, 255, 17592186044416, 12094627905536, 3⟩, ⟨511, 511, 1024, 17592186044416, 0⟩] 136 [(0, 0), (1, 0), (2, 0), (3, 1), (5, 0), (6, 0), (7, 1), (4, 2), (8, 3), (9, 0)] (by kernel_rfl) (by kernel_rfl) (by kernel_rfl) (by kernel_rfl) (by kernel_rfl) (by kernel_rfl) (fun c a d v w h => by cases d <;> exact h) ?_
    refine seq_calc (by simp only [List.getElem?_toArray, List.getElem?_cons_succ, List.getElem?_cons_zero]; rfl) (by rfl) (fun u => by go_simp <;> with_reducible rfl) ?_
    try simp only [Act.put, List.setIfInBounds_toArray, List.set_cons_zero, List.set_cons_succ]
    refine seq_calc (by simp only [List.getElem?_toArray, List.getElem?_cons_succ, List.getElem?_cons_zero]; rfl) (by rfl) (fun u => by go_simp <;> with_reducible rfl) ?_
    try simp only [Act.put, List.setIfInBounds_toArray, List.set_cons_zero, List.set_cons_succ]
    refine seq_calc (by simp only [List.getElem?_toArray, List.getElem?_cons_succ, List.getElem?_cons_zero]; rfl) (by rfl) (fun u => by go_simp <;> with_reducible rfl) ?_
    try simp only [Act.put, List.setIfInBounds_toArray, List.set_cons_zero, List.set_cons_succ]
    refine seq_load1 (by simp only [List.getElem?_toArray, List.getElem?_cons_succ, List.getElem?_cons_zero]; rfl) (by rfl) rfl rfl Tryd.underlying5 rfl (by go_simp <;> with_reducible rfl) (by first | exact id | assumption | (simp; done) | (simp; omega)) ?_
    try simp only [Act.put, List.setIfInBounds_toArray, List.set_cons_zero, List.set_cons_succ]
    refine seq_calc (by simp only [List.getElem?_toArray, List.getElem?_cons_succ, List.getElem?_cons_zero]; rfl) (by rfl) (fun u => by go_simp <;> with_reducible rfl) ?_
    try simp only [Act.put, List.setIfInBounds_toArray, List.set_cons_zero, List.set_cons_succ]
    refine seq_calc (by simp only [List.getElem?_toArray, List.getElem?_cons_succ, List.getElem?_cons_zero]; rfl) (by rfl) (fun u => by go_simp <;> with_reducible rfl) ?_
    try simp only [Act.put, List.setIfInBounds_toArray, List.set_cons_zero, List.set_cons_succ]
    refine seq_load1 (by simp only [List.getElem?_toArray, List.getElem?_cons_succ, List.getElem?_cons_zero]; rfl) (by rfl) rfl rfl Tryd.underlying5 rfl (by go_simp <;> with_reducible rfl) (by first | exact id | assumption | (simp; done) | (simp; omega)) ?_
    try simp only [Act.put, List.setIfInBounds_toArray, List.set_cons_zero, List.set_cons_succ]
    refine seq_do (by simp only [List.getElem?_toArray, List.getElem?_cons_succ, List.getElem?_cons_zero]; rfl) (by rfl) (fun K hK => ?_); go_wp2_with (go_at_call 8; (first | (with_reducible refine (W3.out _).mono ?_) | (with_reducible refine (W4'.out _).mono ?_)); rintro e w' ⟨rfl, rfl⟩); refine hK.out _ _ (by first | (with_reducible exact Chg.refl _ _) | (with_reducible assumption) | (refine Chg.of_below ?_; with_reducible assumption) | (with_reducible exact (Chg.refl _ _).alloc _) | (with_reducible exact (Chg.refl _ _).drewN _) | (with_reducible exact (Chg.refl _ _).drew) | exact ⟨rfl, rfl, rfl, Nat.le_refl _, fun _ _ _ => rfl⟩) ?_; clear hK K
    try simp only [Act.put, List.setIfInBounds_toArray, List.set_cons_zero, List.set_cons_succ]
    refine seq_last (by simp only [List.getElem?_toArray, List.getElem?_cons_succ, List.getElem?_cons_zero]; rfl) (by rfl) (fun K hK => ?_); go_wp2_with (go_at_call 8; (first | (with_reducible refine (W3.out _).mono ?_) | (with_reducible refine (W4'.out _).mono ?_)); rintro e w' ⟨rfl, rfl⟩); refine hK.out _ _ ?_; clear hK K
    try simp only [Act.put, List.setIfInBounds_toArray, List.set_cons_zero, List.set_cons_succ]
    refine seq_calc (by simp only [List.getElem?_toArray, List.getElem?_cons_succ, List.getElem?_cons_zero]; rfl) (by rfl) (fun u => by go_simp <;> with_reducible rfl) ?_
    try simp only [Act.put, List.setIfInBounds_toArray, List.set_cons_zero, List.set_cons_succ]
    refine seq_nil ?_
    go_wp2_with (go_at_call 8; refine (W3.out _).mono ?_; rintro e w' ⟨rfl, rfl⟩)
    go_loop [67] (fun v => ∃ k : Nat, k ≤ 8 ∧ v = .int .i64 (k : Int)) (fun v => 8 - (intOf v).toNat)
    case atStart => exact ⟨0, by omega, rfl⟩
    case round =>
      obtain ⟨k, hk, rfl⟩ := hrel
      by_cases hlt : k < 8
      · obtain ⟨r1, r2⟩ := RF.out k hlt
        have l1 := LN.out k hlt
        have l2 := E2.out k
        generalize ln X k = L at r1 r2 l1 l2
        replace l1 := Lib.hid l1; replace l2 := Lib.hid l2
        by_cases hq : L = c
        · have q1 : ((L : Int) == (c : Int)) = true := by simp; omega
          rw [if_pos hq] at r1
          replace hq := Lib.hid hq
          go_wp2_with (first | (go_at_call 9; refine (l1.out _).mono ?_; rintro e w' ⟨rfl, rfl⟩) | (go_at_call 10; (first | (with_reducible refine (E1.out _).mono ?_) | (with_reducible refine (l2.out _).mono ?_)); rintro e w' ⟨rfl, rfl⟩))
          go_round
          case rel => exact ⟨k + 1, by omega, by go_num⟩
          case measure => simp [intOf]; omega
        · have q1 : ((L : Int) == (c : Int)) = false := by simp; omega
          rw [if_neg hq] at r1
          replace hq := Lib.hid hq
          go_wp2_with (first | (go_at_call 9; refine (l1.out _).mono ?_; rintro e w' ⟨rfl, rfl⟩) | (go_at_call 10; (first | (with_reducible refine (E1.out _).mono ?_) | (with_reducible refine (l2.out _).mono ?_)); rintro e w' ⟨rfl, rfl⟩))
          go_round
          case rel => exact ⟨k + 1, by omega, by go_num⟩
          case measure => simp [intOf]; omega
      · obtain rfl : k = 8 := by omega
        go_wp2
        go_ret
        exact ⟨by rfl, below_drewN (by go_grown) _⟩
  · have W4' := W4
    rw [hdiff hij] at W4'
    have hn : ((i : Int) == (j : Int)) = false := by simp; omega
    have hn' : ((i : Int) != (j : Int)) = true := by simp; omega
    replace W1 := Lib.hid W1; replace W2 := Lib.hid W2; replace W3 := Lib.hid W3; replace W4' := Lib.hid W4'; replace LN := Lib.hid LN; replace E1 := Lib.hid E1; replace E2 := Lib.hid E2
    clear hsame hdiff W4
    go_enter Tryd.func3, Tryd.ntmps3
    go_wp2_with (go_at_call 7; refine (HA.out _ (by go_grown)).mono ?_; rintro e w' ⟨rfl, rfl⟩)
    refine wp_region_seq (fun _ => False) #[⟨0, 0, 131072, 16, 0⟩, ⟨1, 1, 262144, 131072, 1⟩, ⟨2, 3, 524288, 262144, 0⟩, ⟨4, 7, 1048576, 524288, 0⟩, ⟨8, 15, 2097152, 1048576, 0⟩, ⟨0, 0, 4194304, 16, 0⟩, ⟨32, 32, 8388608, 4194304, 1⟩, ⟨64, 96, 16777216, 8388608, 0⟩, ⟨128, 224, 33554432, 16777216, 0⟩, ⟨256, 480, 67108864, 33554432, 0⟩, ⟨31, 31, 128, 2097152, 0⟩, ⟨2047, 2047, 256, 67108864, 0⟩] 66 [(0, 0), (1, 1), (2, 0), (3, 0), (4, 0), (5, 0), (6, 1), (7, 0), (8, 0), (9, 0), (10, 0), (11, 0)] (by kernel_rfl) (by kernel_rfl) (by kernel_rfl) (by kernel_rfl) (by kernel_rfl) (by kernel_rfl) (fun c a d v w h => by cases d <;> exact h) ?_
    refine seq_calc (by simp only [List.getElem?_toArray, List.getElem?_cons_succ, List.getElem?_cons_zero]; rfl) (by rfl) (fun u => by go_simp <;> with_reducible rfl) ?_
    try simp only [Act.put, List.setIfInBounds_toArray, List.set_cons_zero, List.set_cons_succ]
    refine seq_load1 (by simp only [List.getElem?_toArray, List.getElem?_cons_succ, List.getElem?_cons_zero]; rfl) (by rfl) rfl rfl Tryd.underlying3 rfl (by go_simp <;> with_reducible rfl) (by first | exact id | assumption | (simp; done) | (simp; omega)) ?_
    try simp only [Act.put, List.setIfInBounds_toArray, List.set_cons_zero, List.set_cons_succ]
    refine seq_calc (by simp only [List.getElem?_toArray, List.getElem?_cons_succ, List.getElem?_cons_zero]; rfl) (by rfl) (fun u => by go_simp <;> with_reducible rfl) ?_
    try simp only [Act.put, List.setIfInBounds_toArray, List.set_cons_zero, List.set_cons_succ]
    refine seq_calc (by simp only [List.getElem?_toArray, List.getElem?_cons_succ, List.getElem?_cons_zero]; rfl) (by rfl) (fun u => by go_simp <;> with_reducible rfl) ?_
    try simp only [Act.put, List.setIfInBounds_toArray, List.set_cons_zero, List.set_cons_succ]
    refine seq_calc (by simp only [List.getElem?_toArray, List.getElem?_cons_succ, List.getElem?_cons_zero]; rfl) (by rfl) (fun u => by go_simp <;> with_reducible rfl) ?_
    try simp only [Act.put, List.setIfInBounds_toArray, List.set_cons_zero, List.set_cons_succ]
    refine seq_calc (by simp only [List.getElem?_toArray, List.getElem?_cons_succ, List.getElem?_cons_zero]; rfl) (by rfl) (fun u => by go_simp <;> with_reducible rfl) ?_
    try simp only [Act.put, List.setIfInBounds_toArray, List.set_cons_zero, List.set_cons_succ]
    refine seq_load1 (by simp only [List.getElem?_toArray, List.getElem?_cons_succ, List.getElem?_cons_zero]; rfl) (by rfl) rfl rfl Tryd.underlying3 rfl (by go_simp <;> with_reducible rfl) (by first | exact id | assumption | (simp; done) | (simp; omega)) ?_
    try simp only [Act.put, List.setIfInBounds_toArray, List.set_cons_zero, List.set_cons_succ]
    refine seq_calc (by simp only [List.getElem?_toArray, List.getElem?_cons_succ, List.getElem?_cons_zero]; rfl) (by rfl) (fun u => by go_simp <;> with_reducible rfl) ?_
    try simp only [Act.put, List.setIfInBounds_toArray, List.set_cons_zero, List.set_cons_succ]
    refine seq_calc (by simp only [List.getElem?_toArray, List.getElem?_cons_succ, List.getElem?_cons_zero]; rfl) (by rfl) (fun u => by go_simp <;> with_reducible rfl) ?_
    try simp only [Act.put, List.setIfInBounds_toArray, List.set_cons_zero, List.set_cons_succ]
    refine seq_calc (by simp only [List.getElem?_toArray, List.getElem?_cons_succ, List.getElem?_cons_zero]; rfl) (by rfl) (fun u => by go_simp <;> with_reducible rfl) ?_
    try simp only [Act.put, List.setIfInBounds_toArray, List.set_cons_zero, List.set_cons_succ]
    refine seq_calc (by simp only [List.getElem?_toArray, List.getElem?_cons_succ, List.getElem?_cons_zero]; rfl) (by rfl) (fun u => by go_simp <;> with_reducible rfl) ?_
    try simp only [Act.put, List.setIfInBounds_toArray, List.set_cons_zero, List.set_cons_succ]
    refine seq_calc (by simp only [List.getElem?_toArray, List.getElem?_cons_succ, List.getElem?_cons_zero]; rfl) (by rfl) (fun u => by go_simp <;> with_reducible rfl) ?_
    try simp only [Act.put, List.setIfInBounds_toArray, List.set_cons_zero, List.set_cons_succ]
    refine seq_nil ?_
    go_wp2
    try simp only [ei, ej]
    refine wp_region_seq (fun _ => False) #[⟨0, 0, 134217728, 1, 0⟩, ⟨0, 0, 268435456, 128, 0⟩, ⟨0, 0, 536870912, 32, 0⟩, ⟨4, 4, 1073741824, 536870912, 1⟩, ⟨11, 15, 2147483648, 1476395008, 2⟩, ⟨0, 0, 4294967296, 256, 0⟩, ⟨0, 0, 8589934592, 32, 0⟩, ⟨64, 64, 17179869184, 8589934592, 1⟩, ⟨176, 255, 34359738368, 23622320128, 3⟩, ⟨511, 511, 512, 34359738368, 0⟩] 136 [(0, 0), (1, 0), (2, 0), (3, 1), (5, 0), (6, 0), (7, 1), (4, 2), (8, 3), (9, 0)] (by kernel_rfl) (by kernel_rfl) (by kernel_rfl) (by kernel_rfl) (by kernel_rfl) (by kernel_rfl) (fun c a d v w h => by cases d <;> exact h) ?_
    refine seq_calc (by simp only [List.getElem?_toArray, List.getElem?_cons_succ, List.getElem?_cons_zero]; rfl) (by rfl) (fun u => by go_simp <;> with_reducible rfl) ?_
    try simp only [Act.put, List.setIfInBounds_toArray, List.set_cons_zero, List.set_cons_succ]
    refine seq_calc (by simp only [List.getElem?_toArray, List.getElem?_cons_succ, List.getElem?_cons_zero]; rfl) (by rfl) (fun u => by go_simp <;> with_reducible rfl) ?_
    try simp only [Act.put, List.setIfInBounds_toArray, List.set_cons_zero, List.set_cons_succ]
    refine seq_calc (by simp only [List.getElem?_toArray, List.getElem?_cons_succ, List.getElem?_cons_zero]; rfl) (by rfl) (fun u => by go_simp <;> with_reducible rfl) ?_
    try simp only [Act.put, List.setIfInBounds_toArray, List.set_cons_zero, List.set_cons_succ]
    refine seq_load1 (by simp only [List.getElem?_toArray, List.getElem?_cons_succ, List.getElem?_cons_zero]; rfl) (by rfl) rfl rfl Tryd.underlying5 rfl (by go_simp <;> with_reducible rfl) (by first | exact id | assumption | (simp; done) | (simp; omega)) ?_
    try simp only [Act.put, List.setIfInBounds_toArray, List.set_cons_zero, List.set_cons_succ]
    refine seq_calc (by simp only [List.getElem?_toArray, List.getElem?_cons_succ, List.getElem?_cons_zero]; rfl) (by rfl) (fun u => by go_simp <;> with_reducible rfl) ?_
    try simp only [Act.put, List.setIfInBounds_toArray, List.set_cons_zero, List.set_cons_succ]
    refine seq_calc (by simp only [List.getElem?_toArray, List.getElem?_cons_succ, List.getElem?_cons_zero]; rfl) (by rfl) (fun u => by go_simp <;> with_reducible rfl) ?_
    try simp only [Act.put, List.setIfInBounds_toArray, List.set_cons_zero, List.set_cons_succ]
    refine seq_load1 (by simp only [List.getElem?_toArray, List.getElem?_cons_succ, List.getElem?_cons_zero]; rfl) (by rfl) rfl rfl Tryd.underlying5 rfl (by go_simp <;> with_reducible rfl) (by first | exact id | assumption | (simp; done) | (simp; omega)) ?_
    try simp only [Act.put, List.setIfInBounds_toArray, List.set_cons_zero, List.set_cons_succ]
    refine seq_do (by simp only [List.getElem?_toArray, List.getElem?_cons_succ, List.getElem?_cons_zero]; rfl) (by rfl) (fun K hK => ?_); go_wp2_with (go_at_call 8; (first | (with_reducible refine (W1.out _).mono ?_) | (with_reducible refine (W2.out _).mono ?_)); rintro e w' ⟨rfl, rfl⟩); refine hK.out _ _ (by first | (with_reducible exact Chg.refl _ _) | (with_reducible assumption) | (refine Chg.of_below ?_; with_reducible assumption) | (with_reducible exact (Chg.refl _ _).alloc _) | (with_reducible exact (Chg.refl _ _).drewN _) | (with_reducible exact (Chg.refl _ _).drew) | exact ⟨rfl, rfl, rfl, Nat.le_refl _, fun _ _ _ => rfl⟩) ?_; clear hK K
    try simp only [Act.put, List.setIfInBounds_toArray, List.set_cons_zero, List.set_cons_succ]
    refine seq_last (by simp only [List.getElem?_toArray, List.getElem?_cons_succ, List.getElem?_cons_zero]; rfl) (by rfl) (fun K hK => ?_); go_wp2_with (go_at_call 8; (first | (with_reducible refine (W1.out _).mono ?_) | (with_reducible refine (W2.out _).mono ?_)); rintro e w' ⟨rfl, rfl⟩); refine hK.out _ _ ?_; clear hK K
    try simp only [Act.put, List.setIfInBounds_toArray, List.set_cons_zero, List.set_cons_succ]
    refine seq_calc (by simp only [List.getElem?_toArray, List.getElem?_cons_succ, List.getElem?_cons_zero]; rfl) (by rfl) (fun u => by go_simp <;> with_reducible rfl) ?_
    try simp only [Act.put, List.setIfInBounds_toArray, List.set_cons_zero, List.set_cons_succ]
    refine seq_nil ?_
    go_wp2
    refine wp_region_seq (fun _ => False) #[⟨0, 0, 68719476736, 1, 0⟩, ⟨0, 0, 137438953472, 256, 0⟩, ⟨0, 0, 274877906944, 32, 0⟩, ⟨4, 4, 549755813888, 274877906944, 1⟩, ⟨11, 15, 1099511627776, 755914244096, 2⟩, ⟨0, 0, 2199023255552, 128, 0⟩, ⟨0, 0, 4398046511104, 32, 0⟩, ⟨64, 64, 8796093022208, 4398046511104, 1⟩, ⟨176, 255, 17592186044416, 12094627905536, 3⟩, ⟨511, 511, 1024, 17592186044416, 0⟩] 136 [(0, 0), (1, 0), (2, 0), (3, 1), (5, 0), (6, 0), (7, 1), (4, 2), (8, 3), (9, 0)] (by kernel_rfl) (by kernel_rfl) (by kernel_rfl) (by kernel_rfl) (by kernel_rfl) (by kernel_rfl) (fun c a d v w h => by cases d <;> exact h) ?_
    refine seq_calc (by simp only [List.getElem?_toArray, List.getElem?_cons_succ, List.getElem?_cons_zero]; rfl) (by rfl) (fun u => by go_simp <;> with_reducible rfl) ?_
    try simp only [Act.put, List.setIfInBounds_toArray, List.set_cons_zero, List.set_cons_succ]
    refine seq_calc (by simp only [List.getElem?_toArray, List.getElem?_cons_succ, List.getElem?_cons_zero]; rfl) (by rfl) (fun u => by go_simp <;> with_reducible rfl) ?_
    try simp only [Act.put, List.setIfInBounds_toArray, List.set_cons_zero, List.set_cons_succ]
    refine seq_calc (by simp only [List.getElem?_toArray, List.getElem?_cons_succ, List.getElem?_cons_zero]; rfl) (by rfl) (fun u => by go_simp <;> with_reducible rfl) ?_
    try simp only [Act.put, List.setIfInBounds_toArray, List.set_cons_zero, List.set_cons_succ]
    refine seq_load1 (by simp only [List.getElem?_toArray, List.getElem?_cons_succ, List.getElem?_cons_zero]; rfl) (by rfl) rfl rfl Tryd.underlying5 rfl (by go_simp <;> with_reducible rfl) (by first | exact id | assumption | (simp; done) | (simp; omega)) ?_
    try simp only [Act.put, List.setIfInBounds_toArray, List.set_cons_zero, List.set_cons_succ]
    refine seq_calc (by simp only [List.getElem?_toArray, List.getElem?_cons_succ, List.getElem?_cons_zero]; rfl) (by rfl) (fun u => by go_simp <;> with_reducible rfl) ?_
    try simp only [Act.put, List.setIfInBounds_toArray, List.set_cons_zero, List.set_cons_succ]
    refine seq_calc (by simp only [List.getElem?_toArray, List.getElem?_cons_succ, List.getElem?_cons_zero]; rfl) (by rfl) (fun u => by go_simp <;> with_reducible rfl) ?_
    try simp only [Act.put, List.setIfInBounds_toArray, List.set_cons_zero, List.set_cons_succ]
    refine seq_load1 (by simp only [List.getElem?_toArray, List.getElem?_cons_succ, List.getElem?_cons_zero]; rfl) (by rfl) rfl rfl Tryd.underlying5 rfl (by go_simp <;> with_reducible rfl) (by first | exact id | assumption | (simp; done) | (simp; omega)) ?_
    try simp only [Act.put, List.setIfInBounds_toArray, List.set_cons_zero, List.set_cons_succ]
    refine seq_do (by simp only [List.getElem?_toArray, List.getElem?_cons_succ, List.getElem?_cons_zero]; rfl) (by rfl) (fun K hK => ?_); go_wp2_with (go_at_call 8; (first | (with_reducible refine (W3.out _).mono ?_) | (with_reducible refine (W4'.out _).mono ?_)); rintro e w' ⟨rfl, rfl⟩); refine hK.out _ _ (by first | (with_reducible exact Chg.refl _ _) | (with_reducible assumption) | (refine Chg.of_below ?_; with_reducible assumption) | (with_reducible exact (Chg.refl _ _).alloc _) | (with_reducible exact (Chg.refl _ _).drewN _) | (with_reducible exact (Chg.refl _ _).drew) | exact ⟨rfl, rfl, rfl, Nat.le_refl _, fun _ _ _ => rfl⟩) ?_; clear hK K
    try simp only [Act.put, List.setIfInBounds_toArray, List.set_cons_zero, List.set_cons_succ]
    refine seq_last (by simp only [List.getElem?_toArray, List.getElem?_cons_succ, List.getElem?_cons_zero]; rfl) (by rfl) (fun K hK => ?_); go_wp2_with (go_at_call 8; (first | (with_reducible refine (W3.out _).mono ?_) | (with_reducible refine (W4'.out _).mono ?_)); rintro e w' ⟨rfl, rfl⟩); refine hK.out _ _ ?_; clear hK K
    try simp only [Act.put, List.setIfInBounds_toArray, List.set_cons_zero, List.set_cons_succ]
    refine seq_calc (by simp only [List.getElem?_toArray, List.getElem?_cons_succ, List.getElem?_cons_zero]; rfl) (by rfl) (fun u => by go_simp <;> with_reducible rfl) ?_
    try simp only [Act.put, List.setIfInBounds_toArray, List.set_cons_zero, List.set_cons_succ]
    refine seq_nil ?_
    go_wp2
    go_loop [67] (fun v => ∃ k : Nat, k ≤ 8 ∧ v = .int .i64 (k : Int)) (fun v => 8 - (intOf v).toNat)
    case atStart => exact ⟨0, by omega, rfl⟩
    case round =>
      obtain ⟨k, hk, rfl⟩ := hrel
      by_cases hlt : k < 8
      · obtain ⟨r1, r2⟩ := RF.out k hlt
        have l1 := LN.out k hlt
        have l2 := E2.out k
        generalize ln X k = L at r1 r2 l1 l2
        replace l1 := Lib.hid l1; replace l2 := Lib.hid l2
        by_cases hq : L = c
        · have q1 : ((L : Int) == (c : Int)) = true := by simp; omega
          rw [if_pos hq] at r1
          replace hq := Lib.hid hq
          go_wp2_with (first | (go_at_call 9; refine (l1.out _).mono ?_; rintro e w' ⟨rfl, rfl⟩) | (go_at_call 10; (first | (with_reducible refine (E1.out _).mono ?_) | (with_reducible refine (l2.out _).mono ?_)); rintro e w' ⟨rfl, rfl⟩))
          go_round
          case rel => exact ⟨k + 1, by omega, by go_num⟩
          case measure => simp [intOf]; omega
        · have q1 : ((L : Int) == (c : Int)) = false := by simp; omega
          rw [if_neg hq] at r1
          replace hq := Lib.hid hq
          go_wp2_with (first | (go_at_call 9; refine (l1.out _).mono ?_; rintro e w' ⟨rfl, rfl⟩) | (go_at_call 10; (first | (with_reducible refine (E1.out _).mono ?_) | (with_reducible refine (l2.out _).mono ?_)); rintro e w' ⟨rfl, rfl⟩))
          go_round
          case rel => exact ⟨k + 1, by omega, by go_num⟩
          case measure => simp [intOf]; omega
      · obtain rfl : k = 8 := by omega
        go_wp2
        go_ret
        exact ⟨by rfl, below_drewN (by go_grown) _⟩
end Go.Proofs.YtfdeoblciichmaaDoor
