/- The lanes of a mask, one by one; how many there are. Condition: the table of math/bits. -/
import Derived.Test.YtcmjddkljmfklaaDoorSwarFirst
import Derived.Test.YtcmjddkljmfklaaDoorRange
namespace Go.Proofs.YtcmjddkljmfklaaDoor
set_option linter.unusedVariables false
set_option linter.unusedSimpArgs false
open Go.RowKit Go.Proofs
attribute [local go_sem] Oper.semAt_some wide_depth round_depth wide_fn round_fn

/-- the lanes that are in, rising -/
def lanesL (f : Nat → Bool) : List Nat := (List.range 8).filter f
theorem lanesL_mem {f : Nat → Bool} {k : Nat} : k ∈ lanesL f ↔ k < 8 ∧ f k = true := by simp [lanesL]
theorem lanesL_pair (f : Nat → Bool) : (lanesL f).Pairwise (· < ·) := List.Pairwise.filter _ List.pairwise_lt_range
theorem lanesL_len (f : Nat → Bool) : (lanesL f).length ≤ 8 := by
  have := List.length_filter_le f (List.range 8)
  simpa [lanesL] using this
theorem lanesL_congr {f g : Nat → Bool} (h : ∀ k, k < 8 → f k = g k) : lanesL f = lanesL g := by
  unfold lanesL
  exact List.filter_congr fun k hk => h k (by simpa using hk)
/-- the lanes that are still to come behind i of them -/
def restF (f : Nat → Bool) (i : Nat) (k : Nat) : Bool := decide (k ∈ (lanesL f).drop i)
theorem restF_zero (f : Nat → Bool) : ∀ k, k < 8 → restF f 0 k = f k := by
  intro k hk
  unfold restF
  rw [List.drop_zero]
  cases h : f k
  · rw [decide_eq_false_iff_not, lanesL_mem]; simp [h]
  · rw [decide_eq_true_iff, lanesL_mem]; exact ⟨hk, h⟩
theorem firstL_eq {f : Nat → Bool} {j : Nat} (hj : j < 8) (hf : f j = true) (hb : ∀ i, i < j → f i = false) : firstL f = some j := by
  cases h : firstL f with
  | none => have := firstL_none h j hj; rw [hf] at this; cases this
  | some i =>
    obtain ⟨h1, h2, h3⟩ := firstL_some h
    rcases Nat.lt_trichotomy i j with h' | h' | h'
    · rw [hb i h'] at h2; cases h2
    · rw [h']
    · rw [h3 j h'] at hf; cases hf
theorem drop_cons (f : Nat → Bool) (i : Nat) (hi : i < (lanesL f).length) : (lanesL f).drop i = (lanesL f)[i] :: (lanesL f).drop (i + 1) := List.drop_eq_getElem_cons hi
theorem drop_gt (f : Nat → Bool) (i : Nat) (hi : i < (lanesL f).length) : ∀ k ∈ (lanesL f).drop (i + 1), (lanesL f)[i] < k := by
  have h := (lanesL_pair f).drop (i := i)
  rw [drop_cons f i hi, List.pairwise_cons] at h
  exact h.1
theorem restF_first (f : Nat → Bool) (i : Nat) (hi : i < (lanesL f).length) : firstL (restF f i) = some (lanesL f)[i] := by
  have hm : (lanesL f)[i] ∈ lanesL f := List.getElem_mem hi
  refine firstL_eq (lanesL_mem.1 hm).1 ?_ fun k hk => ?_
  · unfold restF; rw [decide_eq_true_iff, drop_cons f i hi]; exact List.mem_cons_self
  · unfold restF; rw [decide_eq_false_iff_not, drop_cons f i hi]
    intro h
    rcases List.mem_cons.1 h with h | h
    · omega
    · have := drop_gt f i hi k h; omega
theorem restF_next (f : Nat → Bool) (i : Nat) (hi : i < (lanesL f).length) (k : Nat) : restF f (i + 1) k = (restF f i k && decide (k ≠ (lanesL f)[i])) := by
  unfold restF
  rw [Bool.eq_iff_iff, Bool.and_eq_true, decide_eq_true_iff, decide_eq_true_iff, decide_eq_true_iff, drop_cons f i hi]
  constructor
  · intro h; exact ⟨List.mem_cons_of_mem _ h, fun e => by have := drop_gt f i hi k h; omega⟩
  · rintro ⟨h1, h2⟩
    rcases List.mem_cons.1 h1 with h | h
    · exact absurd h h2
    · exact h
theorem restF_last (f : Nat → Bool) (k : Nat) : restF f (lanesL f).length k = false := by
  unfold restF; simp
theorem maskB_congr {f g : Nat → Bool} (h : ∀ k, k < 8 → f k = g k) : maskB f = maskB g := ofL_congr fun i hi => by rw [h i hi]

theorem and_pred (k m : Nat) : (2 ^ k * (2 * m + 1)) &&& (2 ^ k * (2 * m + 1) - 1) = 2 ^ k * (2 * m) := by
  have hp : 0 < 2 ^ k := Nat.two_pow_pos k
  have e1 : 2 ^ k * (2 * m + 1) = 2 ^ k * (2 * m + 1) + 0 := rfl
  have e2 : 2 ^ k * (2 * m + 1) - 1 = 2 ^ k * (2 * m) + (2 ^ k - 1) := by rw [Nat.mul_add]; omega
  have e3 : 2 ^ k * (2 * m) = 2 ^ k * (2 * m) + 0 := rfl
  apply Nat.eq_of_testBit_eq
  intro j
  rw [Nat.testBit_and, e2]
  conv => lhs; rw [e1]
  conv => rhs; rw [e3]
  rw [Nat.testBit_two_pow_mul_add _ hp, Nat.testBit_two_pow_mul_add _ (by omega), Nat.testBit_two_pow_mul_add _ hp]
  split
  · simp
  · cases hj : j - k with
    | zero => simp
    | succ n =>
      rw [Nat.testBit_succ, Nat.testBit_succ]
      have d1 : (2 * m + 1) / 2 = m := by omega
      have d2 : 2 * m / 2 = m := by omega
      rw [d1, d2]; simp
theorem mask_drop {f g : Nat → Bool} {j : Nat} (h : firstL f = some j) (hg : ∀ k, k < 8 → g k = (f k && decide (k ≠ j))) : maskB f &&& (maskB f - 1) = maskB g := by
  obtain ⟨hj, hf, _⟩ := firstL_some h
  obtain ⟨m, hm⟩ := maskB_some h
  have hs : maskB f = maskB g + 2 ^ (8 * j + 7) := by
    have t : ∀ i, i < 8 → (if f i then 128 else 0) = (if g i then 128 else 0) + (if i = j then 128 else 0) := fun i hi => by
      rw [hg i hi]
      by_cases e : i = j
      · subst e; simp [hf]
      · cases f i <;> simp [e]
    have t0 := t 0 (by omega); have t1 := t 1 (by omega); have t2 := t 2 (by omega); have t3 := t 3 (by omega)
    have t4 := t 4 (by omega); have t5 := t 5 (by omega); have t6 := t 6 (by omega); have t7 := t 7 (by omega)
    unfold maskB ofL
    simp only [t0, t1, t2, t3, t4, t5, t6, t7]
    rcases lt8 hj with rfl | rfl | rfl | rfl | rfl | rfl | rfl | rfl <;> simp <;> omega
  have e : 2 ^ (8 * j + 7) * (2 * m) = maskB g := by
    have : 2 ^ (8 * j + 7) * (2 * m + 1) = 2 ^ (8 * j + 7) * (2 * m) + 2 ^ (8 * j + 7) := by rw [Nat.mul_add, Nat.mul_one]
    omega
  rw [hm, and_pred, e]
theorem maskB_high (f : Nat → Bool) : ∀ k, k < 8 → highB (maskB f) k = f k := by
  intro k hk
  unfold highB
  rw [ln_maskB f k hk]
  cases f k <;> simp
/-- one round: the mask without its first lane -/
theorem mask_next (f : Nat → Bool) (i : Nat) (hi : i < (lanesL f).length) : bits .and .u64 (maskB (restF f i) : Int) (IntKind.u64.wrap ((maskB (restF f i) : Int) - 1)) = ((maskB (restF f (i + 1)) : Nat) : Int) := by
  have h1 := restF_first f i hi
  have hne := (maskB_low h1).1
  have hlt := maskB_lt (restF f i)
  rw [show ((maskB (restF f i) : Int) - 1) = ((maskB (restF f i) - 1 : Nat) : Int) by omega, IntWalk.u64_in _ (by omega), bits_and_u64_nat _ _ hlt (by omega), mask_drop h1 fun k _ => restF_next f i hi k]
theorem rest_first (f : Nat → Bool) (i : Nat) (hi : i < (lanesL f).length) : firstL (highB (maskB (restF f i))) = some (lanesL f)[i] := by
  have h := restF_first f i hi
  obtain ⟨h1, h2, h3⟩ := firstL_some h
  exact firstL_eq h1 ((maskB_high _ _ h1).trans h2) fun k hk => (maskB_high _ _ (by omega)).trans (h3 k hk)

theorem lanes_any (m : Int) (w : World) :
    Calls Tryd.prog 91 #[.int .u64 m] w fun e w' => e = .returned (.func (.func 118) #[] #[.pointer (some ⟨w.heap.size, 0, none⟩)]) ∧ w.alloc (.cells #[.int .u64 m] 22) = w' := by
  go_enter Tryd.func91, Tryd.ntmps91
  go_wp2
  go_ret
  exact ⟨rfl, rfl⟩
theorem enters_lanes (args : Array Value) (w : World) : (callFunc 118 args).run Tryd.prog w = .ok (.enter 118 args) w :=
  enters_of Tryd.func118 (by kernel_rfl) rfl args w
/-- lane number i of the mask's -/
def laneAt (f : Nat → Bool) (i : Nat) : Nat := (lanesL f).getD i 0

set_option maxRecDepth 100000 in
set_option maxHeartbeats 2000000 in
/-- the closure of Lanes: the lanes, in their order; S: the variable that it captured, and the table -/
theorem lanes_gives (m : Nat) (hm : m < 18446744073709551616) (B : Nat) (w : World) (hc : w.cell? ⟨B, 0, none⟩ = some (.int .u64 (m : Int))) (hT : Tab64 w) :
    GivesAt Tryd.prog 118 #[.pointer (some ⟨B, 0, none⟩)] (fun i => #[.int .i64 ((laneAt (highB m) i : Nat) : Int)]) (lanesL (highB m)).length (fun b => b = B ∨ b = 16) w := by
  intro l J Jx W hW _ hY _ h0
  have gc : ∀ W1, Same (fun b => b = B ∨ b = 16) W W1 → W1.cell? ⟨B, 0, none⟩ = some (.int .u64 (m : Int)) := fun W1 h1 => ((hW.trans h1).cell (a := ⟨B, 0, none⟩) (Or.inl rfl)).trans hc
  have gT : ∀ W1, Same (fun b => b = B ∨ b = 16) W W1 → Tab64 W1 := fun W1 h1 j hj => ((hW.trans h1).cell (a := ⟨16, j, none⟩) (Or.inr rfl)).trans (hT j hj)
  have cW := gc W (Same.refl _ _)
  have hh := high_any m hm
  obtain ⟨f, hf⟩ : ∃ f, f = highB m := ⟨_, rfl⟩
  rw [← hf] at hY hh ⊢
  rw [show maskB f = maskB (restF f 0) from (maskB_congr (restF_zero f)).symm] at hh
  have HN := Lib.hid (mask_next f)
  have HF := Lib.hid (rest_first f)
  have HL := Lib.hid (restF_last f)
  have hG := Lib.hid gT
  have hY' := Lib.hid hY
  replace hh := Lib.hid hh
  clear gc gT hY hc hT hf
  refine callsIn_of_wp Tryd.func118 rfl trivial ?_ rfl
  simp only [Tryd.ntmps118, List.size_toArray, List.length_cons, List.length_nil, Nat.reduceAdd, Nat.reduceSub, Array.replicate_succ, Array.replicate_zero, List.push_toArray, List.append_toArray, List.nil_append, List.cons_append]
  gi_wp2_with (gi_at_call 119; refine (callsIn_wide.2 (hh.out _)).mono ?_; rintro e w' ⟨rfl, rfl⟩)
  gi_loopw [3] (fun v3 wr => ∃ k : Nat, k ≤ (lanesL f).length ∧ v3 = .int .u64 ((maskB (restF f k) : Nat) : Int) ∧ J k wr ∧ Same (fun b => b = B ∨ b = 16) W wr)
    (fun v3 _ => (intOf v3).toNat)
  case atStart => exact ⟨0, Nat.zero_le _, rfl, h0, Same.refl _ _⟩
  case round =>
    obtain ⟨k, hk, rfl, hJ, hB⟩ := hrel
    by_cases hlt : k < (lanesL f).length
    · have hm' := HN.out k hlt
      have hfi := first_some _ _ (maskB_lt (restF f k)) (HF.out k hlt) wr (hG.out wr hB)
      obtain ⟨fn, tmps, assign, body, hy, hR⟩ := hY'.out k wr hlt hJ hB
      have hne := (maskB_low (restF_first f k hlt)).1
      have hla : laneAt f k = (lanesL f)[k] := by simp [laneAt, hlt]
      rw [← hla] at hfi
      have hz : ((maskB (restF f k) : Int) != 0) = true := by simp; omega
      have hdec : maskB (restF f (k + 1)) < maskB (restF f k) := by
        have h1 := restF_first f k hlt
        rw [← mask_drop h1 fun j _ => restF_next f k hlt j]
        exact Nat.lt_of_le_of_lt Nat.and_le_right (by omega)
      replace hdec := Lib.hid hdec
      replace hla := Lib.hid hla
      replace hfi := Lib.hid hfi
      gi_wp2_with (gi_at_call 97; refine (callsIn_wide.2 hfi.out).mono ?_; rintro e w' ⟨rfl, rfl⟩)
      refine hR.mono ?_
      rintro e W' (⟨rfl, hJ', hB'⟩ | ⟨rfl, hx⟩)
      · gi_wp2
        go_roundw
        case rel => exact ⟨k + 1, by omega, by first | rfl | go_num, hJ', hB.trans hB'⟩
        case measure => have := hdec.out; simp [intOf]; omega
      · gi_wp2
        refine bodyPost_ret (results_none rfl _ _ _) rfl ?_
        exact ⟨⟨_, rfl⟩, .inr hx⟩
    · obtain rfl : k = (lanesL f).length := by omega
      have hz : maskB (restF f (lanesL f).length) = 0 := maskB_none fun i _ => HL.out i
      rw [hz]
      gi_wp2
      go_end0
      exact ⟨⟨_, rfl⟩, .inl hJ⟩
end Go.Proofs.YtcmjddkljmfklaaDoor
