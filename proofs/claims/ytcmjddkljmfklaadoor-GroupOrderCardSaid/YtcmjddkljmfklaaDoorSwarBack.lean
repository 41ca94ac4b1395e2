/- The walk of SwarBack. Condition: the table of math/bits. -/
import Derived.Test.YtcmjddkljmfklaaDoorSwarRef2
import Derived.Test.YtcmjddkljmfklaaDoorSwarCount
namespace Go.Proofs.YtcmjddkljmfklaaDoor
set_option linter.unusedVariables false
set_option linter.unusedSimpArgs false
open Go.RowKit Go.Proofs
attribute [local go_sem] Oper.semAt_some wide_depth round_depth wide_fn round_fn

/-- the word whose first k lanes are l's, the rest 0 -/
def foldTo (l : Nat → Nat) (k : Nat) : Nat := ofL (fun j => if j < k then l j else 0)
theorem foldTo_bd (l : Nat → Nat) (hl : ∀ i, i < 8 → l i < 256) (k : Nat) : ∀ j, j < 8 → (if j < k then l j else 0) < 256 := fun j hj => by split <;> first | exact hl j hj | decide
theorem foldTo_lt (l : Nat → Nat) (hl : ∀ i, i < 8 → l i < 256) (k : Nat) : foldTo l k < 18446744073709551616 := ofL_lt _ (foldTo_bd l hl k)
theorem foldTo_succ (l : Nat → Nat) (hl : ∀ i, i < 8 → l i < 256) (k : Nat) (hk : k < 8) : setL (foldTo l k) k (l k) = foldTo l (k + 1) := by
  refine ln_ext (setL_lt _ _ _ (hl k hk)) (foldTo_lt l hl _) fun j hj => ?_
  rw [ln_setL _ _ _ _ (hl k hk) hj]
  unfold foldTo
  rw [ln_ofL _ (foldTo_bd l hl _) j hj, ln_ofL _ (foldTo_bd l hl _) j hj]
  by_cases h : j = k
  · subst h; simp
  · simp only [h, if_false, show (j < k + 1) = (j < k) from propext ⟨fun h => by omega, fun h => by omega⟩]
theorem foldTo_zero (l : Nat → Nat) : foldTo l 0 = 0 := by simp [foldTo, ofL]
theorem foldTo_all (l : Nat → Nat) : foldTo l 8 = ofL l := ofL_congr fun i hi => by simp [hi]

/-- the lanes that are below c -/
def belowB (w c : Nat) (i : Nat) : Bool := decide (ln w i < c)
theorem mask_or (f g : Nat → Bool) : maskB f ||| maskB g = maskB (fun i => f i || g i) := by
  refine eq_ofL (Nat.or_lt_two_pow (n := 64) (maskB_lt f) (maskB_lt g)) (maskB_bd _) fun i hi => ?_
  rw [ln_or, ln_maskB f i hi, ln_maskB g i hi]
  show _ = if (f i || g i) = true then 128 else 0
  cases f i <;> cases g i <;> rfl
theorem mask_and (f g : Nat → Bool) : maskB f &&& maskB g = maskB (fun i => f i && g i) := by
  refine eq_ofL (Nat.lt_of_le_of_lt Nat.and_le_left (maskB_lt f)) (maskB_bd _) fun i hi => ?_
  rw [ln_and, ln_maskB f i hi, ln_maskB g i hi]
  show _ = if (f i && g i) = true then 128 else 0
  cases f i <;> cases g i <;> rfl
theorem cnt_or (f g : Nat → Bool) (h : ∀ i, i < 8 → (f i && g i) = false) : (lanesL f).length + (lanesL g).length = (lanesL (fun i => f i || g i)).length := by
  rw [lanesL_cnt, lanesL_cnt, lanesL_cnt]
  have t : ∀ i, i < 8 → one (f i || g i) = one (f i) + one (g i) := fun i hi => by
    have := h i hi
    cases hf : f i <;> cases hg : g i <;> simp_all [one]
  simp only [cnt8, t 0 (by omega), t 1 (by omega), t 2 (by omega), t 3 (by omega), t 4 (by omega), t 5 (by omega), t 6 (by omega), t 7 (by omega)]
  omega
theorem below_next (w c : Nat) : (fun i => equalB w c i || belowB w c i) = belowB w (c + 1) := by
  funext i
  unfold equalB belowB
  rw [Bool.eq_iff_iff]; simp; omega
theorem below_apart (w c : Nat) : ∀ i, (equalB w c i && belowB w c i) = false := fun i => by
  unfold equalB belowB
  rw [Bool.eq_false_iff]; simp; omega
theorem below_facts (w c : Nat) : maskB (equalB w c) &&& maskB (belowB w c) = 0 ∧ maskB (belowB w c) ||| maskB (equalB w c) = maskB (belowB w (c + 1)) ∧
    (lanesL (belowB w c)).length + (lanesL (highB (maskB (equalB w c)))).length = (lanesL (belowB w (c + 1))).length := by
  refine ⟨?_, ?_, ?_⟩
  · rw [mask_and]; exact maskB_none fun i _ => below_apart w c i
  · rw [Nat.or_comm, mask_or, below_next]
  · rw [lanesL_congr (maskB_high (equalB w c)), Nat.add_comm, cnt_or _ _ (fun i _ => below_apart w c i), below_next]
theorem below_zero (w : Nat) : maskB (belowB w 0) = 0 ∧ (lanesL (belowB w 0)).length = 0 := by
  have h : ∀ i, i < 8 → belowB w 0 i = false := fun i _ => by simp [belowB]
  exact ⟨maskB_none h, by unfold lanesL; rw [List.length_eq_zero_iff, List.filter_eq_nil_iff]; intro a ha; simp [h a (by simpa using ha)]⟩
theorem below_all (w : Nat) : maskB (belowB w 256) = maskB (fun _ => true) ∧ (lanesL (belowB w 256)).length = 8 := by
  have h : ∀ i, i < 8 → belowB w 256 i = true := fun i _ => by simp [belowB, ln_lt]
  exact ⟨maskB_congr h, by rw [lanesL_congr h]; decide⟩
theorem all_high : maskB (highB (rep 255)) = maskB (fun _ => true) := by decide
theorem all_lanes : lanesL (highB (maskB (fun _ => true))) = [0, 1, 2, 3, 4, 5, 6, 7] := by decide

end Go.Proofs.YtcmjddkljmfklaaDoor
