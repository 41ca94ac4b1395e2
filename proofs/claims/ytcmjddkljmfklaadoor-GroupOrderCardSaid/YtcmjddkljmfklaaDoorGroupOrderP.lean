/- Package group: groups that hold some of a list's entries, each at its own place. No condition. -/
import Derived.Test.YtcmjddkljmfklaaDoorGroupMore
namespace Go.Proofs.YtcmjddkljmfklaaDoor
set_option linter.unusedVariables false
set_option linter.unusedSimpArgs false
open Go.RowKit Go.Proofs

/-- the entry of number i of rows of three -/
def rowE (g : Nat → Nat → Nat) (i : Nat) : EntS := ⟨(g i 0 : Int), (g i 1 : Int), (g i 2 : Int)⟩
def mQ (g : Nat → Nat → Nat) (P : Nat → Bool) : Nat := ofL (fun i => if P i then g i 2 % 128 else 128)
def sQ (g : Nat → Nat → Nat) (P : Nat → Bool) : Nat → EntS := fun i => if P i then rowE g i else EntS.zero
theorem mQ_bd (g : Nat → Nat → Nat) (P : Nat → Bool) : ∀ i, i < 8 → (if P i then g i 2 % 128 else 128) < 256 := fun i _ => by split <;> omega
theorem mQ_lt (g : Nat → Nat → Nat) (P : Nat → Bool) : mQ g P < 18446744073709551616 := ofL_lt _ (mQ_bd g P)
theorem ln_mQ (g : Nat → Nat → Nat) (P : Nat → Bool) (i : Nat) (hi : i < 8) : ln (mQ g P) i = if P i then g i 2 % 128 else 128 := ln_ofL _ (mQ_bd g P) i hi
theorem full_mQ (g : Nat → Nat → Nat) (P : Nat → Bool) (i : Nat) (hi : i < 8) : fullB (mQ g P) i = P i := by
  rw [Bool.eq_iff_iff, full_iff, ln_mQ g P i hi]
  split
  · rename_i h; rw [h]; simp; omega
  · rename_i h; simp [h]
theorem mQ_none (g : Nat → Nat → Nat) : mQ g (fun _ => false) = rep 128 := by rw [rep_ofL]; rfl
theorem sQ_none (g : Nat → Nat → Nat) : sQ g (fun _ => false) = fun _ => EntS.zero := rfl
theorem mQ_put (g : Nat → Nat → Nat) (P : Nat → Bool) (k : Nat) : setL (mQ g P) k (g k 2 % 128) = mQ g (fun i => P i || i == k) := by
  unfold setL
  refine ofL_congr fun i hi => ?_
  rw [ln_mQ g P i hi]
  by_cases e : i = k
  · subst e; simp
  · have : (i == k) = false := by simpa using e
    simp only [if_neg e, this, Bool.or_false]
theorem sQ_put (g : Nat → Nat → Nat) (P : Nat → Bool) (k : Nat) : putS (sQ g P) k (rowE g k) = sQ g (fun i => P i || i == k) := by
  funext i
  unfold putS sQ
  by_cases e : i = k
  · subst e; simp
  · have : (i == k) = false := by simpa using e
    simp only [if_neg e, this, Bool.or_false]
theorem mQ_congr {g : Nat → Nat → Nat} {P Q : Nat → Bool} (h : ∀ i, P i = Q i) : mQ g P = mQ g Q ∧ sQ g P = sQ g Q := by
  have : P = Q := funext h
  subst this; exact ⟨rfl, rfl⟩
theorem mQ_free (g : Nat → Nat → Nat) (P : Nat → Bool) (k : Nat) (hk : k < 8) (h : P k = false) : fullE (mQ g P) (k : Int) false = 0 := by
  rw [fullE_in _ k false hk, if_pos]
  have := full_mQ g P k hk
  rw [h, full_not] at this
  simpa using this
/-- the first n places are full -/
def upN (n i : Nat) : Bool := decide (i < n)
/-- the places from j on, ahead of n, are full -/
def downN (n j i : Nat) : Bool := decide (j ≤ i ∧ i < n)
theorem upN_put (n i : Nat) : (upN n i || i == n) = upN (n + 1) i := by
  unfold upN; rw [Bool.eq_iff_iff]; simp; omega
theorem downN_put (n j i : Nat) (hj : j < n) : (downN n (j + 1) i || i == j) = downN n j i := by
  unfold downN; rw [Bool.eq_iff_iff]; simp; omega
theorem downN_zero (n i : Nat) : downN n 0 i = upN n i := by unfold downN upN; simp
theorem downN_none (n i : Nat) : downN n n i = false := by unfold downN; rw [decide_eq_false_iff_not]; omega
theorem ents_up (g : Nat → Nat → Nat) (n : Nat) (hn : n ≤ 8) : entsL (mQ g (upN n)) (sQ g (upN n)) = (List.range n).map (rowE g) := by
  unfold entsL
  have h1 : lanesL (fullB (mQ g (upN n))) = lanesL (upN n) := lanesL_congr fun i hi => full_mQ g _ i hi
  have h2 : lanesL (upN n) = List.range n := by
    unfold lanesL upN
    rcases (by omega : n = 0 ∨ n = 1 ∨ n = 2 ∨ n = 3 ∨ n = 4 ∨ n = 5 ∨ n = 6 ∨ n = 7 ∨ n = 8) with rfl | rfl | rfl | rfl | rfl | rfl | rfl | rfl | rfl <;> decide
  rw [h1, h2]
  refine List.map_congr_left fun i hi => ?_
  unfold sQ upN
  rw [if_pos (by simpa using hi)]
/-- what is put at a free place and erased again while another slot is empty leaves no trace -/
theorem back_again (g : Nat → Nat → Nat) (n x : Nat) (hn : n ≤ 6) : openB (setL (mQ g (upN n)) 7 (x % 128)) = true ∧ goneN (setL (mQ g (upN n)) 7 (x % 128)) = 128 ∧ setL (setL (mQ g (upN n)) 7 (x % 128)) 7 128 = mQ g (upN n) := by
  have h1 : openB (setL (mQ g (upN n)) 7 (x % 128)) = true := by
    rw [open_iff]
    refine ⟨6, by decide, ?_⟩
    rw [ln_setL _ 7 _ 6 (by omega) (by decide), if_neg (by decide), ln_mQ g _ 6 (by decide), if_neg]
    unfold upN; simp; omega
  refine ⟨h1, by unfold goneN; rw [if_pos h1], ?_⟩
  unfold setL
  rw [show mQ g (upN n) = ofL (fun i => if upN n i then g i 2 % 128 else 128) from rfl]
  refine ofL_congr fun i hi => ?_
  by_cases e : i = 7
  · subst e; rw [if_pos rfl, if_neg]; unfold upN; simp; omega
  · rw [if_neg e, ln_ofL _ (fun j hj => by split; omega; exact ln_lt _ _) i hi, if_neg e, ln_ofL _ (mQ_bd g (upN n)) i hi]
theorem back_slots (g : Nat → Nat → Nat) (n : Nat) (e : EntS) (hn : n ≤ 7) : putS (putS (sQ g (upN n)) 7 e) 7 EntS.zero = sQ g (upN n) := by
  funext i
  unfold putS
  by_cases c : i = 7
  · subst c; rw [if_pos rfl]; unfold sQ upN; rw [if_neg (by simp; omega)]
  · rw [if_neg c, if_neg c]
theorem no_deleted (g : Nat → Nat → Nat) (n : Nat) : (lanesL (equalB (mQ g (upN n)) 254)).length = 0 := by
  have : lanesL (equalB (mQ g (upN n)) 254) = [] := by
    unfold lanesL
    rw [List.filter_eq_nil_iff]
    intro i hi
    have hi8 : i < 8 := by simpa using hi
    unfold equalB
    rw [ln_mQ g _ i hi8]
    split <;> simp
    omega
  rw [this]; rfl
theorem GGood.Q (g : Nat → Nat → Nat) (P : Nat → Bool) (hg : ∀ i, g i 2 < 18446744073709551616) : GGood (mQ g P) (sQ g P) :=
  ⟨mQ_lt g P, fun i hi => by
    rw [ln_mQ g P i hi]
    unfold sQ
    split
    · exact ⟨ctrlB_low _ (by omega), g i 2, rfl, hg i, fun _ => rfl⟩
    · exact ⟨by decide, 0, rfl, by decide, fun h => by omega⟩⟩
end Go.Proofs.YtcmjddkljmfklaaDoor
