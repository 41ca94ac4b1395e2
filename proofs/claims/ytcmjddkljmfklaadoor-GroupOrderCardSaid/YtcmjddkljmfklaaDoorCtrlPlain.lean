/- Control words as eight bytes: the plain law. No condition. -/
import Derived.Test.YtcmjddkljmfklaaDoorSwarBack
namespace Go.Proofs.YtcmjddkljmfklaaDoor
set_option linter.unusedVariables false
set_option linter.unusedSimpArgs false

/-- is it a control byte? -/
def ctrlB (b : Nat) : Bool := decide (b ≤ 128 ∨ b = 254)
/-- are all control bytes? -/
def crightB (m : Nat) : Bool := (List.range 8).all fun i => ctrlB (ln m i)
theorem crightB_iff (m : Nat) : crightB m = true ↔ ∀ i, i < 8 → ctrlB (ln m i) = true := by simp [crightB]
/-- the lanes below 128 -/
def fullB (m : Nat) (i : Nat) : Bool := !highB m i
theorem fulls_eq (m : Nat) (hm : m < 18446744073709551616) : maskB (highB (18446744073709551615 - m)) = maskB (fullB m) := by
  refine maskB_congr fun i hi => ?_
  unfold fullB highB
  rw [ln_not m i hm hi]
  have := ln_lt m i
  rw [Bool.eq_iff_iff]; simp; omega
theorem maskB_inj {f g : Nat → Bool} (h : maskB f = maskB g) : ∀ i, i < 8 → f i = g i := by
  intro i hi
  have h1 := ln_maskB f i hi
  rw [h, ln_maskB g i hi] at h1
  cases hf : f i <;> cases hg : g i <;> simp_all
theorem right_eq (m : Nat) : (maskB (highB m) = maskB (equalB m 128) ||| maskB (equalB m 254)) ↔ ∀ i, i < 8 → ctrlB (ln m i) = true := by
  rw [mask_or]
  constructor
  · intro h i hi
    have := maskB_inj h i hi
    unfold highB equalB at this
    unfold ctrlB
    rw [Bool.eq_iff_iff] at this
    simp at this ⊢
    omega
  · intro h
    refine maskB_congr fun i hi => ?_
    have := h i hi
    unfold highB equalB
    unfold ctrlB at this
    rw [Bool.eq_iff_iff]
    simp at this ⊢
    omega
/-- a byte's kind: 1 empty, 2 deleted, 3 full; 0: none -/
def kindN (b : Nat) : Nat := if b = 128 then 1 else if b = 254 then 2 else if b < 128 then 3 else 0
theorem kindN_le (b : Nat) : kindN b ≤ 3 := by unfold kindN; repeat' split
                                               all_goals omega
theorem kindN_ctrl (b : Nat) : kindN b = 0 ↔ ctrlB b = false := by
  unfold kindN ctrlB
  repeat' split
  all_goals simp
  all_goals omega
/-- a kind's sign -/
def signK (k : Nat) : UInt8 := if k = 1 then 46 else if k = 2 then 120 else if k = 3 then 35 else 63
/-- the signs of the first n of these kinds -/
def textTo (k : Nat → Nat) (n : Nat) : ByteArray := ⟨((List.range n).map fun i => signK (k i)).toArray⟩
theorem textTo_zero (k : Nat → Nat) : textTo k 0 = ⟨#[]⟩ := rfl
theorem textTo_succ (k : Nat → Nat) (n : Nat) : textTo k (n + 1) = textTo k n ++ ⟨#[signK (k n)]⟩ := by
  apply ByteArray.ext
  simp [textTo, List.range_succ, ByteArray.data_append]
theorem textTo_size (k : Nat → Nat) (n : Nat) : (textTo k n).size = n := by simp [textTo, ByteArray.size]
theorem textTo_congr {k k' : Nat → Nat} (n : Nat) (h : ∀ i, i < n → k i = k' i) : textTo k n = textTo k' n := by
  unfold textTo
  congr 2
  refine List.map_congr_left fun i hi => ?_
  rw [h i (List.mem_range.1 hi)]
/-- a word's text -/
def textW (m : Nat) : ByteArray := textTo (fun i => kindN (ln m i)) 8
/-- the word whose lanes are all empty -/
theorem new_word : rep 128 = 9259542123273814144 := rfl
theorem kind_empty (m i : Nat) : decide (kindN (ln m i) = 1) = equalB m 128 i := by
  unfold kindN equalB
  repeat' split
  all_goals simp_all
theorem kind_deleted (m i : Nat) : decide (kindN (ln m i) = 2) = equalB m 254 i := by
  unfold kindN equalB
  repeat' split
  all_goals simp_all
theorem kind_full (m i : Nat) : decide (kindN (ln m i) = 3) = fullB m i := by
  unfold kindN fullB highB
  repeat' split
  all_goals simp
  all_goals omega
end Go.Proofs.YtcmjddkljmfklaaDoor
