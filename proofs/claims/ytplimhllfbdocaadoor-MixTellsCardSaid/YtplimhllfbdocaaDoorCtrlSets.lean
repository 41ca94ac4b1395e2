/- The walks of CtrlSets and CtrlApart. Condition: the errors. -/
import Derived.Test.YtplimhllfbdocaaDoorCtrlLaws
namespace Go.Proofs.YtplimhllfbdocaaDoor
set_option linter.unusedVariables false
set_option linter.unusedSimpArgs false
open Go.RowKit Go.Proofs

/-! ### CtrlApart -/
theorem apart_cnt (m : Nat) (h : ∀ i, i < 8 → ctrlB (ln m i) = true) : (lanesL (highB (maskB (equalB m 128)))).length + (lanesL (highB (maskB (equalB m 254)))).length + (lanesL (highB (maskB (fullB m)))).length = 8 := by
  rw [lanesL_congr (maskB_high (equalB m 128)), lanesL_congr (maskB_high (equalB m 254)), lanesL_congr (maskB_high (fullB m)),
    cnt_or _ _ (fun i hi => by unfold equalB; rw [Bool.eq_false_iff]; simp; omega),
    cnt_or _ _ (fun i hi => by unfold equalB fullB highB; rw [Bool.eq_false_iff]; simp; omega)]
  rw [lanesL_congr (g := fun _ => true) (fun i hi => by have := h i hi; unfold ctrlB at this; unfold equalB fullB highB; simp at this ⊢; omega)]
  decide
theorem apart_or (m : Nat) (h : ∀ i, i < 8 → ctrlB (ln m i) = true) : maskB (equalB m 128) ||| maskB (equalB m 254) = maskB (highB m) := ((right_eq m).2 h).symm
theorem apart_and (m : Nat) : maskB (fullB m) &&& maskB (highB m) = 0 := by
  rw [mask_and]; exact maskB_none fun i _ => by unfold fullB; cases highB m i <;> rfl
theorem setL_back (m i b : Nat) (hm : m < 18446744073709551616) (hi : i < 8) (hb : b < 256) : setL (setL m i b) i (ln m i) = m := by
  refine ln_ext (setL_lt _ _ _ (ln_lt _ _)) hm fun k hk => ?_
  rw [ln_setL _ _ _ _ (ln_lt _ _) hk]
  by_cases e : k = i
  · subst e; rw [if_pos rfl]
  · rw [if_neg e, ln_setL _ _ _ _ hb hk, if_neg e]
theorem right_setL (m i b : Nat) (hb : b < 256) (hc : ctrlB b = true) (h : ∀ i, i < 8 → ctrlB (ln m i) = true) : rightB (setL m i b) = true := by
  rw [rightB_iff]
  intro k hk
  rw [ln_setL _ _ _ _ hb hk]
  split
  · exact hc
  · exact h k hk
end Go.Proofs.YtplimhllfbdocaaDoor
