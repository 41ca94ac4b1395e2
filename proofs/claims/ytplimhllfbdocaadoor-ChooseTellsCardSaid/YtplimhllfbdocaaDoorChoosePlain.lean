/- Which job a table needs, in plain numbers. No condition. -/
import Derived.Test.YtplimhllfbdocaaDoorProbePlain
namespace Go.Proofs.YtplimhllfbdocaaDoor
set_option linter.unusedVariables false
set_option linter.unusedSimpArgs false
open Go.RowKit

/-- may a table have such numbers? -/
def fineB (l t g lo gl : Int) : Bool := rightB g && decide (0 ≤ l ∧ 0 ≤ t ∧ 0 ≤ lo ∧ 0 ≤ gl)
/-- does it need a job? -/
def needsB (l t g : Int) : Bool := decide (4 * g ≤ l ∨ 4 * g - l ≤ t)
/-- layer 14's Which -/
def whichF (l t g lo gl : Int) : Int :=
  if fineB l t g lo gl = true ∧ needsB l t g = true then
    if l ≤ 2 * g then 1 else if 8 ≤ g ∧ lo < gl then 3 else if g < 64 then 2 else 1
  else 0
/-- layer 14's Double -/
def doubleB (l t g lo gl : Int) : Bool := decide (fineB l t g lo gl = true ∧ needsB l t g = true ∧ 2 * g < l ∧ 8 ≤ g ∧ lo = gl ∧ gl < 5)

theorem fineB_iff (l t g lo gl : Int) : fineB l t g lo gl = true ↔ rightB g = true ∧ 0 ≤ l ∧ 0 ≤ t ∧ 0 ≤ lo ∧ 0 ≤ gl := by
  simp [fineB]
theorem needsB_iff (l t g : Int) : needsB l t g = true ↔ 4 * g ≤ l ∨ 4 * g - l ≤ t := by simp [needsB]

theorem whichF_more {l t g lo gl a b : Int} (ha : 0 ≤ a) (hb : 0 ≤ b) (h : whichF l t g lo gl ≠ 0) : whichF (l + a) (t + b) g lo gl ≠ 0 := by
  have h1 : fineB l t g lo gl = true ∧ needsB l t g = true := by
    apply Classical.byContradiction; intro hc; exact h (by unfold whichF; rw [if_neg hc])
  have h2 := (fineB_iff _ _ _ _ _).1 h1.1
  have h3 := (needsB_iff _ _ _).1 h1.2
  unfold whichF
  rw [if_pos ⟨(fineB_iff _ _ _ _ _).2 ⟨h2.1, by omega, by omega, h2.2.2.2.1, h2.2.2.2.2⟩, (needsB_iff _ _ _).2 (by omega)⟩]
  (repeat split) <;> omega
theorem whichF_or (l t g lo gl : Int) : whichF l t g lo gl = 0 ∨ whichF l t g lo gl = 1 ∨ whichF l t g lo gl = 2 ∨ whichF l t g lo gl = 3 := by
  unfold whichF
  (repeat split) <;> omega
theorem whichF_bd {l t g lo gl : Int} (h : whichF l t g lo gl ≠ 0) : (fineB l t g lo gl = true ∧ needsB l t g = true) ∧ rightB g = true ∧ 1 ≤ g ∧ g ≤ 64 := by
  have h1 : fineB l t g lo gl = true ∧ needsB l t g = true := by
    apply Classical.byContradiction; intro hc; exact h (by unfold whichF; rw [if_neg hc])
  have h2 := (fineB_iff _ _ _ _ _).1 h1.1
  have h3 := (rightB_iff g).1 h2.1
  exact ⟨h1, h2.1, by omega, by omega⟩
theorem whichF_val {l t g lo gl : Int} (h : fineB l t g lo gl = true ∧ needsB l t g = true) : whichF l t g lo gl = if l ≤ 2 * g then 1 else if 8 ≤ g ∧ lo < gl then 3 else if g < 64 then 2 else 1 := by
  unfold whichF; rw [if_pos h]
theorem doubleB_bd {l t g lo gl : Int} (h : doubleB l t g lo gl = true) : whichF l t g lo gl ≠ 0 ∧ whichF l t g lo gl ≠ 3 ∧ 2 * g < l ∧ lo = gl ∧ 8 ≤ g ∧ g ≤ 64 := by
  unfold doubleB at h
  rw [decide_eq_true_iff] at h
  obtain ⟨h1, h2, h3, h4, h5, h6⟩ := h
  have h7 := (rightB_iff g).1 ((fineB_iff _ _ _ _ _).1 h1).1
  rw [whichF_val ⟨h1, h2⟩]
  refine ⟨?_, ?_, h3, h5, h4, by omega⟩ <;> (repeat split) <;> omega
theorem whichF_grown {l t g lo gl : Int} (h : whichF l t g lo gl = 2) (hs : l + t < 8 * g) : whichF l 0 (2 * g) lo gl = 0 := by
  have hb := whichF_bd (l := l) (t := t) (g := g) (lo := lo) (gl := gl) (by omega)
  have hf := (fineB_iff _ _ _ _ _).1 hb.1.1
  unfold whichF
  rw [if_neg]
  intro hc
  have := (needsB_iff _ _ _).1 hc.2
  omega
theorem which_zero {l t g lo gl : Int} (h : ¬ (rightB g = true ∧ 0 ≤ l ∧ 0 ≤ t ∧ 0 ≤ lo ∧ 0 ≤ gl)) : whichF l t g lo gl = 0 := by
  unfold whichF
  rw [if_neg]
  exact fun hc => h ((fineB_iff _ _ _ _ _).1 hc.1)
end Go.Proofs.YtplimhllfbdocaaDoor
