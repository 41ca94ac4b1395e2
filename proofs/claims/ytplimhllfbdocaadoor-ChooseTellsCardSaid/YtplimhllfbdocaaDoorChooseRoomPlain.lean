/- Groups and Units of package choose, in plain numbers. No condition. -/
import Derived.Test.YtplimhllfbdocaaDoorChoosePlain
namespace Go.Proofs.YtplimhllfbdocaaDoor
set_option linter.unusedVariables false
set_option linter.unusedSimpArgs false
open Go.RowKit

/-- how many groups the new tables have -/
def eachF (k g : Int) : Int := if k = 2 then 2 * g else g
def manyF (k : Int) : Int := if k = 3 then 2 else 1
/-- the error's number: 0: none -/
def badF (k g : Int) : Nat := if k = 1 ∨ k = 2 ∨ k = 3 then (if rightB g = true ∧ rightB (eachF k g) = true then 0 else 1) else 14
def unitsF (k g : Int) : Int := if badF k g = 0 then eachF k g * manyF k + g else 0

theorem right_twice {g : Int} (h : rightB g = true) (h2 : g < 64) : rightB (2 * g) = true := by
  rw [rightB_iff] at *; omega
theorem badF_of {k g : Int} (h : k = 1 ∨ k = 2 ∨ k = 3) (hg : rightB g = true) (h2 : k = 2 → g < 64) : badF k g = 0 := by
  unfold badF
  rw [if_pos h, if_pos]
  refine ⟨hg, ?_⟩
  unfold eachF
  split
  · exact right_twice hg (h2 ‹_›)
  · exact hg
theorem which_three {l t g lo gl : Int} (h : whichF l t g lo gl = 3) : lo < gl ∧ 8 ≤ g := by
  have hb := whichF_bd (l := l) (t := t) (g := g) (lo := lo) (gl := gl) (by omega)
  rw [whichF_val hb.1] at h
  by_cases h1 : l ≤ 2 * g
  · rw [if_pos h1] at h; omega
  · rw [if_neg h1] at h
    by_cases h2 : 8 ≤ g ∧ lo < gl
    · exact ⟨h2.2, h2.1⟩
    · rw [if_neg h2] at h; split at h <;> omega
theorem which_two {l t g lo gl : Int} (h : whichF l t g lo gl = 2) : g < 64 := by
  have hb := whichF_bd (l := l) (t := t) (g := g) (lo := lo) (gl := gl) (by omega)
  rw [whichF_val hb.1] at h
  by_cases h1 : l ≤ 2 * g
  · rw [if_pos h1] at h; omega
  · rw [if_neg h1] at h
    by_cases h2 : 8 ≤ g ∧ lo < gl
    · rw [if_pos h2] at h; omega
    · rw [if_neg h2] at h; split at h <;> omega
theorem which_one {l t g lo gl : Int} (h : whichF l t g lo gl = 1) : l ≤ 2 * g ∨ g = 64 := by
  have hb := whichF_bd (l := l) (t := t) (g := g) (lo := lo) (gl := gl) (by omega)
  rw [whichF_val hb.1] at h
  by_cases h1 : l ≤ 2 * g
  · exact .inl h1
  · rw [if_neg h1] at h
    by_cases h2 : 8 ≤ g ∧ lo < gl
    · rw [if_pos h2] at h; omega
    · rw [if_neg h2] at h; split at h <;> omega
theorem which_need {l t g lo gl : Int} (h : whichF l t g lo gl ≠ 0) : 4 * g ≤ l + t := by
  have hb := whichF_bd h
  have := (needsB_iff _ _ _).1 hb.1.2
  have := (fineB_iff _ _ _ _ _).1 hb.1.1
  omega
theorem which_free {l t g lo gl : Int} (h : whichF l t g lo gl = 0) (hr : rightB g = true) (h0 : 0 ≤ l ∧ 0 ≤ t ∧ 0 ≤ lo ∧ 0 ≤ gl) : l + t < 4 * g := by
  apply Classical.byContradiction
  intro hc
  have hn : needsB l t g = true := (needsB_iff _ _ _).2 (by omega)
  have hf : fineB l t g lo gl = true := (fineB_iff _ _ _ _ _).2 ⟨hr, h0⟩
  rw [whichF_val ⟨hf, hn⟩] at h
  (repeat split at h) <;> omega
theorem which_wrong {l t g lo gl : Int} (hr : rightB g = false) : whichF l t g lo gl = 0 := by
  unfold whichF
  rw [if_neg]
  intro hc
  have := (fineB_iff _ _ _ _ _).1 hc.1
  rw [hr] at this
  exact absurd this.1 (by decide)
theorem badF_zero {k g : Int} (h : badF k g = 0) : (k = 1 ∨ k = 2 ∨ k = 3) ∧ rightB g = true ∧ rightB (eachF k g) = true := by
  unfold badF at h
  by_cases h1 : k = 1 ∨ k = 2 ∨ k = 3
  · rw [if_pos h1] at h
    by_cases h2 : rightB g = true ∧ rightB (eachF k g) = true
    · exact ⟨h1, h2⟩
    · rw [if_neg h2] at h; cases h
  · rw [if_neg h1] at h; cases h
theorem badF_or (k g : Int) : badF k g = 0 ∨ badF k g = 1 ∨ badF k g = 14 := by
  unfold badF
  split
  · split
    · exact .inl rfl
    · exact .inr (.inl rfl)
  · exact .inr (.inr rfl)
end Go.Proofs.YtplimhllfbdocaaDoor
