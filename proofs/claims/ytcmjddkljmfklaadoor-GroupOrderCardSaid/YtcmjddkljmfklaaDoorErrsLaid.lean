/- The sixteen errors, out of a card's list that begins with them. Condition: the list. -/
import Derived.Test.YtcmjddkljmfklaaDoorErrNum
namespace Go.Proofs.YtcmjddkljmfklaaDoor
set_option linter.unusedVariables false
set_option linter.unusedSimpArgs false
open Go.RowKit Go.Proofs Go.ChangeShapes Go.WideShapes

theorem Pair2.len {α β : Type} {R : α → β → Prop} {l : List α} {m : List β} (h : Pair2 R l m) : l.length = m.length := by
  induction h with
  | nil => rfl
  | cons _ _ ih => simp [ih]
theorem Pair2.get {α β : Type} {R : α → β → Prop} {l : List α} {m : List β} (h : Pair2 R l m) : ∀ (i : Nat) (a : α) (b : β), l[i]? = some a → m[i]? = some b → R a b := by
  induction h with
  | nil => intro i a b h; simp at h
  | cons hh _ ih =>
    intro i a b h1 h2
    cases i with
    | zero => simp at h1 h2; subst h1 h2; exact hh
    | succ i => exact ih i a b (by simpa using h1) (by simpa using h2)
theorem errsAre_of {w : World} {l : List (String × DataW Unit)} (h : laidMet Tryd.prog l w)
    (hf : Pair2 (IsErrRow Tryd.prog 25) (l.take 16) [0, 1, 2, 3, 4, 5, 6, 7, 8, 9, 10, 11, 12, 13, 14, 15]) :
    ∃ E, ErrsAre w E := by
  obtain ⟨Es, hE, hnd⟩ := errs_of 16 h hf
  have hl : Es.length = 16 := by have := hE.len; simpa using this.symm
  have hget : ∀ i, i < 16 → Es[i]? = some (Es.getD i ⟨0, 0, none⟩) := fun i hi => by
    rw [List.getD_eq_getElem?_getD, List.getElem?_eq_getElem (by omega)]; rfl
  have k := fun (i : Nat) (hi : i < 16) (g : Nat) (hg : [0, 1, 2, 3, 4, 5, 6, 7, 8, 9, 10, 11, 12, 13, 14, 15][i]? = some g) => hE.get i g _ hg (hget i hi)
  refine ⟨fun n => Es.getD (n - 1) ⟨0, 0, none⟩, (k 0 (by decide) _ rfl).1, (k 1 (by decide) _ rfl).1, (k 2 (by decide) _ rfl).1, (k 3 (by decide) _ rfl).1, (k 4 (by decide) _ rfl).1, (k 5 (by decide) _ rfl).1, (k 6 (by decide) _ rfl).1, (k 7 (by decide) _ rfl).1, (k 8 (by decide) _ rfl).1, (k 9 (by decide) _ rfl).1, (k 10 (by decide) _ rfl).1, (k 11 (by decide) _ rfl).1, (k 12 (by decide) _ rfl).1, (k 13 (by decide) _ rfl).1, (k 14 (by decide) _ rfl).1, (k 15 (by decide) _ rfl).1, ?_, ?_⟩
  · intro n h1 h2
    match n, h1, h2 with
    | 1, _, _ => exact (k 0 (by decide) _ rfl).2.2
    | 2, _, _ => exact (k 1 (by decide) _ rfl).2.2
    | 3, _, _ => exact (k 2 (by decide) _ rfl).2.2
    | 4, _, _ => exact (k 3 (by decide) _ rfl).2.2
    | 5, _, _ => exact (k 4 (by decide) _ rfl).2.2
    | 6, _, _ => exact (k 5 (by decide) _ rfl).2.2
    | 7, _, _ => exact (k 6 (by decide) _ rfl).2.2
    | 8, _, _ => exact (k 7 (by decide) _ rfl).2.2
    | 9, _, _ => exact (k 8 (by decide) _ rfl).2.2
    | 10, _, _ => exact (k 9 (by decide) _ rfl).2.2
    | 11, _, _ => exact (k 10 (by decide) _ rfl).2.2
    | 12, _, _ => exact (k 11 (by decide) _ rfl).2.2
    | 13, _, _ => exact (k 12 (by decide) _ rfl).2.2
    | 14, _, _ => exact (k 13 (by decide) _ rfl).2.2
    | 15, _, _ => exact (k 14 (by decide) _ rfl).2.2
    | 16, _, _ => exact (k 15 (by decide) _ rfl).2.2
    | n + 17, _, h => exact absurd h (by omega)
    | 0, h, _ => exact absurd h (by omega)
  · intro m n hm1 hm2 hn1 hn2 he
    have h1 := hget (m - 1) (by omega)
    have h2 := hget (n - 1) (by omega)
    have he' : Es.getD (m - 1) ⟨0, 0, none⟩ = Es.getD (n - 1) ⟨0, 0, none⟩ := he
    rw [← he'] at h2
    have := (List.getElem?_inj (by omega) hnd).1 (h1.trans h2.symm)
    omega
end Go.Proofs.YtcmjddkljmfklaaDoor
