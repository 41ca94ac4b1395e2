/- The cells of some of the sixteen errors. Condition: the list that lays them. -/
import Derived.Test.YtcmjddkljmfklaaDoorErrsLaid
namespace Go.Proofs.YtcmjddkljmfklaaDoor
set_option linter.unusedVariables false
set_option linter.unusedSimpArgs false
open Go.RowKit Go.Proofs Go.ChangeShapes Go.WideShapes

/-- where error number k lies -/
def errG (k : Nat) : Nat := match k with
  | 1 => 0 | 2 => 1 | 3 => 2 | 4 => 3 | 5 => 4 | 6 => 5 | 7 => 6 | 8 => 7 | 9 => 8 | 10 => 9 | 11 => 10 | 12 => 11 | 13 => 12 | 14 => 13 | 15 => 14 | _ => 15
/-- the cells of the errors of these numbers -/
def EC (w : World) (E : Nat → Addr) (l : List Nat) : Prop := ∀ k ∈ l, w.cell? ⟨errG k, 0, none⟩ = some (errAt E k)
theorem EC.below {w w' : World} {E : Nat → Addr} {l : List Nat} (h : EC w E l) (hb : Below w.heap.size w w') : EC w' E l := fun k hk => (hb.cell (World.block_lt_of_cell? _ _ (h k hk))).trans (h k hk)
theorem EC.sub {w : World} {E : Nat → Addr} {l l' : List Nat} (h : EC w E l) (hs : ∀ k ∈ l', k ∈ l) : EC w E l' := fun k hk => h k (hs k hk)
theorem ErrsAre.ec {w : World} {E : Nat → Addr} (h : ErrsAre w E) : EC w E [1, 2, 3, 4, 5, 6, 7, 8, 9, 10, 11, 12, 13, 14, 15, 16] := by
  intro k hk
  have hk' : 1 ≤ k ∧ k ≤ 16 := by simp at hk; omega
  obtain ⟨h1, h2⟩ := hk'
  match k, h1, h2 with
  | 1, _, _ => exact h.c1
  | 2, _, _ => exact h.c2
  | 3, _, _ => exact h.c3
  | 4, _, _ => exact h.c4
  | 5, _, _ => exact h.c5
  | 6, _, _ => exact h.c6
  | 7, _, _ => exact h.c7
  | 8, _, _ => exact h.c8
  | 9, _, _ => exact h.c9
  | 10, _, _ => exact h.c10
  | 11, _, _ => exact h.c11
  | 12, _, _ => exact h.c12
  | 13, _, _ => exact h.c13
  | 14, _, _ => exact h.c14
  | 15, _, _ => exact h.c15
  | 16, _, _ => exact h.c16
  | n + 17, _, h => exact absurd h (by omega)
  | 0, h, _ => exact absurd h (by omega)
theorem Pair2.right {α β : Type} {R : α → β → Prop} {l : List α} {m : List β} (h : Pair2 R l m) : l.length = m.length := h.len
theorem getD_idx {α : Type} (d : α) : ∀ (nums : List Nat) (l : List α) (i k : Nat), nums.Nodup → nums[i]? = some k → l.getD (nums.idxOf k) d = l.getD i d := by
  intro nums l i k hn hi
  congr 1
  obtain ⟨hlt, rfl⟩ := List.getElem?_eq_some_iff.1 hi
  exact hn.idxOf_getElem i hlt
/-- out of a row's list -/
theorem ec_of {w : World} {l : List (String × DataW Unit)} (nums : List Nat) (n : Nat) (hn : nums.Nodup) (h : laidMet Tryd.prog l w) (hf : Pair2 (IsErrRow Tryd.prog 25) (l.take n) (nums.map errG)) : ∃ E, EC w E nums := by
  obtain ⟨Es, hE, -⟩ := errs_of n h hf
  refine ⟨fun k => Es.getD (nums.idxOf k) ⟨0, 0, none⟩, fun k hk => ?_⟩
  obtain ⟨i, hi⟩ := List.getElem?_of_mem hk
  have hlt : i < nums.length := (List.getElem?_eq_some_iff.1 hi).1
  have hl : nums.length = Es.length := by have := hE.len; simpa using this
  have h1 := hE.get i (errG k) (Es.getD i ⟨0, 0, none⟩) (by rw [List.getElem?_map, hi]; rfl) (by rw [List.getD_eq_getElem?_getD, List.getElem?_eq_getElem (by omega)]; rfl)
  show w.cell? _ = some (.iface _ (.pointer (some (Es.getD (nums.idxOf k) _))))
  rw [getD_idx _ nums Es i k hn hi]
  exact h1.1
/-- the value of an error's number -/
def errN (E : Nat → Addr) (k : Nat) : Value := if k = 0 then .nilIface else errAt E k
/-- the number of an error that may be none -/
theorem num_any (E : Nat → Addr) (p : Nat) (hp : p ≤ 16) (w : World) (h : ErrsAre w E) :
    Calls Tryd.prog 16 #[errN E p] w fun e w' => e = .returned (.int .i64 (p : Int)) ∧ Below w.heap.size w w' := by
  unfold errN
  by_cases h0 : p = 0
  · subst h0; exact (num_nil w).mono fun e w' ⟨a, b⟩ => ⟨a, b ▸ Below.refl _ _⟩
  · rw [if_neg h0]; exact (num_err w E h p (by omega) hp).mono fun e w' ⟨a, b⟩ => ⟨a, b ▸ (Below.refl _ _).alloc (Nat.le_refl _) _⟩
end Go.Proofs.YtcmjddkljmfklaaDoor
