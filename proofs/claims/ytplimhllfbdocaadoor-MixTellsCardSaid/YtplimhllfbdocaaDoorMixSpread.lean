/- Package mix: words, and how many keys have a hash of each prefix. Condition: the errors' cells and the table of words. -/
import Derived.Test.YtplimhllfbdocaaDoorMix
import Derived.Test.YtplimhllfbdocaaDoorRef03d
import Derived.Test.YtplimhllfbdocaaDoorDir
import Derived.Test.YtplimhllfbdocaaDoorCtrlPaths
namespace Go.Proofs.YtplimhllfbdocaaDoor
set_option linter.unusedVariables false
set_option linter.unusedSimpArgs false
open Go.RowKit Go.Proofs

/-! ### whole numbers as cells -/
def arrF (n : Nat) (f : Nat → Nat) : Array Value := ((List.range n).map fun i => Value.int .i64 (f i : Int)).toArray
theorem arrF_size (n : Nat) (f : Nat → Nat) : (arrF n f).size = n := by simp [arrF]
theorem arrF_get (n : Nat) (f : Nat → Nat) (j : Nat) (hj : j < n) : (arrF n f)[j]? = some (.int .i64 (f j : Int)) := by simp [arrF, hj]
theorem arrF_set (n : Nat) (f : Nat → Nat) (k b : Nat) (hk : k < n) : (arrF n f).setIfInBounds k (.int .i64 (b : Int)) = arrF n (fun j => if j = k then b else f j) := by
  apply Array.ext_getElem?
  intro j
  by_cases hj : j < n
  · rw [arrF_get _ _ _ hj, Array.getElem?_setIfInBounds]
    by_cases e : k = j
    · subst e; simp [arrF_size, hj]
    · rw [if_neg e, arrF_get _ _ _ hj, if_neg (Ne.symm e)]
  · rw [Array.getElem?_eq_none (by rw [Array.size_setIfInBounds, arrF_size]; omega), Array.getElem?_eq_none (by rw [arrF_size]; omega)]
theorem arrF_reads {w : World} {R n : Nat} {f : Nat → Nat} (h : Blk w R 3 (arrF n f)) : ReadsInts w (.slice (some ⟨R, 0, none⟩) n n) ((List.range n).map fun i => (f i : Int)) := by
  refine ⟨some ⟨R, 0, none⟩, n, by simp, fun _ => ⟨R, 0, rfl, fun j hj => ?_⟩⟩
  have hj' : j < n := by simpa using hj
  rw [Nat.zero_add, h.cell, arrF_get _ _ _ hj']
  simp
/-- how many of the first m keys have the top i -/
def cntF (key : Nat → Nat) (k d : Nat) : Nat → Nat → Nat
  | 0, _ => 0
  | m + 1, i => if i = topN (mixN k (key m)) d then cntF key k d m i + 1 else cntF key k d m i
theorem cntF_succ (key : Nat → Nat) (k d m : Nat) : cntF key k d (m + 1) = fun i => if i = topN (mixN k (key m)) d then cntF key k d m (topN (mixN k (key m)) d) + 1 else cntF key k d m i := by
  funext i
  show (if i = topN (mixN k (key m)) d then cntF key k d m i + 1 else cntF key k d m i) = _
  by_cases e : i = topN (mixN k (key m)) d
  · subst e; rw [if_pos rfl]
  · rw [if_neg e, if_neg e]
theorem arrF_zero (n : Nat) : arrF n (fun _ => 0) = (List.replicate n (Value.int .i64 0)).toArray := by simp [arrF, List.map_const']
theorem cntF_le (key : Nat → Nat) (k d m : Nat) : ∀ i, cntF key k d m i ≤ m := by
  induction m with
  | zero => intro i; exact Nat.le_refl _
  | succ m ih =>
    intro i
    rw [cntF_succ]
    dsimp only
    split
    · exact Nat.succ_le_succ (ih _)
    · exact Nat.le_succ_of_le (ih _)

/-! ### words -/
def wordL (k : Nat) : List UInt8 := ([[115, 97, 109, 101], [111, 110, 101], [109, 117, 108, 116], [102, 110, 118], [116, 117, 114, 110], [116, 111, 112]] : List (List UInt8)).getD k []
/-- the table of words -/
def MixW (w : World) : Prop := ∀ k : Nat, k < 6 → w.cell? ⟨1, k, none⟩ = some (.string ⟨(wordL k).toArray⟩)
theorem MixW.below {w w' : World} (h : MixW w) (hb : Below w.heap.size w w') : MixW w' := fun k hk => (hb.cell (World.block_lt_of_cell? _ _ (h k hk))).trans (h k hk)
theorem mixWord_ok (k : Nat) (hk : k ≤ 5) (w : World) (h : MixW w) : Calls Tryd.prog 21 #[.int .i64 (k : Int)] w fun e w' => e = .returned (.string ⟨(wordL k).toArray⟩) ∧ w = w' := by
  have hc := h k (by omega)
  have e1 : decide ((k : Int) < 0) = false := by simp
  have e2 : decide ((k : Int) > 5) = false := by simp; omega
  generalize (⟨(wordL k).toArray⟩ : ByteArray) = s at *
  clear h
  go_enter Tryd.func21, Tryd.ntmps21
  go_wp2
  go_ret
  exact ⟨rfl, rfl⟩
theorem mixWord_bad (k : Int) (hk : k < 0 ∨ 5 < k) (w : World) : Calls Tryd.prog 21 #[.int .i64 k] w fun e w' => e = .returned (.string ⟨#[]⟩) ∧ w = w' := by
  by_cases h1 : k < 0
  · have e1 : decide (k < 0) = true := by simpa using h1
    clear hk h1
    go_enter Tryd.func21, Tryd.ntmps21
    go_wp2
    go_ret
    exact ⟨rfl, rfl⟩
  · have e1 : decide (k < 0) = false := by simpa using h1
    have e2 : decide (k > 5) = true := by simp; omega
    clear hk h1
    go_enter Tryd.func21, Tryd.ntmps21
    go_wp2
    go_ret
    exact ⟨rfl, rfl⟩
theorem wordL_ne (k : Nat) (hk : k ≤ 5) : ((⟨(wordL k).toArray⟩ : ByteArray).toList.isEmpty) = false := by
  have h : k = 0 ∨ k = 1 ∨ k = 2 ∨ k = 3 ∨ k = 4 ∨ k = 5 := by omega
  rcases h with rfl | rfl | rfl | rfl | rfl | rfl <;> decide +kernel

/-! ### Spread -/
/-- keys as cells -/
def KeysAt (w : World) (a : Option Addr) (n : Nat) (key : Nat → Nat) : Prop := n ≠ 0 → ∃ b off, a = some ⟨b, off, none⟩ ∧ b < w.heap.size ∧ ∀ w', Below w.heap.size w w' → ∀ i, i < n → w'.cell? ⟨b, off + i, none⟩ = some (.int .u64 (key i : Int))
/-- counts, newly made -/
def GivesC (key : Nat → Nat) (k d n : Nat) (bad : Value) (w : World) (e : Ending) (w' : World) : Prop := ∃ R, e = .returned (.tuple #[.slice (some ⟨R, 0, none⟩) (2 ^ d) (2 ^ d), bad]) ∧ Blk w' R 3 (arrF (2 ^ d) (cntF key k d n)) ∧ w.heap.size ≤ R ∧ Below w.heap.size w w'
end Go.Proofs.YtplimhllfbdocaaDoor
