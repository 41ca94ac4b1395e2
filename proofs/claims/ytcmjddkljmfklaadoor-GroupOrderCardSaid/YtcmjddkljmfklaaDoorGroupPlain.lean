/- Package group: the plain law: what a group answers, by its slots. No condition. -/
import Derived.Test.YtcmjddkljmfklaaDoorGroupErase
import Derived.Test.YtcmjddkljmfklaaDoorGroupFree
import Derived.Test.YtcmjddkljmfklaaDoorGroupFind
namespace Go.Proofs.YtcmjddkljmfklaaDoor
set_option linter.unusedVariables false
set_option linter.unusedSimpArgs false
open Go.RowKit Go.Proofs

/-- the first of eight that is so; -1: none -/
def scanZ (p : Nat → Bool) : Int := match (List.range 8).find? p with | none => -1 | some n => (n : Int)
theorem scan_hit {p : Nat → Bool} {k : Nat} (hk : k < 8) (h : p k = true) (hb : ∀ j, j < k → p j = false) : scanZ p = (k : Int) := by
  have : (List.range 8).find? p = some k := by
    rw [List.find?_eq_some_iff_getElem]
    exact ⟨h, k, by simpa using hk, by simp, fun j hj => by simpa using hb j hj⟩
  unfold scanZ; rw [this]
theorem scan_miss {p : Nat → Bool} (h : ∀ j, j < 8 → p j = false) : scanZ p = -1 := by
  have : (List.range 8).find? p = none := by
    rw [List.find?_eq_none]
    intro x hx
    simpa using h x (by simpa using hx)
  unfold scanZ; rw [this]
theorem find_congr {α : Type} {p q : α → Bool} : ∀ {l : List α}, (∀ x ∈ l, p x = q x) → l.find? p = l.find? q
  | [], _ => rfl
  | a :: l, h => by rw [List.find?_cons, List.find?_cons, h a (by simp), find_congr (fun x hx => h x (by simp [hx]))]
theorem scan_congr {p q : Nat → Bool} (h : ∀ i, i < 8 → p i = q i) : scanZ p = scanZ q := by
  unfold scanZ
  rw [find_congr (fun x hx => h x (by simpa using hx))]
theorem scan_cases (p : Nat → Bool) : (scanZ p = -1 ∧ ∀ j, j < 8 → p j = false) ∨ ∃ k : Nat, scanZ p = (k : Int) ∧ k < 8 ∧ p k = true ∧ ∀ j, j < k → p j = false := by
  cases h : (List.range 8).find? p with
  | none =>
    rw [List.find?_eq_none] at h
    have : ∀ j, j < 8 → p j = false := fun j hj => by simpa using h j (by simpa using hj)
    exact .inl ⟨scan_miss this, this⟩
  | some k =>
    rw [List.find?_eq_some_iff_getElem] at h
    obtain ⟨h1, i, hi, e, h2⟩ := h
    simp at e hi
    subst e
    have hb : ∀ j, j < i → p j = false := fun j hj => by simpa using h2 j hj
    exact .inr ⟨i, scan_hit hi h1 hb, hi, h1, hb⟩
theorem find_scan (s : Nat → EntS) (key : Int) (f : Nat → Bool) : findZ s key (lanesL f) = scanZ (fun i => f i && (s i).key == key) := by
  unfold findZ scanZ lanesL
  rw [List.find?_filter]
  have e : (fun a => decide (f a = true ∧ ((s a).key == key) = true)) = (fun i => f i && (s i).key == key) := by
    funext a; rw [Bool.eq_iff_iff]; simp
  try rw [e]
  all_goals (generalize List.find? (fun i => f i && (s i).key == key) (List.range 8) = r; cases r <;> rfl)
theorem free_scan (m : Nat) : freeZ m = scanZ (fun i => !fullB m i) := by
  unfold freeZ
  have e : ∀ i, (!fullB m i) = highB m i := fun i => by unfold fullB; simp
  simp only [e]
  cases h : firstL (highB m) with
  | none => rw [scan_miss (firstL_none h)]
  | some j =>
    obtain ⟨h1, h2, h3⟩ := firstL_some h
    rw [scan_hit h1 h2 h3]

/-- a group as groups get -/
def GGood (m : Nat) (s : Nat → EntS) : Prop :=
  m < 18446744073709551616 ∧ ∀ i, i < 8 → ctrlB (ln m i) = true ∧ ∃ h : Nat, (s i).hash = (h : Int) ∧ h < 18446744073709551616 ∧ (ln m i < 128 → ln m i = h % 128)
theorem full_iff (m i : Nat) : fullB m i = true ↔ ln m i < 128 := by unfold fullB highB; simp
theorem full_not (m i : Nat) : fullB m i = false ↔ ¬ ln m i < 128 := by rw [← full_iff]; simp
theorem GGood.new : GGood (rep 128) (fun _ => EntS.zero) :=
  ⟨by decide, fun i hi => by rw [ln_rep 128 i (by decide) hi]; exact ⟨rfl, 0, rfl, by decide, fun h => by omega⟩⟩
theorem GGood.put {m : Nat} {s : Nat → EntS} (hg : GGood m s) (k h : Nat) (x0 x1 : Int) (hh : h < 18446744073709551616) : GGood (setL m k (h % 128)) (putS s k ⟨x0, x1, h⟩) :=
  ⟨setL_lt _ _ _ (by omega), fun i hi => by
    rw [ln_setL m k _ i (by omega) hi]
    unfold putS
    by_cases e : i = k
    · rw [if_pos e, if_pos e]; exact ⟨ctrlB_low _ (by omega), h, rfl, hh, fun _ => rfl⟩
    · rw [if_neg e, if_neg e]; exact hg.2 i hi⟩
theorem GGood.setv {m : Nat} {s : Nat → EntS} (hg : GGood m s) (k : Nat) (v : Int) : GGood m (putS s k { s k with val := v }) :=
  ⟨hg.1, fun i hi => by
    unfold putS
    by_cases e : i = k
    · rw [if_pos e]; subst e; exact hg.2 i hi
    · rw [if_neg e]; exact hg.2 i hi⟩
theorem goneN_lt (m : Nat) : goneN m < 256 := by unfold goneN; split <;> decide
theorem goneN_high (m : Nat) : ¬ goneN m < 128 := by unfold goneN; split <;> decide
theorem goneN_ctrl (m : Nat) : ctrlB (goneN m) = true := by unfold goneN; split <;> decide
theorem GGood.erase {m : Nat} {s : Nat → EntS} (hg : GGood m s) (k : Nat) : GGood (setL m k (goneN m)) (putS s k EntS.zero) :=
  ⟨setL_lt _ _ _ (goneN_lt m), fun i hi => by
    rw [ln_setL m k _ i (goneN_lt m) hi]
    unfold putS
    by_cases e : i = k
    · rw [if_pos e, if_pos e]; exact ⟨goneN_ctrl m, 0, rfl, by decide, fun h => (goneN_high m h).elim⟩
    · rw [if_neg e, if_neg e]; exact hg.2 i hi⟩
/-- the document's Find -/
def dfindP (m : Nat) (s : Nat → EntS) (key : Int) (h : Nat) (i : Nat) : Bool := fullB m i && ((s i).key == key && (s i).hash % 128 == ((h % 128 : Nat) : Int))
theorem find_doc {m : Nat} {s : Nat → EntS} (hg : GGood m s) (key : Int) (h : Nat) : findZ s key (lanesL (equalB m (h % 128))) = scanZ (dfindP m s key h) := by
  rw [find_scan]
  refine scan_congr fun i hi => ?_
  obtain ⟨hc, q, hq, -, hl⟩ := hg.2 i hi
  unfold dfindP
  rw [hq, Bool.eq_iff_iff]
  simp only [Bool.and_eq_true, beq_iff_eq]
  have e1 : equalB m (h % 128) i = true ↔ ln m i = h % 128 := by unfold equalB; simp
  rw [e1, full_iff]
  constructor
  · rintro ⟨h1, h2⟩
    have := hl (by omega)
    exact ⟨by omega, h2, by omega⟩
  · rintro ⟨h1, h2, h3⟩
    have := hl h1
    exact ⟨by omega, h2⟩
/-- how many slots are of a kind -/
def countK (m k : Nat) : Nat := ((List.range 8).filter (fun i => decide (kindN (ln m i) = k))).length
theorem count_full (m : Nat) : (lanesL (fullB m)).length = countK m 3 := by
  unfold countK lanesL
  congr 1
  exact List.filter_congr fun i _ => (kind_full m i).symm
theorem count_deleted (m : Nat) : (lanesL (equalB m 254)).length = countK m 2 := by
  unfold countK lanesL
  congr 1
  exact List.filter_congr fun i _ => (kind_deleted m i).symm
theorem count_empty (m : Nat) : (lanesL (equalB m 128)).length = countK m 1 := by
  unfold countK lanesL
  congr 1
  exact List.filter_congr fun i _ => (kind_empty m i).symm
theorem open_count (m : Nat) : openB m = decide (0 < countK m 1) := by
  rw [← count_empty]
  unfold openB lanesL
  rw [Bool.eq_iff_iff, List.any_eq_true, decide_eq_true_iff, List.length_pos_iff_exists_mem]
  constructor
  · rintro ⟨i, h1, h2⟩; exact ⟨i, by simp only [List.mem_filter]; exact ⟨h1, h2⟩⟩
  · rintro ⟨i, h⟩; simp only [List.mem_filter] at h; exact ⟨i, h.1, h.2⟩
theorem countK_le (m k : Nat) : countK m k ≤ 8 := by
  have := List.length_filter_le (fun i => decide (kindN (ln m i) = k)) (List.range 8)
  simpa [countK] using this
/-- the entries of all full slots -/
def entsL (m : Nat) (s : Nat → EntS) : List EntS := (lanesL (fullB m)).map s
end Go.Proofs.YtcmjddkljmfklaaDoor
