/- Package group: the plain law: what Put and Erase change. No condition. -/
import Derived.Test.YtcmjddkljmfklaaDoorGroupAny
namespace Go.Proofs.YtcmjddkljmfklaaDoor
set_option linter.unusedVariables false
set_option linter.unusedSimpArgs false
open Go.RowKit Go.Proofs

theorem filter_add {f g : Nat → Bool} {k : Nat} (hf : f k = false) (hg : g k = true) (h : ∀ i, i ≠ k → g i = f i) : ∀ {l : List Nat}, l.Nodup → k ∈ l → (l.filter g).length = (l.filter f).length + 1
  | [], _, hk => by cases hk
  | a :: l, hn, hk => by
    have hn' := List.nodup_cons.1 hn
    by_cases e : a = k
    · subst e
      have hs : l.filter g = l.filter f := List.filter_congr fun i hi => h i (fun e => hn'.1 (e ▸ hi))
      rw [List.filter_cons_of_pos hg, List.filter_cons_of_neg (by rw [hf]; simp), hs]; rfl
    · have hk' : k ∈ l := by
        rcases List.mem_cons.1 hk with e' | h'
        · exact absurd e'.symm e
        · exact h'
      have ih := filter_add hf hg h hn'.2 hk'
      cases c : f a
      · rw [List.filter_cons_of_neg (by rw [h a e, c]; simp), List.filter_cons_of_neg (by rw [c]; simp), ih]
      · rw [List.filter_cons_of_pos (by rw [h a e, c]), List.filter_cons_of_pos c, List.length_cons, List.length_cons, ih]
theorem lanes_add {f g : Nat → Bool} {k : Nat} (hk : k < 8) (hf : f k = false) (hg : g k = true) (h : ∀ i, i ≠ k → i < 8 → g i = f i) : (lanesL g).length = (lanesL f).length + 1 := by
  have e : lanesL g = lanesL (fun i => if i = k then true else f i) := lanesL_congr fun i hi => by
    by_cases c : i = k
    · subst c; rw [if_pos rfl, hg]
    · rw [if_neg c, h i c hi]
  rw [e]
  exact filter_add hf (if_pos rfl) (fun i hi => if_neg hi) List.nodup_range (by simpa using hk)
theorem fullE_false {m k : Nat} (hk : k < 8) (h : fullE m (k : Int) false = 0) : fullB m k = false := by
  obtain ⟨j, e, hj, hd⟩ := fullE_zero h
  obtain rfl : k = j := by omega
  rw [full_not]; simpa using hd
theorem fullE_true {m k : Nat} (hk : k < 8) (h : fullE m (k : Int) true = 0) : fullB m k = true := by
  obtain ⟨j, e, hj, hd⟩ := fullE_zero h
  obtain rfl : k = j := by omega
  rw [full_iff]; simpa using hd
theorem full_put (m k q i : Nat) (hq : q < 128) (hi : i < 8) : fullB (setL m k q) i = if i = k then true else fullB m i := by
  by_cases e : i = k
  · rw [if_pos e, full_iff, ln_setL m k q i (by omega) hi, if_pos e]; exact hq
  · rw [if_neg e, Bool.eq_iff_iff, full_iff, full_iff, ln_setL m k q i (by omega) hi, if_neg e]
theorem full_gone (m k i : Nat) (hi : i < 8) : fullB (setL m k (goneN m)) i = if i = k then false else fullB m i := by
  by_cases e : i = k
  · rw [if_pos e, full_not, ln_setL m k _ i (goneN_lt m) hi, if_pos e]; exact goneN_high m
  · rw [if_neg e, Bool.eq_iff_iff, full_iff, full_iff, ln_setL m k _ i (goneN_lt m) hi, if_neg e]
theorem put_count {m k : Nat} (q : Nat) (hk : k < 8) (hq : q < 128) (h : fullE m (k : Int) false = 0) : (lanesL (fullB (setL m k q))).length = (lanesL (fullB m)).length + 1 :=
  lanes_add hk (fullE_false hk h) (by rw [full_put m k q k hq hk, if_pos rfl]) (fun i hi h8 => by rw [full_put m k q i hq h8, if_neg hi])
theorem erase_count {m k : Nat} (hk : k < 8) (h : fullE m (k : Int) true = 0) : (lanesL (fullB m)).length = (lanesL (fullB (setL m k (goneN m)))).length + 1 :=
  lanes_add hk (by rw [full_gone m k k hk, if_pos rfl]) (fullE_true hk h) (fun i hi h8 => by rw [full_gone m k i h8, if_neg hi])
theorem find_cases (s : Nat → EntS) (key : Int) (f : Nat → Bool) : (findZ s key (lanesL f) = -1 ∧ ∀ j, j < 8 → f j = true → (s j).key ≠ key) ∨ ∃ k : Nat, findZ s key (lanesL f) = (k : Int) ∧ k < 8 ∧ f k = true ∧ (s k).key = key ∧ ∀ j, j < k → f j = true → (s j).key ≠ key := by
  rw [find_scan]
  rcases scan_cases (fun i => f i && (s i).key == key) with ⟨h1, h2⟩ | ⟨k, h1, h2, h3, h4⟩
  · exact .inl ⟨h1, fun j hj hf e => by have := h2 j hj; simp [hf, e] at this⟩
  · simp only [Bool.and_eq_true, beq_iff_eq] at h3
    exact .inr ⟨k, h1, h2, h3.1, h3.2, fun j hj hf e => by have := h4 j hj; simp [hf, e] at this⟩
theorem find_is {s : Nat → EntS} {key : Int} {f : Nat → Bool} {k : Nat} (hk : k < 8) (hf : f k = true) (he : (s k).key = key) (hb : ∀ j, j < k → f j = true → (s j).key ≠ key) : findZ s key (lanesL f) = (k : Int) := by
  rw [find_scan]
  refine scan_hit hk (by simp [hf, he]) fun j hj => ?_
  cases c : f j
  · simp
  · simp [hb j hj c]
theorem put_find {m k : Nat} {s : Nat → EntS} {key v : Int} {h : Nat} (hk : k < 8) (hf : fullE m (k : Int) false = 0) (hn : findZ s key (lanesL (equalB m (h % 128))) < 0) :
    findZ (putS s k ⟨key, v, h⟩) key (lanesL (equalB (setL m k (h % 128)) (h % 128))) = (k : Int) := by
  have hq : h % 128 < 128 := Nat.mod_lt _ (by decide)
  have hl : ∀ i, i < 8 → equalB (setL m k (h % 128)) (h % 128) i = if i = k then true else equalB m (h % 128) i := fun i hi => by
    unfold equalB; rw [ln_setL m k _ i (by omega) hi]
    by_cases e : i = k
    · simp [e]
    · simp [e]
  rcases find_cases s key (equalB m (h % 128)) with ⟨-, h2⟩ | ⟨j, h1, -⟩
  · refine find_is hk (by rw [hl k hk, if_pos rfl]) (by rw [putS_same]) fun j hj hfj => ?_
    rw [hl j (by omega), if_neg (by omega)] at hfj
    unfold putS; rw [if_neg (by omega)]
    exact h2 j (by omega) hfj
  · rw [h1] at hn; omega
theorem erase_find {m k : Nat} {s : Nat → EntS} {key : Int} {h : Nat} (hk : k < 8) : findZ s key (lanesL (equalB (setL m k (goneN m)) (h % 128))) ≠ (k : Int) := by
  intro e
  rcases find_cases s key (equalB (setL m k (goneN m)) (h % 128)) with ⟨h1, -⟩ | ⟨j, h1, h2, h3, -⟩
  · rw [h1] at e; omega
  · rw [h1] at e
    obtain rfl : j = k := by omega
    unfold equalB at h3
    rw [ln_setL m j _ j (goneN_lt m) hk, if_pos rfl] at h3
    have := goneN_high m
    have hq : h % 128 < 128 := Nat.mod_lt _ (by decide)
    simp at h3; omega
theorem open_iff (m : Nat) : openB m = true ↔ ∃ i, i < 8 ∧ ln m i = 128 := by
  unfold openB equalB
  simp
theorem open_put {m k : Nat} (q : Nat) (hq : q < 128) (h : openB m = false) : openB (setL m k q) = false := by
  rw [← Bool.not_eq_true, open_iff] at h ⊢
  rintro ⟨i, hi, e⟩
  rw [ln_setL m k q i (by omega) hi] at e
  by_cases c : i = k
  · rw [if_pos c] at e; omega
  · rw [if_neg c] at e; exact h ⟨i, hi, e⟩
theorem open_gone {m k : Nat} (h : openB m = false) : openB (setL m k (goneN m)) = false := by
  have hg : goneN m = 254 := by unfold goneN; rw [h]; rfl
  rw [hg]
  rw [← Bool.not_eq_true, open_iff] at h ⊢
  rintro ⟨i, hi, e⟩
  rw [ln_setL m k 254 i (by omega) hi] at e
  by_cases c : i = k
  · rw [if_pos c] at e; omega
  · rw [if_neg c] at e; exact h ⟨i, hi, e⟩
end Go.Proofs.YtcmjddkljmfklaaDoor
