/- Package group: the state of a group, and the methods that ask it. Condition: the errors' cells where it says so. -/
import Derived.Test.YtcmjddkljmfklaaDoorCtrlText
import Derived.Test.YtcmjddkljmfklaaDoorSwarCount
import Derived.Test.YtcmjddkljmfklaaDoorSwarFirst
import Derived.Test.YtcmjddkljmfklaaDoorMeter
import Derived.Test.YtcmjddkljmfklaaDoorOwn
namespace Go.Proofs.YtcmjddkljmfklaaDoor
set_option linter.unusedVariables false
set_option linter.unusedSimpArgs false
open Go.RowKit Go.Proofs

/-! ### arrays by a function -/
def arrV (n : Nat) (F : Nat → Value) : Array Value := ((List.range n).map F).toArray
theorem arrV_size (n : Nat) (F : Nat → Value) : (arrV n F).size = n := by simp [arrV]
theorem arrV_get (n : Nat) (F : Nat → Value) (j : Nat) (hj : j < n) : (arrV n F)[j]? = some (F j) := by simp [arrV, hj]
theorem arrV_set (n : Nat) (F : Nat → Value) (k : Nat) (x : Value) (hk : k < n) : (arrV n F).setIfInBounds k x = arrV n (fun j => if j = k then x else F j) := by
  apply Array.ext_getElem?
  intro j
  rw [Array.getElem?_setIfInBounds]
  by_cases hj : j < n
  · rw [arrV_get _ _ _ hj, arrV_get _ _ _ hj, arrV_size]
    by_cases e : k = j
    · subst e; rw [if_pos rfl, if_pos hk, if_pos rfl]
    · rw [if_neg e, if_neg (fun h => e h.symm)]
  · rw [Array.getElem?_eq_none (by rw [arrV_size]; omega), Array.getElem?_eq_none (by rw [arrV_size]; omega)]
    split
    · rename_i e; subst e; rw [if_neg (by rw [arrV_size]; omega)]
    · rfl
theorem arrV_congr {n : Nat} {F F' : Nat → Value} (h : ∀ j, j < n → F j = F' j) : arrV n F = arrV n F' := by
  unfold arrV; congr 1; exact List.map_congr_left fun j hj => h j (by simpa using hj)

/-! ### a group -/
structure EntS where
  key : Int
  val : Int
  hash : Int
def EntS.zero : EntS := ⟨0, 0, 0⟩
def gF (m : Nat) (s : Nat → EntS) (j : Nat) : Value :=
  if j = 0 then .int .u64 (m : Int) else if (j - 1) % 3 = 0 then .int .u64 (s ((j - 1) / 3)).key else if (j - 1) % 3 = 1 then .int .u64 (s ((j - 1) / 3)).val else .int .u64 (s ((j - 1) / 3)).hash
def putS (s : Nat → EntS) (i : Nat) (e : EntS) : Nat → EntS := fun q => if q = i then e else s q
/-- a group of these cells lies at this place -/
def GW (w : World) (G o m : Nat) (s : Nat → EntS) : Prop := ∃ T A, Blk w G T A ∧ ∀ j, j < 25 → A[o + j]? = some (gF m s j)
theorem GW.lt {w : World} {G o m : Nat} {s : Nat → EntS} (h : GW w G o m s) : G < w.heap.size := by obtain ⟨T, A, h, -⟩ := h; exact h.lt
theorem GW.below {n : Nat} {w w' : World} {G o m : Nat} {s : Nat → EntS} (h : GW w G o m s) (hb : Below n w w') (hG : G < n) : GW w' G o m s := by obtain ⟨T, A, h, k⟩ := h; exact ⟨T, A, h.below hb hG, k⟩
theorem GW.chg {X : Nat → Prop} {w w' : World} {G o m : Nat} {s : Nat → EntS} (h : GW w G o m s) (hb : Chg X w w') (hG : ¬ X G) : GW w' G o m s := by obtain ⟨T, A, h, k⟩ := h; exact ⟨T, A, h.chg hb hG, k⟩
theorem GW.alloc {w : World} {G o m : Nat} {s : Nat → EntS} (h : GW w G o m s) (b : Obj) : GW (w.alloc b) G o m s := by obtain ⟨T, A, h, k⟩ := h; exact ⟨T, A, h.alloc b, k⟩
theorem GW.drew {w : World} {G o m : Nat} {s : Nat → EntS} (h : GW w G o m s) : GW w.drew G o m s := h
theorem GW.cellJ {w : World} {G o m : Nat} {s : Nat → EntS} (h : GW w G o m s) (j : Nat) (hj : j < 25) : w.cell? ⟨G, o + j, none⟩ = some (gF m s j) := by obtain ⟨T, A, h, k⟩ := h; exact (h.cell _).trans (k j hj)
theorem GW.word {w : World} {G o m : Nat} {s : Nat → EntS} (h : GW w G o m s) : w.cell? ⟨G, o, none⟩ = some (.int .u64 (m : Int)) := h.cellJ 0 (by decide)
theorem GW.frozen {w : World} {G o m : Nat} {s : Nat → EntS} (h : GW w G o m s) (j : Nat) : w.frozen? ⟨G, j, none⟩ = false := by obtain ⟨T, A, h, k⟩ := h; exact h.frozen j
theorem gF_0 (m : Nat) (s : Nat → EntS) (i : Nat) : gF m s (1 + i * 3) = .int .u64 (s i).key := by
  unfold gF; rw [if_neg (by omega), if_pos (by omega), show (1 + i * 3 - 1) / 3 = i by omega]
theorem gF_1 (m : Nat) (s : Nat → EntS) (i : Nat) : gF m s (1 + i * 3 + 1) = .int .u64 (s i).val := by
  unfold gF; rw [if_neg (by omega), if_neg (by omega), if_pos (by omega), show (1 + i * 3 + 1 - 1) / 3 = i by omega]
theorem gF_2 (m : Nat) (s : Nat → EntS) (i : Nat) : gF m s (1 + i * 3 + 2) = .int .u64 (s i).hash := by
  unfold gF; rw [if_neg (by omega), if_neg (by omega), if_neg (by omega), show (1 + i * 3 + 2 - 1) / 3 = i by omega]
theorem GW.slot {w : World} {G o m : Nat} {s : Nat → EntS} (h : GW w G o m s) (i : Nat) (hi : i < 8) :
    w.cell? ⟨G, o + 1 + i * 3, none⟩ = some (.int .u64 (s i).key) ∧ w.cell? ⟨G, o + 1 + i * 3 + 1, none⟩ = some (.int .u64 (s i).val) ∧ w.cell? ⟨G, o + 1 + i * 3 + 2, none⟩ = some (.int .u64 (s i).hash) := by
  have h0 := h.cellJ (1 + i * 3) (by omega)
  have h1 := h.cellJ (1 + i * 3 + 1) (by omega)
  have h2 := h.cellJ (1 + i * 3 + 2) (by omega)
  rw [gF_0] at h0; rw [gF_1] at h1; rw [gF_2] at h2
  refine ⟨?_, ?_, ?_⟩
  · rw [show o + 1 + i * 3 = o + (1 + i * 3) by omega]; exact h0
  · rw [show o + 1 + i * 3 + 1 = o + (1 + i * 3 + 1) by omega]; exact h1
  · rw [show o + 1 + i * 3 + 2 = o + (1 + i * 3 + 2) by omega]; exact h2
theorem putS_same (s : Nat → EntS) (i : Nat) (e : EntS) : putS s i e i = e := if_pos rfl
theorem GW.setWord {w : World} {G o m : Nat} {s : Nat → EntS} (h : GW w G o m s) (m' : Nat) : GW (w.setCell ⟨G, o, none⟩ (.int .u64 (m' : Int))) G o m' s := by
  obtain ⟨T, A, h, k⟩ := h
  refine ⟨T, _, h.set o (.int .u64 (m' : Int)), fun j hj => ?_⟩
  have hk := k j hj
  rw [Array.getElem?_setIfInBounds]
  by_cases e : j = 0
  · subst e; rw [if_pos (by omega), if_pos (by have := (Array.getElem?_eq_some_iff.1 (k 0 hj)).1; omega)]; rfl
  · rw [if_neg (by omega), hk]; unfold gF; rw [if_neg e, if_neg e]
theorem GW.setSlot {w : World} {G o m : Nat} {s : Nat → EntS} (h : GW w G o m s) (i : Nat) (hi : i < 8) (e : EntS) :
    GW (((w.setCell ⟨G, o + 1 + i * 3, none⟩ (.int .u64 e.key)).setCell ⟨G, o + 1 + i * 3 + 1, none⟩ (.int .u64 e.val)).setCell ⟨G, o + 1 + i * 3 + 2, none⟩ (.int .u64 e.hash)) G o m (putS s i e) := by
  obtain ⟨T, A, h, k⟩ := h
  refine ⟨T, _, ((h.set (o + 1 + i * 3) (.int .u64 e.key)).set (o + 1 + i * 3 + 1) (.int .u64 e.val)).set (o + 1 + i * 3 + 2) (.int .u64 e.hash), fun j hj => ?_⟩
  have hk := k j hj
  have hlt := (Array.getElem?_eq_some_iff.1 hk).1
  simp only [Array.getElem?_setIfInBounds, Array.size_setIfInBounds]
  by_cases e2 : j = 1 + i * 3 + 2
  · subst e2; rw [if_pos (by omega), if_pos (by omega), gF_2, putS_same]
  · rw [if_neg (by omega)]
    by_cases e1 : j = 1 + i * 3 + 1
    · subst e1; rw [if_pos (by omega), if_pos (by omega), gF_1, putS_same]
    · rw [if_neg (by omega)]
      by_cases e0 : j = 1 + i * 3
      · subst e0; rw [if_pos (by omega), if_pos (by omega), gF_0, putS_same]
      · rw [if_neg (by omega), hk]
        unfold gF putS
        by_cases z : j = 0
        · rw [if_pos z, if_pos z]
        · rw [if_neg z, if_neg z, if_neg (show ¬ (j - 1) / 3 = i by omega)]
theorem GW.setVal {w : World} {G o m : Nat} {s : Nat → EntS} (h : GW w G o m s) (i : Nat) (hi : i < 8) (v : Int) :
    GW (w.setCell ⟨G, o + 1 + i * 3 + 1, none⟩ (.int .u64 v)) G o m (putS s i { s i with val := v }) := by
  obtain ⟨T, A, h, k⟩ := h
  refine ⟨T, _, h.set (o + 1 + i * 3 + 1) (.int .u64 v), fun j hj => ?_⟩
  have hk := k j hj
  have hlt := (Array.getElem?_eq_some_iff.1 hk).1
  simp only [Array.getElem?_setIfInBounds]
  by_cases e1 : j = 1 + i * 3 + 1
  · subst e1; rw [if_pos (by omega), if_pos (by omega), gF_1, putS_same]
  · rw [if_neg (by omega), hk]
    by_cases e0 : j = 1 + i * 3
    · subst e0; rw [gF_0, gF_0, putS_same]
    · by_cases e2 : j = 1 + i * 3 + 2
      · subst e2; rw [gF_2, gF_2, putS_same]
      · unfold gF putS
        by_cases z : j = 0
        · rw [if_pos z, if_pos z]
        · rw [if_neg z, if_neg z, if_neg (show ¬ (j - 1) / 3 = i by omega)]
/-- the worlds differ, of the blocks that were there, in this group alone -/
structure ChgG (G o : Nat) (w w' : World) : Prop where
  chg : Chg (fun b => b = G) w w'
  rest : ∀ T A, Blk w G T A → ∃ A', Blk w' G T A' ∧ A'.size = A.size ∧ ∀ j, (j < o ∨ o + 25 ≤ j) → A'[j]? = A[j]?
theorem ChgG.of_below {G o : Nat} {w w' : World} (h : Below w.heap.size w w') : ChgG G o w w' := ⟨Chg.of_below h, fun T A hA => ⟨A, hA.below h hA.lt, rfl, fun _ _ => rfl⟩⟩
theorem ChgG.trans {G o : Nat} {a b c : World} (h : ChgG G o a b) (k : ChgG G o b c) : ChgG G o a c :=
  ⟨h.chg.trans k.chg, fun T A hA => by
    obtain ⟨A1, h1, s1, r1⟩ := h.rest T A hA
    obtain ⟨A2, h2, s2, r2⟩ := k.rest T A1 h1
    exact ⟨A2, h2, s2.trans s1, fun j hj => (r2 j hj).trans (r1 j hj)⟩⟩
theorem ChgG.drew {G o : Nat} {a w : World} (h : ChgG G o a w) : ChgG G o a w.drew := ⟨h.chg.drew, h.rest⟩
theorem ChgG.undrew {G o : Nat} {w w' : World} (h : ChgG G o w.drew w') : ChgG G o w w' := ⟨h.chg.undrew, h.rest⟩
theorem ChgG.alloc {G o : Nat} {a w : World} (h : ChgG G o a w) (b : Obj) : ChgG G o a (w.alloc b) := ⟨h.chg.alloc b, fun T A hA => by obtain ⟨A1, h1, k⟩ := h.rest T A hA; exact ⟨A1, h1.alloc b, k⟩⟩
theorem ChgG.thenBelow {G o : Nat} {a b c : World} (h : ChgG G o a b) (k : Below b.heap.size b c) : ChgG G o a c := h.trans (ChgG.of_below k)
theorem ChgG.set1 {G o : Nat} {a w : World} (h : ChgG G o a w) (off : Nat) (u : Value) (hoff : o ≤ off ∧ off < o + 25) : ChgG G o a (w.setCell ⟨G, off, none⟩ u) :=
  ⟨h.chg.set1 off u, fun T A hA => by
    obtain ⟨A1, h1, s1, r1⟩ := h.rest T A hA
    exact ⟨_, h1.set off u, by rw [Array.size_setIfInBounds, s1], fun j hj => by rw [Array.getElem?_setIfInBounds, if_neg (by omega), r1 j hj]⟩⟩
theorem GW.chgG {w w' : World} {G o o' m : Nat} {s : Nat → EntS} (h : GW w G o' m s) (c : ChgG G o w w') (hd : o' + 25 ≤ o ∨ o + 25 ≤ o') : GW w' G o' m s := by
  obtain ⟨T, A, h, k⟩ := h
  obtain ⟨A1, h1, s1, r1⟩ := c.rest T A h
  exact ⟨T, A1, h1, fun j hj => by rw [r1 _ (by omega), k j hj]⟩
/-- a view of a group -/
def viewV (G o : Nat) : Value := .agg #[.pointer (some ⟨G, o, none⟩)]
theorem gnew_cells (m : Nat) : arrV 25 (gF m (fun _ => EntS.zero)) = #[.int .u64 (m : Int), .int .u64 0, .int .u64 0, .int .u64 0, .int .u64 0, .int .u64 0, .int .u64 0, .int .u64 0, .int .u64 0, .int .u64 0, .int .u64 0, .int .u64 0, .int .u64 0, .int .u64 0, .int .u64 0, .int .u64 0, .int .u64 0, .int .u64 0, .int .u64 0, .int .u64 0, .int .u64 0, .int .u64 0, .int .u64 0, .int .u64 0, .int .u64 0] := rfl
theorem gnew_whole {w : World} {B : Nat} (h : GW w B 0 (rep 128) (fun _ => EntS.zero)) : w.rangeAt B 0 [.int .u64 ((rep 128 : Nat) : Int), .int .u64 0, .int .u64 0, .int .u64 0, .int .u64 0, .int .u64 0, .int .u64 0, .int .u64 0, .int .u64 0, .int .u64 0, .int .u64 0, .int .u64 0, .int .u64 0, .int .u64 0, .int .u64 0, .int .u64 0, .int .u64 0, .int .u64 0, .int .u64 0, .int .u64 0, .int .u64 0, .int .u64 0, .int .u64 0, .int .u64 0, .int .u64 0] := by
  intro j v hj
  have hlt : j < 25 := (List.getElem?_eq_some_iff.1 hj).1
  have := h.cellJ j hlt
  rw [Nat.zero_add] at this ⊢
  rw [this]
  have e := arrV_get 25 (gF (rep 128) (fun _ => EntS.zero)) j hlt
  rw [gnew_cells, List.getElem?_toArray] at e
  exact e.symm.trans hj
set_option maxRecDepth 100000 in
set_option maxHeartbeats 1000000 in
theorem gnew_any (w : World) : Calls Tryd.prog 31 #[] w fun e w' => e = .returned (.pointer (some ⟨w.heap.size, 0, none⟩)) ∧ GW w' w.heap.size 0 (rep 128) (fun _ => EntS.zero) ∧ Below w.heap.size w w' := by
  go_enter Tryd.func31, Tryd.ntmps31
  go_wp2_with (go_at_call 85; refine (cnew_any _).mono ?_; rintro e w' ⟨rfl, rfl⟩)
  go_ret
  exact ⟨rfl, ⟨_, _, Blk.new _ _ _, fun j hj => by rw [← gnew_cells, Nat.zero_add]; exact arrV_get _ _ _ hj⟩, by go_grown⟩
set_option maxRecDepth 100000 in
set_option maxHeartbeats 1000000 in
theorem gtext_any (G o m : Nat) (s : Nat → EntS) (hm : m < 18446744073709551616) (w : World) (h : GW w G o m s) :
    Calls Tryd.prog 34 #[.agg #[.pointer (some ⟨G, o, none⟩)]] w fun e w' => e = .returned (.string (textW m)) ∧ Below w.heap.size w w' := by
  have c0 := h.word
  have hl := h.lt
  clear h
  go_enter Tryd.func34, Tryd.ntmps34
  go_wp2_with (go_at_call 90; refine (ctext_any m hm _).mono ?_; rintro e w1 ⟨rfl, hb⟩)
  go_ret
  exact ⟨rfl, Below.trans (by go_grown) (hb.mono (by simp))⟩
theorem gopen_bit (m : Nat) : (decide (maskB (equalB m 128) ≠ 0)) = (List.range 8).any (equalB m 128) := by
  rw [Bool.eq_iff_iff, decide_eq_true_iff, List.any_eq_true]
  constructor
  · intro h
    apply Classical.byContradiction
    intro hn
    apply h
    have h0 : maskB (equalB m 128) = maskB (fun _ => false) := maskB_congr fun i hi => by
      cases e : equalB m 128 i with
      | false => rfl
      | true => exact (hn ⟨i, by simpa using hi, e⟩).elim
    rw [h0]; rfl
  · rintro ⟨i, hi, e⟩ h
    have h0 : maskB (equalB m 128) = maskB (fun _ => false) := by rw [h]; rfl
    have := maskB_inj h0 i (by simpa using hi)
    rw [e] at this; cases this
/-- is a slot empty? -/
def openB (m : Nat) : Bool := (List.range 8).any (equalB m 128)
set_option maxRecDepth 100000 in
set_option maxHeartbeats 1000000 in
theorem gopen_any (G o m : Nat) (s : Nat → EntS) (hm : m < 18446744073709551616) (w : World) (h : GW w G o m s) :
    Calls Tryd.prog 39 #[.agg #[.pointer (some ⟨G, o, none⟩)]] w fun e w' => e = .returned (.bool (openB m)) ∧ Below w.heap.size w w' := by
  have c0 := h.word
  have hl := h.lt
  have hb := gopen_bit m
  have E := Lib.hid (cempties_any m hm)
  have hz : (((maskB (equalB m 128) : Nat) : Int) != 0) = openB m := by
    unfold openB; rw [← hb, Bool.eq_iff_iff, decide_eq_true_iff]; simp
  generalize maskB (equalB m 128) = q at *
  generalize openB m = ob at *
  have HZ := Lib.hid hz
  clear h hb hz
  go_enter Tryd.func39, Tryd.ntmps39
  go_wp2_with (go_at_call 95; refine (E.out _).mono ?_; rintro e w' ⟨rfl, rfl⟩)
  go_ret
  exact ⟨by rw [← HZ.out]; rfl, by go_grown⟩
set_option maxRecDepth 100000 in
set_option maxHeartbeats 1000000 in
theorem gfull_any (G o m : Nat) (s : Nat → EntS) (hm : m < 18446744073709551616) (w : World) (h : GW w G o m s) :
    Calls Tryd.prog 40 #[.agg #[.pointer (some ⟨G, o, none⟩)]] w fun e w' => e = .returned (.int .i64 ((lanesL (fullB m)).length : Int)) ∧ Below w.heap.size w w' := by
  have c0 := h.word
  have hl := h.lt
  have E := Lib.hid (cfulls_any m hm)
  have C := count_any (maskB (fullB m)) (maskB_lt _)
  rw [show lanesL (highB (maskB (fullB m))) = lanesL (fullB m) from lanesL_congr fun i hi => maskB_high _ i hi] at C
  replace C := Lib.hid C
  generalize maskB (fullB m) = q at *
  generalize (lanesL (fullB m)).length = ob at *
  clear h
  go_enter Tryd.func40, Tryd.ntmps40
  go_wp2_with (first
    | (go_at_call 92; refine (E.out _).mono ?_; rintro e w' ⟨rfl, rfl⟩)
    | (go_at_call 93; refine (C.out _).mono ?_; rintro e w' ⟨rfl, rfl⟩))
  go_ret
  exact ⟨rfl, by go_grown⟩
set_option maxRecDepth 100000 in
set_option maxHeartbeats 1000000 in
theorem gdeleted_any (G o m : Nat) (s : Nat → EntS) (hm : m < 18446744073709551616) (w : World) (h : GW w G o m s) :
    Calls Tryd.prog 37 #[.agg #[.pointer (some ⟨G, o, none⟩)]] w fun e w' => e = .returned (.int .i64 ((lanesL (equalB m 254)).length : Int)) ∧ Below w.heap.size w w' := by
  have c0 := h.word
  have hl := h.lt
  have E := Lib.hid (cdeleteds_any m hm)
  have C := count_any (maskB (equalB m 254)) (maskB_lt _)
  rw [show lanesL (highB (maskB (equalB m 254))) = lanesL (equalB m 254) from lanesL_congr fun i hi => maskB_high _ i hi] at C
  replace C := Lib.hid C
  generalize maskB (equalB m 254) = q at *
  generalize (lanesL (equalB m 254)).length = ob at *
  clear h
  go_enter Tryd.func37, Tryd.ntmps37
  go_wp2_with (first
    | (go_at_call 94; refine (E.out _).mono ?_; rintro e w' ⟨rfl, rfl⟩)
    | (go_at_call 93; refine (C.out _).mono ?_; rintro e w' ⟨rfl, rfl⟩))
  go_ret
  exact ⟨rfl, by go_grown⟩
/-- the error of a slot that must be full, or mustn't -/
def fullE (m : Nat) (i : Int) (must : Bool) : Nat := if i < 0 ∨ 8 ≤ i then 1 else if decide (ln m i.toNat < 128) = must then 0 else 5
theorem fullE_le (m : Nat) (i : Int) (must : Bool) : fullE m i must ≤ 16 := by unfold fullE; split; decide; split <;> decide
theorem errN_nz (E : Nat → Addr) (n : Nat) (h : n ≠ 0) : errN E n = errAt E n := if_neg h
theorem errN_0 (E : Nat → Addr) : errN E 0 = .nilIface := if_pos rfl
theorem fullE_in (m k : Nat) (must : Bool) (hk : k < 8) : fullE m (k : Int) must = if decide (ln m k < 128) = must then 0 else 5 := by
  unfold fullE; rw [if_neg (by omega), Int.toNat_natCast]
theorem fullE_out (m : Nat) (i : Int) (must : Bool) (h : i < 0 ∨ 8 ≤ i) : fullE m i must = 1 := if_pos h
set_option maxRecDepth 100000 in
set_option maxHeartbeats 1000000 in
theorem gfullE_any (G o m : Nat) (s : Nat → EntS) (hm : m < 18446744073709551616) (i : Int) (must : Bool) (E : Nat → Addr) (w : World) (h : GW w G o m s) (he : EC w E [1, 5]) :
    Calls Tryd.prog 86 #[.agg #[.pointer (some ⟨G, o, none⟩)], .int .i64 i, .bool must] w fun e w' => e = .returned (errN E (fullE m i must)) ∧ Below w.heap.size w w' := by
  have c0 := h.word
  have hl := h.lt
  have e1 : w.cell? ⟨0, 0, none⟩ = some (errAt E 1) := he 1 (by decide)
  have e5 : w.cell? ⟨4, 0, none⟩ = some (errAt E 5) := he 5 (by decide)
  have l1 := World.block_lt_of_cell? _ _ e1
  have l5 := World.block_lt_of_cell? _ _ e5
  clear h he
  by_cases hio : i < 0 ∨ 8 ≤ i
  · rw [fullE_out m i must hio, errN_nz E 1 (by decide)]
    unfold errAt at *
    by_cases h0 : i < 0
    · have d0 : decide (i < 0) = true := by simpa using h0
      clear h0 hio
      go_enter Tryd.func86, Tryd.ntmps86
      go_wp2
      go_ret
      exact ⟨rfl, by go_grown⟩
    · have d0 : decide (i < 0) = false := by simpa using h0
      have d8 : decide (i ≥ 8) = true := by simp; omega
      clear h0 hio
      go_enter Tryd.func86, Tryd.ntmps86
      go_wp2
      go_ret
      exact ⟨rfl, by go_grown⟩
  obtain ⟨k, rfl⟩ : ∃ k : Nat, i = (k : Int) := ⟨i.toNat, by omega⟩
  have hk : k < 8 := by omega
  have d0 : decide ((k : Int) < 0) = false := by simp
  have d8 : decide ((k : Int) ≥ 8) = false := by simp; omega
  have GT := Lib.hid (cget_in m k hm hk)
  have hln := ln_lt m k
  rw [fullE_in m k must hk]
  generalize ln m k = q at *
  clear hio
  by_cases hq : q < 128
  · have hqI : decide ((q : Int) < 128) = true := by simp; omega
    rw [show decide (q < 128) = true by simpa using hq]
    cases must
    · rw [if_neg (by decide), errN_nz E 5 (by decide)]
      unfold errAt at *
      go_enter Tryd.func86, Tryd.ntmps86
      go_wp2_with (go_at_call 87; refine (GT.out _).mono ?_; rintro e w' ⟨rfl, rfl⟩)
      go_ret
      exact ⟨rfl, by go_grown⟩
    · rw [if_pos rfl, errN_0]
      unfold errAt at *
      go_enter Tryd.func86, Tryd.ntmps86
      go_wp2_with (go_at_call 87; refine (GT.out _).mono ?_; rintro e w' ⟨rfl, rfl⟩)
      go_ret
      exact ⟨rfl, by go_grown⟩
  · have hqI : decide ((q : Int) < 128) = false := by simp; omega
    rw [show decide (q < 128) = false by simpa using hq]
    cases must
    · rw [if_pos rfl, errN_0]
      unfold errAt at *
      go_enter Tryd.func86, Tryd.ntmps86
      go_wp2_with (go_at_call 87; refine (GT.out _).mono ?_; rintro e w' ⟨rfl, rfl⟩)
      go_ret
      exact ⟨rfl, by go_grown⟩
    · rw [if_neg (by decide), errN_nz E 5 (by decide)]
      unfold errAt at *
      go_enter Tryd.func86, Tryd.ntmps86
      go_wp2_with (go_at_call 87; refine (GT.out _).mono ?_; rintro e w' ⟨rfl, rfl⟩)
      go_ret
      exact ⟨rfl, by go_grown⟩
/-- the entry of a slot, if it is full -/
def atS (m : Nat) (s : Nat → EntS) (i : Int) : EntS := if fullE m i true = 0 then s i.toNat else EntS.zero
def EntS.val3 (e : EntS) : Value := .agg #[.int .u64 e.key, .int .u64 e.val, .int .u64 e.hash]
theorem fullE_zero {m : Nat} {i : Int} {must : Bool} (h : fullE m i must = 0) : ∃ k : Nat, i = (k : Int) ∧ k < 8 ∧ decide (ln m k < 128) = must := by
  unfold fullE at h
  by_cases c : i < 0 ∨ 8 ≤ i
  · rw [if_pos c] at h; cases h
  · rw [if_neg c] at h
    by_cases e : decide (ln m i.toNat < 128) = must
    · exact ⟨i.toNat, by omega, by omega, e⟩
    · rw [if_neg e] at h; cases h
theorem errN_iface (E : Nat → Addr) (n : Nat) (h : n ≠ 0) : errN E n = .iface 187 (.pointer (some (E n))) := if_neg h
theorem neq_nilG (w : World) : (binOp .neq 25 .nilIface .nilIface).run Tryd.prog w = .ok (.bool false) w := run_neq_nil_nil _ _ (by kernel_rfl)
attribute [local go_sem] neq_nilG
set_option maxRecDepth 100000 in
set_option maxHeartbeats 2000000 in
theorem gat_any (G o m : Nat) (s : Nat → EntS) (hm : m < 18446744073709551616) (i : Int) (E : Nat → Addr) (w : World) (h : GW w G o m s) (he : EC w E [1, 5]) :
    Calls Tryd.prog 43 #[.agg #[.pointer (some ⟨G, o, none⟩)], .int .i64 i] w fun e w' => e = .returned (.tuple #[(atS m s i).val3, .bool (fullE m i true == 0)]) ∧ Below w.heap.size w w' := by
  have FE := Lib.hid (fun w' (hb : Below w.heap.size w w') => gfullE_any G o m s hm i true E w' (h.below hb h.lt) (he.below hb))
  have hl := h.lt
  by_cases h0 : fullE m i true = 0
  · obtain ⟨k, rfl, hk, -⟩ := fullE_zero h0
    have ha : atS m s (k : Int) = s k := by unfold atS; rw [if_pos h0, Int.toNat_natCast]
    rw [ha, h0]
    rw [h0] at FE
    simp only [errN_0] at FE
    obtain ⟨c0, c1, c2⟩ := h.slot k hk
    unfold EntS.val3
    clear h he h0 ha
    generalize (s k).key = x0 at *
    generalize (s k).val = x1 at *
    generalize (s k).hash = x2 at *
    go_enter Tryd.func43, Tryd.ntmps43
    go_wp2_with (go_at_call 86; refine (FE.out _ (by go_grown)).mono ?_; rintro e w1 ⟨rfl, hb1⟩; have hB1 : Below w.heap.size w w1 := (by first | exact hB1.trans (hb1.mono hB1.size) | exact hB1.trans (Below.undrew (hb1.mono hB1.size)) | exact hb1 | exact Below.trans (by go_grown) (hb1.mono (by simp <;> omega))); have hcG := fun (o : Nat) => hb1.cell (p := ⟨G, o, none⟩) (by first | assumption | (simp <;> omega)); have hfG := fun (o : Nat) => hb1.frozen (p := ⟨G, o, none⟩) (by first | assumption | (simp <;> omega)); have hzG : G < w1.heap.size := Nat.lt_of_lt_of_le (by first | assumption | (simp <;> omega)) hb1.size; have hcwheapsize := fun (o : Nat) => hb1.cell (p := ⟨w.heap.size, o, none⟩) (by first | assumption | (simp <;> omega)); have hfwheapsize := fun (o : Nat) => hb1.frozen (p := ⟨w.heap.size, o, none⟩) (by first | assumption | (simp <;> omega)); have hzwheapsize : w.heap.size < w1.heap.size := Nat.lt_of_lt_of_le (by first | assumption | (simp <;> omega)) hb1.size; have hcwheapsize__1 := fun (o : Nat) => hb1.cell (p := ⟨w.heap.size + 1, o, none⟩) (by first | assumption | (simp <;> omega)); have hfwheapsize__1 := fun (o : Nat) => hb1.frozen (p := ⟨w.heap.size + 1, o, none⟩) (by first | assumption | (simp <;> omega)); have hzwheapsize__1 : w.heap.size + 1 < w1.heap.size := Nat.lt_of_lt_of_le (by first | assumption | (simp <;> omega)) hb1.size)
    have HRb : Blk w1 (w.heap.size + 1) 62 #[.int .u64 0, .int .u64 0, .int .u64 0] := Blk.below (Blk.new_at (by simp)) hb1 (by simp)
    have r0 := (HRb.set 0 (.int .u64 x0)).cell 0
    have r1 := ((HRb.set 0 (.int .u64 x0)).set 1 (.int .u64 x1)).cell 1
    have r2 := (((HRb.set 0 (.int .u64 x0)).set 1 (.int .u64 x1)).set 2 (.int .u64 x2)).cell 2
    simp only [List.setIfInBounds_toArray, List.set_cons_zero, List.set_cons_succ, List.getElem?_toArray, List.getElem?_cons_zero, List.getElem?_cons_succ] at r0 r1 r2
    exact bodyPost_ret (v := .tuple #[.agg #[.int .u64 x0, .int .u64 x1, .int .u64 x2], .bool true]) (by simp [results, Tryd.results43, go_sem, r0, r1, r2]) rfl ⟨rfl, ((hB1.setCell (p := ⟨w.heap.size + 1, 0, none⟩) (by simp) _).setCell (p := ⟨w.heap.size + 1, 1, none⟩) (by simp) _).setCell (p := ⟨w.heap.size + 1, 2, none⟩) (by simp) _⟩
  · have ha : atS m s i = EntS.zero := by unfold atS; rw [if_neg h0]
    rw [ha, show (fullE m i true == 0) = false by simpa using h0]
    simp only [errN_iface E _ h0] at FE
    clear h he h0 ha
    go_enter Tryd.func43, Tryd.ntmps43
    go_wp2_with (go_at_call 86; refine (FE.out _ (by go_grown)).mono ?_; rintro e w1 ⟨rfl, hb1⟩; have hB1 : Below w.heap.size w w1 := (by first | exact hB1.trans (hb1.mono hB1.size) | exact hB1.trans (Below.undrew (hb1.mono hB1.size)) | exact hb1 | exact Below.trans (by go_grown) (hb1.mono (by simp <;> omega))); have hcG := fun (o : Nat) => hb1.cell (p := ⟨G, o, none⟩) (by first | assumption | (simp <;> omega)); have hfG := fun (o : Nat) => hb1.frozen (p := ⟨G, o, none⟩) (by first | assumption | (simp <;> omega)); have hzG : G < w1.heap.size := Nat.lt_of_lt_of_le (by first | assumption | (simp <;> omega)) hb1.size; have hcwheapsize := fun (o : Nat) => hb1.cell (p := ⟨w.heap.size, o, none⟩) (by first | assumption | (simp <;> omega)); have hfwheapsize := fun (o : Nat) => hb1.frozen (p := ⟨w.heap.size, o, none⟩) (by first | assumption | (simp <;> omega)); have hzwheapsize : w.heap.size < w1.heap.size := Nat.lt_of_lt_of_le (by first | assumption | (simp <;> omega)) hb1.size; have hcwheapsize__1 := fun (o : Nat) => hb1.cell (p := ⟨w.heap.size + 1, o, none⟩) (by first | assumption | (simp <;> omega)); have hfwheapsize__1 := fun (o : Nat) => hb1.frozen (p := ⟨w.heap.size + 1, o, none⟩) (by first | assumption | (simp <;> omega)); have hzwheapsize__1 : w.heap.size + 1 < w1.heap.size := Nat.lt_of_lt_of_le (by first | assumption | (simp <;> omega)) hb1.size)
    have HRb : Blk w1 (w.heap.size + 1) 62 #[.int .u64 0, .int .u64 0, .int .u64 0] := Blk.below (Blk.new_at (by simp)) hb1 (by simp)
    have r0 := (HRb.set 0 (.int .u64 0)).cell 0
    have r1 := ((HRb.set 0 (.int .u64 0)).set 1 (.int .u64 0)).cell 1
    have r2 := (((HRb.set 0 (.int .u64 0)).set 1 (.int .u64 0)).set 2 (.int .u64 0)).cell 2
    simp only [List.setIfInBounds_toArray, List.set_cons_zero, List.set_cons_succ, List.getElem?_toArray, List.getElem?_cons_zero, List.getElem?_cons_succ] at r0 r1 r2
    exact bodyPost_ret (v := .tuple #[.agg #[.int .u64 0, .int .u64 0, .int .u64 0], .bool false]) (by simp [results, Tryd.results43, go_sem, r0, r1, r2]) rfl ⟨rfl, ((hB1.setCell (p := ⟨w.heap.size + 1, 0, none⟩) (by simp) _).setCell (p := ⟨w.heap.size + 1, 1, none⟩) (by simp) _).setCell (p := ⟨w.heap.size + 1, 2, none⟩) (by simp) _⟩
set_option maxRecDepth 100000 in
set_option maxHeartbeats 2000000 in
theorem gmark_any (G o m k b : Nat) (s : Nat → EntS) (hm : m < 18446744073709551616) (hk : k < 8) (hb : b < 256) (hc : ctrlB b = true) (w : World) (h : GW w G o m s) :
    Calls Tryd.prog 88 #[.agg #[.pointer (some ⟨G, o, none⟩)], .int .i64 (k : Int), .int .u8 (b : Int)] w fun e w' => e = .returned (.tuple #[]) ∧ GW w' G o (setL m k b) s ∧ ChgG G o w w' := by
  have ST := Lib.hid (cset_ok m k b hm hk hb hc)
  have HW := Lib.hid h
  have c0 := h.word
  have f0 := h.frozen o
  have hl := h.lt
  have hne : G ≠ w.heap.size := by omega
  generalize setL m k b = m' at *
  clear h
  go_enter Tryd.func88, Tryd.ntmps88
  go_wp2_with (go_at_call 115; refine (ST.out _).mono ?_; rintro e w1 ⟨rfl, hb1⟩; have hB1 : Below w.heap.size w w1 := (by first | exact hB1.trans (hb1.mono hB1.size) | exact hB1.trans (Below.undrew (hb1.mono hB1.size)) | exact hb1 | exact Below.trans (by go_grown) (hb1.mono (by simp <;> omega))); have hcG := fun (o : Nat) => hb1.cell (p := ⟨G, o, none⟩) (by first | assumption | (simp <;> omega)); have hfG := fun (o : Nat) => hb1.frozen (p := ⟨G, o, none⟩) (by first | assumption | (simp <;> omega)); have hzG : G < w1.heap.size := Nat.lt_of_lt_of_le (by first | assumption | (simp <;> omega)) hb1.size; have hcwheapsize := fun (o : Nat) => hb1.cell (p := ⟨w.heap.size, o, none⟩) (by first | assumption | (simp <;> omega)); have hfwheapsize := fun (o : Nat) => hb1.frozen (p := ⟨w.heap.size, o, none⟩) (by first | assumption | (simp <;> omega)); have hzwheapsize : w.heap.size < w1.heap.size := Nat.lt_of_lt_of_le (by first | assumption | (simp <;> omega)) hb1.size)
  ((try simp only [Exit.inBlock, Exit.then]); first | refine bodyPost_end (results_none rfl _ _ _) rfl ?_ | refine bodyPost_ret (results_none rfl _ _ _) rfl ?_)
  exact ⟨rfl, (HW.out.below hB1 hl).setWord m', (ChgG.of_below hB1).set1 _ _ (by omega)⟩
end Go.Proofs.YtcmjddkljmfklaaDoor
