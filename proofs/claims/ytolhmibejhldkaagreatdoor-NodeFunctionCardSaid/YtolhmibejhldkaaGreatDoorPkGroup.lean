/- Texts joined: Group ProbePlain GroupPut GroupErase GroupFree RangeM SeqIn GroupFind GroupPlain Ref08 Ent Ref08b GroupAny GroupAlive GroupMore GroupEntries. No condition but those that stand within. -/
import Derived.WalkKit
import Derived.Deep.DeepCutAuto
import Derived.OrdersIn
import Derived.Test.YtolhmibejhldkaaGreatDoorPkSwar
import Derived.Test.YtolhmibejhldkaaGreatDoorPkMeter
import Derived.Test.YtolhmibejhldkaaGreatDoorPkErrs
set_option linter.unusedVariables false
set_option linter.unusedSimpArgs false
namespace Go.Proofs.YtolhmibejhldkaaGreatDoor
open Go.RowKit Go.Proofs
def arrV (n : Nat) (F : Nat → Value) : Array Value := ((List.range n).map F).toArray
theorem arrV_size (n : Nat) (F : Nat → Value) : (arrV n F).size = n := by simp [arrV]
theorem arrV_get (n : Nat) (F : Nat → Value) (j : Nat) (hj : j < n) : (arrV n F)[j]? = some (F j) := by simp [arrV, hj]
theorem arrV_set (n : Nat) (F : Nat → Value) (k : Nat) (x : Value) (hk : k < n) : (arrV n F).setIfInBounds k x = arrV n (fun j => if j = k then x else F j) := by
  apply Array.ext_getElem?
  intro j
  rw [Array.getElem?_setIfInBounds]
  by_cases hj : j < n
  · rw [arrV_get _ _ _ hj, arrV_get _ _ _ hj, arrV_size]
    by_cases e : k = j
    · subst e; rw [if_pos rfl, if_pos hk, if_pos rfl]
    · rw [if_neg e, if_neg (fun h => e h.symm)]
  · rw [Array.getElem?_eq_none (by rw [arrV_size]; omega), Array.getElem?_eq_none (by rw [arrV_size]; omega)]
    split
    · rename_i e; subst e; rw [if_neg (by rw [arrV_size]; omega)]
    · rfl
theorem arrV_congr {n : Nat} {F F' : Nat → Value} (h : ∀ j, j < n → F j = F' j) : arrV n F = arrV n F' := by
  unfold arrV; congr 1; exact List.map_congr_left fun j hj => h j (by simpa using hj)
structure EntS where
  key : Int
  val : Int
  hash : Int
def EntS.zero : EntS := ⟨0, 0, 0⟩
def gF (m : Nat) (s : Nat → EntS) (j : Nat) : Value :=
  if j = 0 then .int .u64 (m : Int) else if (j - 1) % 3 = 0 then .int .u64 (s ((j - 1) / 3)).key else if (j - 1) % 3 = 1 then .int .u64 (s ((j - 1) / 3)).val else .int .u64 (s ((j - 1) / 3)).hash
def putS (s : Nat → EntS) (i : Nat) (e : EntS) : Nat → EntS := fun q => if q = i then e else s q
def GW (w : World) (G o m : Nat) (s : Nat → EntS) : Prop := ∃ T A, Blk w G T A ∧ ∀ j, j < 25 → A[o + j]? = some (gF m s j)
theorem GW.lt {w : World} {G o m : Nat} {s : Nat → EntS} (h : GW w G o m s) : G < w.heap.size := by obtain ⟨T, A, h, -⟩ := h; exact h.lt
theorem GW.below {n : Nat} {w w' : World} {G o m : Nat} {s : Nat → EntS} (h : GW w G o m s) (hb : Below n w w') (hG : G < n) : GW w' G o m s := by obtain ⟨T, A, h, k⟩ := h; exact ⟨T, A, h.below hb hG, k⟩
theorem GW.chg {X : Nat → Prop} {w w' : World} {G o m : Nat} {s : Nat → EntS} (h : GW w G o m s) (hb : Chg X w w') (hG : ¬ X G) : GW w' G o m s := by obtain ⟨T, A, h, k⟩ := h; exact ⟨T, A, h.chg hb hG, k⟩
theorem GW.alloc {w : World} {G o m : Nat} {s : Nat → EntS} (h : GW w G o m s) (b : Obj) : GW (w.alloc b) G o m s := by obtain ⟨T, A, h, k⟩ := h; exact ⟨T, A, h.alloc b, k⟩
theorem GW.drew {w : World} {G o m : Nat} {s : Nat → EntS} (h : GW w G o m s) : GW w.drew G o m s := h
theorem GW.cellJ {w : World} {G o m : Nat} {s : Nat → EntS} (h : GW w G o m s) (j : Nat) (hj : j < 25) : w.cell? ⟨G, o + j, none⟩ = some (gF m s j) := by obtain ⟨T, A, h, k⟩ := h; exact (h.cell _).trans (k j hj)
theorem GW.word {w : World} {G o m : Nat} {s : Nat → EntS} (h : GW w G o m s) : w.cell? ⟨G, o, none⟩ = some (.int .u64 (m : Int)) := h.cellJ 0 (by decide)
theorem GW.frozen {w : World} {G o m : Nat} {s : Nat → EntS} (h : GW w G o m s) (j : Nat) : w.frozen? ⟨G, j, none⟩ = false := by obtain ⟨T, A, h, k⟩ := h; exact h.frozen j
theorem gF_0 (m : Nat) (s : Nat → EntS) (i : Nat) : gF m s (1 + i * 3) = .int .u64 (s i).key := by
  unfold gF; rw [if_neg (by omega), if_pos (by omega), show (1 + i * 3 - 1) / 3 = i by omega]
theorem gF_1 (m : Nat) (s : Nat → EntS) (i : Nat) : gF m s (1 + i * 3 + 1) = .int .u64 (s i).val := by
  unfold gF; rw [if_neg (by omega), if_neg (by omega), if_pos (by omega), show (1 + i * 3 + 1 - 1) / 3 = i by omega]
theorem gF_2 (m : Nat) (s : Nat → EntS) (i : Nat) : gF m s (1 + i * 3 + 2) = .int .u64 (s i).hash := by
  unfold gF; rw [if_neg (by omega), if_neg (by omega), if_neg (by omega), show (1 + i * 3 + 2 - 1) / 3 = i by omega]
theorem GW.slot {w : World} {G o m : Nat} {s : Nat → EntS} (h : GW w G o m s) (i : Nat) (hi : i < 8) :
    w.cell? ⟨G, o + 1 + i * 3, none⟩ = some (.int .u64 (s i).key) ∧ w.cell? ⟨G, o + 1 + i * 3 + 1, none⟩ = some (.int .u64 (s i).val) ∧ w.cell? ⟨G, o + 1 + i * 3 + 2, none⟩ = some (.int .u64 (s i).hash) := by
  have h0 := h.cellJ (1 + i * 3) (by omega)
  have h1 := h.cellJ (1 + i * 3 + 1) (by omega)
  have h2 := h.cellJ (1 + i * 3 + 2) (by omega)
  rw [gF_0] at h0; rw [gF_1] at h1; rw [gF_2] at h2
  refine ⟨?_, ?_, ?_⟩
  · rw [show o + 1 + i * 3 = o + (1 + i * 3) by omega]; exact h0
  · rw [show o + 1 + i * 3 + 1 = o + (1 + i * 3 + 1) by omega]; exact h1
  · rw [show o + 1 + i * 3 + 2 = o + (1 + i * 3 + 2) by omega]; exact h2
theorem putS_same (s : Nat → EntS) (i : Nat) (e : EntS) : putS s i e i = e := if_pos rfl
theorem GW.setWord {w : World} {G o m : Nat} {s : Nat → EntS} (h : GW w G o m s) (m' : Nat) : GW (w.setCell ⟨G, o, none⟩ (.int .u64 (m' : Int))) G o m' s := by
  obtain ⟨T, A, h, k⟩ := h
  refine ⟨T, _, h.set o (.int .u64 (m' : Int)), fun j hj => ?_⟩
  have hk := k j hj
  rw [Array.getElem?_setIfInBounds]
  by_cases e : j = 0
  · subst e; rw [if_pos (by omega), if_pos (by have := (Array.getElem?_eq_some_iff.1 (k 0 hj)).1; omega)]; rfl
  · rw [if_neg (by omega), hk]; unfold gF; rw [if_neg e, if_neg e]
theorem GW.setSlot {w : World} {G o m : Nat} {s : Nat → EntS} (h : GW w G o m s) (i : Nat) (hi : i < 8) (e : EntS) :
    GW (((w.setCell ⟨G, o + 1 + i * 3, none⟩ (.int .u64 e.key)).setCell ⟨G, o + 1 + i * 3 + 1, none⟩ (.int .u64 e.val)).setCell ⟨G, o + 1 + i * 3 + 2, none⟩ (.int .u64 e.hash)) G o m (putS s i e) := by
  obtain ⟨T, A, h, k⟩ := h
  refine ⟨T, _, ((h.set (o + 1 + i * 3) (.int .u64 e.key)).set (o + 1 + i * 3 + 1) (.int .u64 e.val)).set (o + 1 + i * 3 + 2) (.int .u64 e.hash), fun j hj => ?_⟩
  have hk := k j hj
  have hlt := (Array.getElem?_eq_some_iff.1 hk).1
  simp only [Array.getElem?_setIfInBounds, Array.size_setIfInBounds]
  by_cases e2 : j = 1 + i * 3 + 2
  · subst e2; rw [if_pos (by omega), if_pos (by omega), gF_2, putS_same]
  · rw [if_neg (by omega)]
    by_cases e1 : j = 1 + i * 3 + 1
    · subst e1; rw [if_pos (by omega), if_pos (by omega), gF_1, putS_same]
    · rw [if_neg (by omega)]
      by_cases e0 : j = 1 + i * 3
      · subst e0; rw [if_pos (by omega), if_pos (by omega), gF_0, putS_same]
      · rw [if_neg (by omega), hk]
        unfold gF putS
        by_cases z : j = 0
        · rw [if_pos z, if_pos z]
        · rw [if_neg z, if_neg z, if_neg (show ¬ (j - 1) / 3 = i by omega)]
theorem GW.setVal {w : World} {G o m : Nat} {s : Nat → EntS} (h : GW w G o m s) (i : Nat) (hi : i < 8) (v : Int) :
    GW (w.setCell ⟨G, o + 1 + i * 3 + 1, none⟩ (.int .u64 v)) G o m (putS s i { s i with val := v }) := by
  obtain ⟨T, A, h, k⟩ := h
  refine ⟨T, _, h.set (o + 1 + i * 3 + 1) (.int .u64 v), fun j hj => ?_⟩
  have hk := k j hj
  have hlt := (Array.getElem?_eq_some_iff.1 hk).1
  simp only [Array.getElem?_setIfInBounds]
  by_cases e1 : j = 1 + i * 3 + 1
  · subst e1; rw [if_pos (by omega), if_pos (by omega), gF_1, putS_same]
  · rw [if_neg (by omega), hk]
    by_cases e0 : j = 1 + i * 3
    · subst e0; rw [gF_0, gF_0, putS_same]
    · by_cases e2 : j = 1 + i * 3 + 2
      · subst e2; rw [gF_2, gF_2, putS_same]
      · unfold gF putS
        by_cases z : j = 0
        · rw [if_pos z, if_pos z]
        · rw [if_neg z, if_neg z, if_neg (show ¬ (j - 1) / 3 = i by omega)]
structure ChgG (G o : Nat) (w w' : World) : Prop where
  chg : Chg (fun b => b = G) w w'
  rest : ∀ T A, Blk w G T A → ∃ A', Blk w' G T A' ∧ A'.size = A.size ∧ ∀ j, (j < o ∨ o + 25 ≤ j) → A'[j]? = A[j]?
theorem ChgG.of_below {G o : Nat} {w w' : World} (h : Below w.heap.size w w') : ChgG G o w w' := ⟨Chg.of_below h, fun T A hA => ⟨A, hA.below h hA.lt, rfl, fun _ _ => rfl⟩⟩
theorem ChgG.trans {G o : Nat} {a b c : World} (h : ChgG G o a b) (k : ChgG G o b c) : ChgG G o a c :=
  ⟨h.chg.trans k.chg, fun T A hA => by
    obtain ⟨A1, h1, s1, r1⟩ := h.rest T A hA
    obtain ⟨A2, h2, s2, r2⟩ := k.rest T A1 h1
    exact ⟨A2, h2, s2.trans s1, fun j hj => (r2 j hj).trans (r1 j hj)⟩⟩
theorem ChgG.drew {G o : Nat} {a w : World} (h : ChgG G o a w) : ChgG G o a w.drew := ⟨h.chg.drew, h.rest⟩
theorem ChgG.undrew {G o : Nat} {w w' : World} (h : ChgG G o w.drew w') : ChgG G o w w' := ⟨h.chg.undrew, h.rest⟩
theorem ChgG.alloc {G o : Nat} {a w : World} (h : ChgG G o a w) (b : Obj) : ChgG G o a (w.alloc b) := ⟨h.chg.alloc b, fun T A hA => by obtain ⟨A1, h1, k⟩ := h.rest T A hA; exact ⟨A1, h1.alloc b, k⟩⟩
theorem ChgG.thenBelow {G o : Nat} {a b c : World} (h : ChgG G o a b) (k : Below b.heap.size b c) : ChgG G o a c := h.trans (ChgG.of_below k)
theorem ChgG.set1 {G o : Nat} {a w : World} (h : ChgG G o a w) (off : Nat) (u : Value) (hoff : o ≤ off ∧ off < o + 25) : ChgG G o a (w.setCell ⟨G, off, none⟩ u) :=
  ⟨h.chg.set1 off u, fun T A hA => by
    obtain ⟨A1, h1, s1, r1⟩ := h.rest T A hA
    exact ⟨_, h1.set off u, by rw [Array.size_setIfInBounds, s1], fun j hj => by rw [Array.getElem?_setIfInBounds, if_neg (by omega), r1 j hj]⟩⟩
theorem GW.chgG {w w' : World} {G o o' m : Nat} {s : Nat → EntS} (h : GW w G o' m s) (c : ChgG G o w w') (hd : o' + 25 ≤ o ∨ o + 25 ≤ o') : GW w' G o' m s := by
  obtain ⟨T, A, h, k⟩ := h
  obtain ⟨A1, h1, s1, r1⟩ := c.rest T A h
  exact ⟨T, A1, h1, fun j hj => by rw [r1 _ (by omega), k j hj]⟩
def viewV (G o : Nat) : Value := .agg #[.pointer (some ⟨G, o, none⟩)]
theorem gnew_cells (m : Nat) : arrV 25 (gF m (fun _ => EntS.zero)) = #[.int .u64 (m : Int), .int .u64 0, .int .u64 0, .int .u64 0, .int .u64 0, .int .u64 0, .int .u64 0, .int .u64 0, .int .u64 0, .int .u64 0, .int .u64 0, .int .u64 0, .int .u64 0, .int .u64 0, .int .u64 0, .int .u64 0, .int .u64 0, .int .u64 0, .int .u64 0, .int .u64 0, .int .u64 0, .int .u64 0, .int .u64 0, .int .u64 0, .int .u64 0] := rfl
theorem gnew_whole {w : World} {B : Nat} (h : GW w B 0 (rep 128) (fun _ => EntS.zero)) : w.rangeAt B 0 [.int .u64 ((rep 128 : Nat) : Int), .int .u64 0, .int .u64 0, .int .u64 0, .int .u64 0, .int .u64 0, .int .u64 0, .int .u64 0, .int .u64 0, .int .u64 0, .int .u64 0, .int .u64 0, .int .u64 0, .int .u64 0, .int .u64 0, .int .u64 0, .int .u64 0, .int .u64 0, .int .u64 0, .int .u64 0, .int .u64 0, .int .u64 0, .int .u64 0, .int .u64 0, .int .u64 0] := by
  intro j v hj
  have hlt : j < 25 := (List.getElem?_eq_some_iff.1 hj).1
  have := h.cellJ j hlt
  rw [Nat.zero_add] at this ⊢
  rw [this]
  have e := arrV_get 25 (gF (rep 128) (fun _ => EntS.zero)) j hlt
  rw [gnew_cells, List.getElem?_toArray] at e
  exact e.symm.trans hj
set_option maxRecDepth 100000 in
set_option maxHeartbeats 1000000 in
theorem gnew_any (w : World) : Calls Tryz.prog 136 #[] w fun e w' => e = .returned (.pointer (some ⟨w.heap.size, 0, none⟩)) ∧ GW w' w.heap.size 0 (rep 128) (fun _ => EntS.zero) ∧ Below w.heap.size w w' := by
  go_enter Tryz.func136, Tryz.ntmps136
  go_wp2_with (go_at_call 170; refine (cnew_any _).mono ?_; rintro e w' ⟨rfl, rfl⟩)
  go_ret
  exact ⟨rfl, ⟨_, _, Blk.new _ _ _, fun j hj => by rw [← gnew_cells, Nat.zero_add]; exact arrV_get _ _ _ hj⟩, by go_grown⟩
theorem gopen_bit (m : Nat) : (decide (maskB (equalB m 128) ≠ 0)) = (List.range 8).any (equalB m 128) := by
  rw [Bool.eq_iff_iff, decide_eq_true_iff, List.any_eq_true]
  constructor
  · intro h
    apply Classical.byContradiction
    intro hn
    apply h
    have h0 : maskB (equalB m 128) = maskB (fun _ => false) := maskB_congr fun i hi => by
      cases e : equalB m 128 i with
      | false => rfl
      | true => exact (hn ⟨i, by simpa using hi, e⟩).elim
    rw [h0]; rfl
  · rintro ⟨i, hi, e⟩ h
    have h0 : maskB (equalB m 128) = maskB (fun _ => false) := by rw [h]; rfl
    have := maskB_inj h0 i (by simpa using hi)
    rw [e] at this; cases this
def openB (m : Nat) : Bool := (List.range 8).any (equalB m 128)
set_option maxRecDepth 100000 in
set_option maxHeartbeats 1000000 in
theorem gopen_any (G o m : Nat) (s : Nat → EntS) (hm : m < 18446744073709551616) (w : World) (h : GW w G o m s) :
    Calls Tryz.prog 97 #[.agg #[.pointer (some ⟨G, o, none⟩)]] w fun e w' => e = .returned (.bool (openB m)) ∧ Below w.heap.size w w' := by
  have c0 := h.word
  have hl := h.lt
  have hb := gopen_bit m
  have E := Lib.hid (cempties_any m hm)
  have hz : (((maskB (equalB m 128) : Nat) : Int) != 0) = openB m := by
    unfold openB; rw [← hb, Bool.eq_iff_iff, decide_eq_true_iff]; simp
  generalize maskB (equalB m 128) = q at *
  generalize openB m = ob at *
  have HZ := Lib.hid hz
  clear h hb hz
  go_enter Tryz.func97, Tryz.ntmps97
  go_wp2_with (go_at_call 146; refine (E.out _).mono ?_; rintro e w' ⟨rfl, rfl⟩)
  go_ret
  exact ⟨by rw [← HZ.out]; rfl, by go_grown⟩
def fullE (m : Nat) (i : Int) (must : Bool) : Nat := if i < 0 ∨ 8 ≤ i then 1 else if decide (ln m i.toNat < 128) = must then 0 else 5
theorem errN_nz (E : Nat → Addr) (n : Nat) (h : n ≠ 0) : errN E n = errAt E n := if_neg h
theorem errN_0 (E : Nat → Addr) : errN E 0 = .nilIface := if_pos rfl
theorem fullE_in (m k : Nat) (must : Bool) (hk : k < 8) : fullE m (k : Int) must = if decide (ln m k < 128) = must then 0 else 5 := by
  unfold fullE; rw [if_neg (by omega), Int.toNat_natCast]
theorem fullE_out (m : Nat) (i : Int) (must : Bool) (h : i < 0 ∨ 8 ≤ i) : fullE m i must = 1 := if_pos h
set_option maxRecDepth 100000 in
set_option maxHeartbeats 1000000 in
theorem gfullE_any (G o m : Nat) (s : Nat → EntS) (hm : m < 18446744073709551616) (i : Int) (must : Bool) (E : Nat → Addr) (w : World) (h : GW w G o m s) (he : EC w E [1, 5]) :
    Calls Tryz.prog 147 #[.agg #[.pointer (some ⟨G, o, none⟩)], .int .i64 i, .bool must] w fun e w' => e = .returned (errN E (fullE m i must)) ∧ Below w.heap.size w w' := by
  have c0 := h.word
  have hl := h.lt
  have e1 : w.cell? ⟨0, 0, none⟩ = some (errAt E 1) := he 1 (by decide)
  have e5 : w.cell? ⟨2, 0, none⟩ = some (errAt E 5) := he 5 (by decide)
  have l1 := World.block_lt_of_cell? _ _ e1
  have l5 := World.block_lt_of_cell? _ _ e5
  clear h he
  by_cases hio : i < 0 ∨ 8 ≤ i
  · rw [fullE_out m i must hio, errN_nz E 1 (by decide)]
    unfold errAt at *
    by_cases h0 : i < 0
    · have d0 : decide (i < 0) = true := by simpa using h0
      clear h0 hio
      go_enter Tryz.func147, Tryz.ntmps147
      go_wp2
      go_ret
      exact ⟨rfl, by go_grown⟩
    · have d0 : decide (i < 0) = false := by simpa using h0
      have d8 : decide (i ≥ 8) = true := by simp; omega
      clear h0 hio
      go_enter Tryz.func147, Tryz.ntmps147
      go_wp2
      go_ret
      exact ⟨rfl, by go_grown⟩
  obtain ⟨k, rfl⟩ : ∃ k : Nat, i = (k : Int) := ⟨i.toNat, by omega⟩
  have hk : k < 8 := by omega
  have d0 : decide ((k : Int) < 0) = false := by simp
  have d8 : decide ((k : Int) ≥ 8) = false := by simp; omega
  have GT := Lib.hid (cget_in m k hm hk)
  have hln := ln_lt m k
  rw [fullE_in m k must hk]
  generalize ln m k = q at *
  clear hio
  by_cases hq : q < 128
  · have hqI : decide ((q : Int) < 128) = true := by simp; omega
    rw [show decide (q < 128) = true by simpa using hq]
    cases must
    · rw [if_neg (by decide), errN_nz E 5 (by decide)]
      unfold errAt at *
      go_enter Tryz.func147, Tryz.ntmps147
      go_wp2_with (go_at_call 148; refine (GT.out _).mono ?_; rintro e w' ⟨rfl, rfl⟩)
      go_ret
      exact ⟨rfl, by go_grown⟩
    · rw [if_pos rfl, errN_0]
      unfold errAt at *
      go_enter Tryz.func147, Tryz.ntmps147
      go_wp2_with (go_at_call 148; refine (GT.out _).mono ?_; rintro e w' ⟨rfl, rfl⟩)
      go_ret
      exact ⟨rfl, by go_grown⟩
  · have hqI : decide ((q : Int) < 128) = false := by simp; omega
    rw [show decide (q < 128) = false by simpa using hq]
    cases must
    · rw [if_pos rfl, errN_0]
      unfold errAt at *
      go_enter Tryz.func147, Tryz.ntmps147
      go_wp2_with (go_at_call 148; refine (GT.out _).mono ?_; rintro e w' ⟨rfl, rfl⟩)
      go_ret
      exact ⟨rfl, by go_grown⟩
    · rw [if_neg (by decide), errN_nz E 5 (by decide)]
      unfold errAt at *
      go_enter Tryz.func147, Tryz.ntmps147
      go_wp2_with (go_at_call 148; refine (GT.out _).mono ?_; rintro e w' ⟨rfl, rfl⟩)
      go_ret
      exact ⟨rfl, by go_grown⟩
def atS (m : Nat) (s : Nat → EntS) (i : Int) : EntS := if fullE m i true = 0 then s i.toNat else EntS.zero
def EntS.val3 (e : EntS) : Value := .agg #[.int .u64 e.key, .int .u64 e.val, .int .u64 e.hash]
theorem fullE_zero {m : Nat} {i : Int} {must : Bool} (h : fullE m i must = 0) : ∃ k : Nat, i = (k : Int) ∧ k < 8 ∧ decide (ln m k < 128) = must := by
  unfold fullE at h
  by_cases c : i < 0 ∨ 8 ≤ i
  · rw [if_pos c] at h; cases h
  · rw [if_neg c] at h
    by_cases e : decide (ln m i.toNat < 128) = must
    · exact ⟨i.toNat, by omega, by omega, e⟩
    · rw [if_neg e] at h; cases h
theorem errN_iface (E : Nat → Addr) (n : Nat) (h : n ≠ 0) : errN E n = .iface 259 (.pointer (some (E n))) := if_neg h
theorem neq_nilG (w : World) : (binOp .neq 27 .nilIface .nilIface).run Tryz.prog w = .ok (.bool false) w := run_neq_nil_nil _ _ (by kernel_rfl)
attribute [local go_sem] neq_nilG
set_option maxRecDepth 100000 in
set_option maxHeartbeats 2000000 in
theorem gat_any (G o m : Nat) (s : Nat → EntS) (hm : m < 18446744073709551616) (i : Int) (E : Nat → Addr) (w : World) (h : GW w G o m s) (he : EC w E [1, 5]) :
    Calls Tryz.prog 98 #[.agg #[.pointer (some ⟨G, o, none⟩)], .int .i64 i] w fun e w' => e = .returned (.tuple #[(atS m s i).val3, .bool (fullE m i true == 0)]) ∧ Below w.heap.size w w' := by
  have FE := Lib.hid (fun w' (hb : Below w.heap.size w w') => gfullE_any G o m s hm i true E w' (h.below hb h.lt) (he.below hb))
  have hl := h.lt
  by_cases h0 : fullE m i true = 0
  · obtain ⟨k, rfl, hk, -⟩ := fullE_zero h0
    have ha : atS m s (k : Int) = s k := by unfold atS; rw [if_pos h0, Int.toNat_natCast]
    rw [ha, h0]
    rw [h0] at FE
    simp only [errN_0] at FE
    obtain ⟨c0, c1, c2⟩ := h.slot k hk
    unfold EntS.val3
    clear h he h0 ha
    generalize (s k).key = x0 at *
    generalize (s k).val = x1 at *
    generalize (s k).hash = x2 at *
    go_enter Tryz.func98, Tryz.ntmps98
    go_wp2_with (go_at_call 147; refine (FE.out _ (by go_grown)).mono ?_; rintro e w1 ⟨rfl, hb1⟩; have hB1 : Below w.heap.size w w1 := (by first | exact hB1.trans (hb1.mono hB1.size) | exact hB1.trans (Below.undrew (hb1.mono hB1.size)) | exact hb1 | exact Below.trans (by go_grown) (hb1.mono (by simp <;> omega))); have hcG := fun (o : Nat) => hb1.cell (p := ⟨G, o, none⟩) (by first | assumption | (simp <;> omega)); have hfG := fun (o : Nat) => hb1.frozen (p := ⟨G, o, none⟩) (by first | assumption | (simp <;> omega)); have hzG : G < w1.heap.size := Nat.lt_of_lt_of_le (by first | assumption | (simp <;> omega)) hb1.size; have hcwheapsize := fun (o : Nat) => hb1.cell (p := ⟨w.heap.size, o, none⟩) (by first | assumption | (simp <;> omega)); have hfwheapsize := fun (o : Nat) => hb1.frozen (p := ⟨w.heap.size, o, none⟩) (by first | assumption | (simp <;> omega)); have hzwheapsize : w.heap.size < w1.heap.size := Nat.lt_of_lt_of_le (by first | assumption | (simp <;> omega)) hb1.size; have hcwheapsize__1 := fun (o : Nat) => hb1.cell (p := ⟨w.heap.size + 1, o, none⟩) (by first | assumption | (simp <;> omega)); have hfwheapsize__1 := fun (o : Nat) => hb1.frozen (p := ⟨w.heap.size + 1, o, none⟩) (by first | assumption | (simp <;> omega)); have hzwheapsize__1 : w.heap.size + 1 < w1.heap.size := Nat.lt_of_lt_of_le (by first | assumption | (simp <;> omega)) hb1.size)
    have HRb : Blk w1 (w.heap.size + 1) 46 #[.int .u64 0, .int .u64 0, .int .u64 0] := Blk.below (Blk.new_at (by simp)) hb1 (by simp)
    have r0 := (HRb.set 0 (.int .u64 x0)).cell 0
    have r1 := ((HRb.set 0 (.int .u64 x0)).set 1 (.int .u64 x1)).cell 1
    have r2 := (((HRb.set 0 (.int .u64 x0)).set 1 (.int .u64 x1)).set 2 (.int .u64 x2)).cell 2
    simp only [List.setIfInBounds_toArray, List.set_cons_zero, List.set_cons_succ, List.getElem?_toArray, List.getElem?_cons_zero, List.getElem?_cons_succ] at r0 r1 r2
    exact bodyPost_ret (v := .tuple #[.agg #[.int .u64 x0, .int .u64 x1, .int .u64 x2], .bool true]) (by simp [results, Tryz.results98, go_sem, r0, r1, r2]) rfl ⟨rfl, ((hB1.setCell (p := ⟨w.heap.size + 1, 0, none⟩) (by simp) _).setCell (p := ⟨w.heap.size + 1, 1, none⟩) (by simp) _).setCell (p := ⟨w.heap.size + 1, 2, none⟩) (by simp) _⟩
  · have ha : atS m s i = EntS.zero := by unfold atS; rw [if_neg h0]
    rw [ha, show (fullE m i true == 0) = false by simpa using h0]
    simp only [errN_iface E _ h0] at FE
    clear h he h0 ha
    go_enter Tryz.func98, Tryz.ntmps98
    go_wp2_with (go_at_call 147; refine (FE.out _ (by go_grown)).mono ?_; rintro e w1 ⟨rfl, hb1⟩; have hB1 : Below w.heap.size w w1 := (by first | exact hB1.trans (hb1.mono hB1.size) | exact hB1.trans (Below.undrew (hb1.mono hB1.size)) | exact hb1 | exact Below.trans (by go_grown) (hb1.mono (by simp <;> omega))); have hcG := fun (o : Nat) => hb1.cell (p := ⟨G, o, none⟩) (by first | assumption | (simp <;> omega)); have hfG := fun (o : Nat) => hb1.frozen (p := ⟨G, o, none⟩) (by first | assumption | (simp <;> omega)); have hzG : G < w1.heap.size := Nat.lt_of_lt_of_le (by first | assumption | (simp <;> omega)) hb1.size; have hcwheapsize := fun (o : Nat) => hb1.cell (p := ⟨w.heap.size, o, none⟩) (by first | assumption | (simp <;> omega)); have hfwheapsize := fun (o : Nat) => hb1.frozen (p := ⟨w.heap.size, o, none⟩) (by first | assumption | (simp <;> omega)); have hzwheapsize : w.heap.size < w1.heap.size := Nat.lt_of_lt_of_le (by first | assumption | (simp <;> omega)) hb1.size; have hcwheapsize__1 := fun (o : Nat) => hb1.cell (p := ⟨w.heap.size + 1, o, none⟩) (by first | assumption | (simp <;> omega)); have hfwheapsize__1 := fun (o : Nat) => hb1.frozen (p := ⟨w.heap.size + 1, o, none⟩) (by first | assumption | (simp <;> omega)); have hzwheapsize__1 : w.heap.size + 1 < w1.heap.size := Nat.lt_of_lt_of_le (by first | assumption | (simp <;> omega)) hb1.size)
    have HRb : Blk w1 (w.heap.size + 1) 46 #[.int .u64 0, .int .u64 0, .int .u64 0] := Blk.below (Blk.new_at (by simp)) hb1 (by simp)
    have r0 := (HRb.set 0 (.int .u64 0)).cell 0
    have r1 := ((HRb.set 0 (.int .u64 0)).set 1 (.int .u64 0)).cell 1
    have r2 := (((HRb.set 0 (.int .u64 0)).set 1 (.int .u64 0)).set 2 (.int .u64 0)).cell 2
    simp only [List.setIfInBounds_toArray, List.set_cons_zero, List.set_cons_succ, List.getElem?_toArray, List.getElem?_cons_zero, List.getElem?_cons_succ] at r0 r1 r2
    exact bodyPost_ret (v := .tuple #[.agg #[.int .u64 0, .int .u64 0, .int .u64 0], .bool false]) (by simp [results, Tryz.results98, go_sem, r0, r1, r2]) rfl ⟨rfl, ((hB1.setCell (p := ⟨w.heap.size + 1, 0, none⟩) (by simp) _).setCell (p := ⟨w.heap.size + 1, 1, none⟩) (by simp) _).setCell (p := ⟨w.heap.size + 1, 2, none⟩) (by simp) _⟩
set_option maxRecDepth 100000 in
set_option maxHeartbeats 2000000 in
theorem gmark_any (G o m k b : Nat) (s : Nat → EntS) (hm : m < 18446744073709551616) (hk : k < 8) (hb : b < 256) (hc : ctrlB b = true) (w : World) (h : GW w G o m s) :
    Calls Tryz.prog 149 #[.agg #[.pointer (some ⟨G, o, none⟩)], .int .i64 (k : Int), .int .u8 (b : Int)] w fun e w' => e = .returned (.tuple #[]) ∧ GW w' G o (setL m k b) s ∧ ChgG G o w w' := by
  have ST := Lib.hid (cset_ok m k b hm hk hb hc)
  have HW := Lib.hid h
  have c0 := h.word
  have f0 := h.frozen o
  have hl := h.lt
  have hne : G ≠ w.heap.size := by omega
  generalize setL m k b = m' at *
  clear h
  go_enter Tryz.func149, Tryz.ntmps149
  go_wp2_with (go_at_call 179; refine (ST.out _).mono ?_; rintro e w1 ⟨rfl, hb1⟩; have hB1 : Below w.heap.size w w1 := (by first | exact hB1.trans (hb1.mono hB1.size) | exact hB1.trans (Below.undrew (hb1.mono hB1.size)) | exact hb1 | exact Below.trans (by go_grown) (hb1.mono (by simp <;> omega))); have hcG := fun (o : Nat) => hb1.cell (p := ⟨G, o, none⟩) (by first | assumption | (simp <;> omega)); have hfG := fun (o : Nat) => hb1.frozen (p := ⟨G, o, none⟩) (by first | assumption | (simp <;> omega)); have hzG : G < w1.heap.size := Nat.lt_of_lt_of_le (by first | assumption | (simp <;> omega)) hb1.size; have hcwheapsize := fun (o : Nat) => hb1.cell (p := ⟨w.heap.size, o, none⟩) (by first | assumption | (simp <;> omega)); have hfwheapsize := fun (o : Nat) => hb1.frozen (p := ⟨w.heap.size, o, none⟩) (by first | assumption | (simp <;> omega)); have hzwheapsize : w.heap.size < w1.heap.size := Nat.lt_of_lt_of_le (by first | assumption | (simp <;> omega)) hb1.size)
  ((try simp only [Exit.inBlock, Exit.then]); first | refine bodyPost_end (results_none rfl _ _ _) rfl ?_ | refine bodyPost_ret (results_none rfl _ _ _) rfl ?_)
  exact ⟨rfl, (HW.out.below hB1 hl).setWord m', (ChgG.of_below hB1).set1 _ _ (by omega)⟩
end Go.Proofs.YtolhmibejhldkaaGreatDoor

namespace Go.Proofs.YtolhmibejhldkaaGreatDoor
open Go.RowKit
def rightB (n : Int) : Bool := n == 1 || n == 2 || n == 4 || n == 8 || n == 16 || n == 32 || n == 64
theorem rightB_iff (n : Int) : rightB n = true ↔ n = 1 ∨ n = 2 ∨ n = 4 ∨ n = 8 ∨ n = 16 ∨ n = 32 ∨ n = 64 := by
  simp [rightB, Bool.or_eq_true, or_assoc]
theorem rightB_bits (n : Int) (h1 : 1 ≤ n) (h2 : n ≤ 64) : (bits .and .i64 n (n - 1) == 0) = rightB n := by
  obtain ⟨k, rfl⟩ := Int.eq_ofNat_of_zero_le (show 0 ≤ n by omega)
  have hk : k ≤ 64 := by omega
  have h0 : 1 ≤ k := by omega
  clear h1 h2
  have : ∀ k : Fin 65, 1 ≤ k.val → (bits .and .i64 ((k.val : Nat) : Int) (((k.val : Nat) : Int) - 1) == 0) = rightB ((k.val : Nat) : Int) := by decide +kernel
  exact this ⟨k, by omega⟩ h0
def walkAt (h g i : Nat) : Nat := (h + i * (i + 1) / 2) % g
theorem tri_succ (i : Nat) : (i + 1) * (i + 2) / 2 = i * (i + 1) / 2 + (i + 1) := by
  have : (i + 1) * (i + 2) = i * (i + 1) + (i + 1) * 2 := by
    simp only [Nat.add_mul, Nat.mul_add]; omega
  rw [this, Nat.add_mul_div_right _ _ (by omega)]
theorem walkAt_succ (h g i : Nat) : walkAt h g (i + 1) = (walkAt h g i + (i + 1)) % g := by
  simp only [walkAt, tri_succ]
  rw [Nat.mod_add_mod, Nat.add_assoc]
theorem walkAt_lt (h g i : Nat) (hg : 0 < g) : walkAt h g i < g := Nat.mod_lt _ hg
theorem and_mask (j a : Nat) : a &&& (2 ^ j - 1) = a % 2 ^ j := Nat.and_two_pow_sub_one_eq_mod a j
theorem bits_and_i64_nat (a b : Nat) (ha : a < 9223372036854775808) (hb : b < 9223372036854775808) : bits .and .i64 (a : Int) (b : Int) = ((a &&& b : Nat) : Int) := by
  have h1 : (BitVec.ofInt 64 (a : Int)).toNat = a := by
    rw [BitVec.ofInt_natCast, BitVec.toNat_ofNat]; exact Nat.mod_eq_of_lt (by omega)
  have h2 : (BitVec.ofInt 64 (b : Int)).toNat = b := by
    rw [BitVec.ofInt_natCast, BitVec.toNat_ofNat]; exact Nat.mod_eq_of_lt (by omega)
  show IntKind.i64.wrap ((BitVec.ofInt 64 (a : Int) &&& BitVec.ofInt 64 (b : Int)).toNat : Int) = _
  have hle : a &&& b ≤ a := Nat.and_le_left
  rw [BitVec.toNat_and, h1, h2, IntWalk.i64_in _ (by omega)]
theorem right_pow {g : Nat} (h : rightB (g : Int) = true) : ∃ j, j ≤ 6 ∧ g = 2 ^ j := by
  rw [rightB_iff] at h
  rcases h with h | h | h | h | h | h | h
  · exact ⟨0, by omega, by omega⟩
  · exact ⟨1, by omega, by omega⟩
  · exact ⟨2, by omega, by omega⟩
  · exact ⟨3, by omega, by omega⟩
  · exact ⟨4, by omega, by omega⟩
  · exact ⟨5, by omega, by omega⟩
  · exact ⟨6, by omega, by omega⟩
theorem right_bd {g : Nat} (h : rightB (g : Int) = true) : 1 ≤ g ∧ g ≤ 64 := by
  rw [rightB_iff] at h; omega
theorem mask_i64 (a g : Nat) (h : rightB (g : Int) = true) (ha : a < 9223372036854775808) : bits .and .i64 (a : Int) ((g : Int) - 1) = ((a % g : Nat) : Int) := by
  obtain ⟨j, hj, rfl⟩ := right_pow h
  have hb := right_bd h
  rw [show ((2 ^ j : Nat) : Int) - 1 = ((2 ^ j - 1 : Nat) : Int) by omega, bits_and_i64_nat _ _ ha (by omega), and_mask]
theorem mask_u64 (a g : Nat) (h : rightB (g : Int) = true) (ha : a < 18446744073709551616) : bits .and .u64 (a : Int) ((g : Int) - 1) = ((a % g : Nat) : Int) := by
  obtain ⟨j, hj, rfl⟩ := right_pow h
  have hb := right_bd h
  rw [show ((2 ^ j : Nat) : Int) - 1 = ((2 ^ j - 1 : Nat) : Int) by omega, bits_and_u64_nat _ _ ha (by omega), and_mask]
end Go.Proofs.YtolhmibejhldkaaGreatDoor

namespace Go.Proofs.YtolhmibejhldkaaGreatDoor
open Go.RowKit Go.Proofs
attribute [local go_sem] neq_nilG
theorem h2_bits (h : Nat) (hh : h < 18446744073709551616) : bits .and .u64 (h : Int) 127 = ((h % 128 : Nat) : Int) := by
  have := bits_and_u64_nat h 127 hh (by decide)
  rw [show h &&& 127 = h % 128 from and_mask 7 h] at this
  exact this
set_option maxHeartbeats 400000 in
theorem h2_any (h : Nat) (hh : h < 18446744073709551616) (w : World) :
    Calls Tryz.prog 145 #[.int .u64 (h : Int)] w fun e w' => e = .returned (.int .u8 ((h % 128 : Nat) : Int)) ∧ w = w' := by
  have hb := h2_bits h hh
  have hlt : h % 128 < 128 := Nat.mod_lt _ (by decide)
  have hw : IntKind.u8.wrap ((h % 128 : Nat) : Int) = ((h % 128 : Nat) : Int) := by rw [IntKind.wrap_u8]; omega
  generalize h % 128 = q at *
  go_enter Tryz.func145, Tryz.ntmps145
  go_wp2
  go_ret
  exact ⟨rfl, rfl⟩
theorem ctrlB_low (q : Nat) (h : q < 128) : ctrlB q = true := by unfold ctrlB; simp; omega
set_option maxRecDepth 100000 in
set_option maxHeartbeats 4000000 in
theorem gput_ok (G o m k h : Nat) (s : Nat → EntS) (x0 x1 : Int) (hm : m < 18446744073709551616) (hh : h < 18446744073709551616) (hk : k < 8) (hf : fullE m (k : Int) false = 0) (E : Nat → Addr) (w : World) (hg : GW w G o m s) (he : EC w E [1, 5]) :
    Calls Tryz.prog 101 #[.agg #[.pointer (some ⟨G, o, none⟩)], .int .i64 (k : Int), .agg #[.int .u64 x0, .int .u64 x1, .int .u64 (h : Int)]] w fun e w' =>
      e = .returned (.tuple #[.bool (ln m k == 254), .nilIface]) ∧ GW w' G o (setL m k (h % 128)) (putS s k ⟨x0, x1, h⟩) ∧ ChgG G o w w' := by
  have FE := Lib.hid (fun w' (hb : Below w.heap.size w w') => gfullE_any G o m s hm k false E w' (hg.below hb hg.lt) (he.below hb))
  rw [hf] at FE
  simp only [errN_0] at FE
  have HG := Lib.hid hg
  have hl := hg.lt
  have c0 := hg.word
  have H2 := Lib.hid (h2_any h hh)
  have hq := Nat.mod_lt h (show 0 < 128 by decide)
  have MK := Lib.hid (fun w' hw => gmark_any G o m k (h % 128) (putS s k ⟨x0, x1, h⟩) hm hk (by omega) (ctrlB_low _ hq) w' hw)
  have GT := Lib.hid (cget_in m k hm hk)
  have hb : (((ln m k : Nat) : Int) == 254) = (ln m k == 254) := by rw [Bool.eq_iff_iff]; simp; omega
  obtain ⟨wb, hwb⟩ : ∃ b, b = (ln m k == 254) := ⟨_, rfl⟩
  rw [← hwb] at hb ⊢
  clear hwb
  generalize ln m k = l at *
  generalize h % 128 = q at *
  have hfw := hg.frozen
  obtain ⟨s0, s1, s2⟩ := hg.slot k hk
  clear hg he hf
  go_enter Tryz.func101, Tryz.ntmps101
  go_upto_region 5 with (first
    | (go_at_call 147; refine (FE.out _ (by go_grown)).mono ?_; rintro e w1 ⟨rfl, hb1⟩; have hB1 : Below w.heap.size w w1 := (by first | exact hB1.trans (hb1.mono hB1.size) | exact hB1.trans (Below.undrew (hb1.mono hB1.size)) | exact hb1 | exact Below.trans (by go_grown) (hb1.mono (by simp <;> omega))); have hcG := fun (o : Nat) => hb1.cell (p := ⟨G, o, none⟩) (by first | assumption | (simp <;> omega)); have hfG := fun (o : Nat) => hb1.frozen (p := ⟨G, o, none⟩) (by first | assumption | (simp <;> omega)); have hzG : G < w1.heap.size := Nat.lt_of_lt_of_le (by first | assumption | (simp <;> omega)) hb1.size; have hcwheapsize := fun (o : Nat) => hb1.cell (p := ⟨w.heap.size, o, none⟩) (by first | assumption | (simp <;> omega)); have hfwheapsize := fun (o : Nat) => hb1.frozen (p := ⟨w.heap.size, o, none⟩) (by first | assumption | (simp <;> omega)); have hzwheapsize : w.heap.size < w1.heap.size := Nat.lt_of_lt_of_le (by first | assumption | (simp <;> omega)) hb1.size; have hcwheapsize__1 := fun (o : Nat) => hb1.cell (p := ⟨w.heap.size + 1, o, none⟩) (by first | assumption | (simp <;> omega)); have hfwheapsize__1 := fun (o : Nat) => hb1.frozen (p := ⟨w.heap.size + 1, o, none⟩) (by first | assumption | (simp <;> omega)); have hzwheapsize__1 : w.heap.size + 1 < w1.heap.size := Nat.lt_of_lt_of_le (by first | assumption | (simp <;> omega)) hb1.size)
    | (go_at_call 148; refine (GT.out _).mono ?_; rintro e w' ⟨rfl, rfl⟩))
  have HG1 := Lib.hid (HG.out.below hB1 hl)
  have hP1 : Blk w1 w.heap.size 96 #[.pointer (some ⟨G, o, none⟩)] := Blk.below ((Blk.new w _ _).alloc _) hb1 (by simp <;> omega)
  have hP2 : Blk w1 (w.heap.size + 1) 46 #[.int .u64 x0, .int .u64 x1, .int .u64 (h : Int)] := Blk.below (Blk.new_at (by simp)) hb1 (by simp)
  have hk8 : (k : Int) < 8 := by omega
  refine wp_region_seq (fun _ => False) #[⟨0, 0, 16777216, 8, 0⟩, ⟨1, 1, 33554432, 16777216, 1⟩, ⟨0, 0, 67108864, 2, 0⟩, ⟨0, 0, 134217728, 32, 1⟩, ⟨2, 3, 268435456, 33554432, 0⟩, ⟨16, 19, 536870912, 268435456, 0⟩, ⟨47, 63, 1073741824, 603979776, 0⟩, ⟨79, 127, 0, 1207959552, 3⟩] 10 [(0, 0), (1, 1), (2, 0), (3, 1), (4, 0), (5, 0), (6, 0), (7, 3)] (by kernel_rfl) (by kernel_rfl) (by kernel_rfl) (by kernel_rfl) (by kernel_rfl) (by kernel_rfl) (fun c a d v w h => by cases d <;> exact h) ?_
  refine zqC ?_
  refine zq1 Tryz.underlying94 ?_
  try refine zqP ?_; refine zqC ?_
  refine zqL [_, _, _] Tryz.underlying46 ?_
  try refine zqP ?_; refine zqC ?_; refine zqC ?_; refine zqC ?_
  refine zqE fun K hK => ?_; go_wp2_with (fail); refine hK.out _ _ ?_; clear hK K
  try refine zqP ?_
  refine seq_nil ?_
  go_upto_region 6 with (fail)
  refine wp_at (fun wE hE => ?_)
  have HGE := Lib.hid (show GW wE G o m (putS s k ⟨x0, x1, h⟩) by rw [hE]; exact HG1.out.drew.setSlot k hk ⟨x0, x1, h⟩)
  have q1 : Blk wE w.heap.size 96 #[.pointer (some ⟨G, o, none⟩)] := by rw [hE]; exact ((hP1.drew.other (by omega) _ _).other (by omega) _ _).other (by omega) _ _
  have q2 : Blk wE (w.heap.size + 1) 46 #[.int .u64 x0, .int .u64 x1, .int .u64 (h : Int)] := by rw [hE]; exact ((hP2.drew.other (by omega) _ _).other (by omega) _ _).other (by omega) _ _
  have hCE : ChgG G o w wE := by rw [hE]; exact ((((ChgG.of_below hB1).drew).set1 _ _ (by omega)).set1 _ _ (by omega)).set1 _ _ (by omega)
  have n1 : ¬ w.heap.size = G := by omega
  have n2 : ¬ w.heap.size + 1 = G := by omega
  have d0 := q1.cell 0
  have d2 := q2.cell 2
  have l1 := q1.lt
  have l2 := q2.lt
  clear hE hP1 hP2
  refine wp_region_seq (fun b => b = G) #[⟨0, 0, 2147483648, 8, 1⟩, ⟨0, 0, 4294967296, 2, 0⟩, ⟨0, 0, 8589934592, 32, 0⟩, ⟨4, 4, 17179869184, 8589934592, 1⟩, ⟨8, 12, 34359738368, 17179869184, 2⟩, ⟨19, 31, 68719476736, 40802189312, 3⟩] 9 [(0, 1), (1, 0), (2, 0), (3, 1), (4, 2), (5, 3)] (by kernel_rfl) (by kernel_rfl) (by kernel_rfl) (by kernel_rfl) (by kernel_rfl) (by kernel_rfl) (fun c a d v w h => by cases d <;> exact h) ?_
  refine zqL [_] Tryz.underlying96 ?_
  try refine zqP ?_; refine zqC ?_; refine zqC ?_
  refine zq1 Tryz.underlying38 ?_
  try refine zqP ?_
  refine zqD fun K hK => ?_; go_wp2_with (first | (go_at_call 145; refine (H2.out _).mono ?_; rintro e w' ⟨rfl, rfl⟩) | (go_at_call 149; refine (MK.out _ HGE.out.drew).mono ?_; rintro e w3 ⟨rfl, h3, c3⟩; have H3 := Lib.hid h3; clear h3)); refine hkA hK (h := ?_); clear hK K
  try refine zqP ?_
  refine zqE fun K hK => ?_; go_wp2_with (first | (go_at_call 145; refine (H2.out _).mono ?_; rintro e w' ⟨rfl, rfl⟩) | (go_at_call 149; refine (MK.out _ HGE.out.drew).mono ?_; rintro e w3 ⟨rfl, h3, c3⟩; have H3 := Lib.hid h3; clear h3)); refine hK.out _ _ ?_; clear hK K
  try refine zqP ?_
  refine seq_nil ?_
  go_wp2
  go_ret2
  exact ⟨rfl, H3.out, hCE.drew.trans c3⟩
set_option maxRecDepth 100000 in
set_option maxHeartbeats 4000000 in
theorem gset_ok (G o m k : Nat) (s : Nat → EntS) (v : Int) (hm : m < 18446744073709551616) (hk : k < 8) (hf : fullE m (k : Int) true = 0) (E : Nat → Addr) (w : World) (hg : GW w G o m s) (he : EC w E [1, 5]) :
    Calls Tryz.prog 99 #[.agg #[.pointer (some ⟨G, o, none⟩)], .int .i64 (k : Int), .int .u64 v] w fun e w' =>
      e = .returned .nilIface ∧ GW w' G o m (putS s k { s k with val := v }) ∧ ChgG G o w w' := by
  have FE := Lib.hid (fun w' (hb : Below w.heap.size w w') => gfullE_any G o m s hm k true E w' (hg.below hb hg.lt) (he.below hb))
  rw [hf] at FE
  simp only [errN_0] at FE
  have HG := Lib.hid hg
  have hl := hg.lt
  have hfw := hg.frozen
  obtain ⟨s0, s1, s2⟩ := hg.slot k hk
  have hk8 : (k : Int) < 8 := by omega
  clear hg he hf
  go_enter Tryz.func99, Tryz.ntmps99
  go_wp2_with (go_at_call 147; refine (FE.out _ (by go_grown)).mono ?_; rintro e w1 ⟨rfl, hb1⟩; have hB1 : Below w.heap.size w w1 := (by first | exact hB1.trans (hb1.mono hB1.size) | exact hB1.trans (Below.undrew (hb1.mono hB1.size)) | exact hb1 | exact Below.trans (by go_grown) (hb1.mono (by simp <;> omega))); have hcG := fun (o : Nat) => hb1.cell (p := ⟨G, o, none⟩) (by first | assumption | (simp <;> omega)); have hfG := fun (o : Nat) => hb1.frozen (p := ⟨G, o, none⟩) (by first | assumption | (simp <;> omega)); have hzG : G < w1.heap.size := Nat.lt_of_lt_of_le (by first | assumption | (simp <;> omega)) hb1.size; have hcwheapsize := fun (o : Nat) => hb1.cell (p := ⟨w.heap.size, o, none⟩) (by first | assumption | (simp <;> omega)); have hfwheapsize := fun (o : Nat) => hb1.frozen (p := ⟨w.heap.size, o, none⟩) (by first | assumption | (simp <;> omega)); have hzwheapsize : w.heap.size < w1.heap.size := Nat.lt_of_lt_of_le (by first | assumption | (simp <;> omega)) hb1.size)
  go_ret
  exact ⟨rfl, (HG.out.below hB1 hl).setVal k hk v, (ChgG.of_below hB1).set1 _ _ (by omega)⟩
end Go.Proofs.YtolhmibejhldkaaGreatDoor

namespace Go.Proofs.YtolhmibejhldkaaGreatDoor
open Go.RowKit Go.Proofs
attribute [local go_sem] neq_nilG
def goneN (m : Nat) : Nat := if openB m = true then 128 else 254
set_option maxRecDepth 100000 in
set_option maxHeartbeats 4000000 in
theorem gerase_ok (G o m k : Nat) (s : Nat → EntS) (hm : m < 18446744073709551616) (hk : k < 8) (hf : fullE m (k : Int) true = 0) (E : Nat → Addr) (w : World) (hg : GW w G o m s) (he : EC w E [1, 5]) :
    Calls Tryz.prog 173 #[.agg #[.pointer (some ⟨G, o, none⟩)], .int .i64 (k : Int)] w fun e w' =>
      e = .returned (.tuple #[.bool (!openB m), .nilIface]) ∧ GW w' G o (setL m k (goneN m)) (putS s k EntS.zero) ∧ ChgG G o w w' := by
  by_cases ho : openB m = true
  · rw [ho]
    show Calls _ _ _ _ fun e w' => e = .returned (.tuple #[.bool false, .nilIface]) ∧ _
    have FE := Lib.hid (fun w' (hb : Below w.heap.size w w') => gfullE_any G o m s hm k true E w' (hg.below hb hg.lt) (he.below hb))
    rw [hf] at FE
    simp only [errN_0] at FE
    have OP := Lib.hid (fun w' (hb : Below w.heap.size w w') => gopen_any G o m s hm w' (hg.below hb hg.lt))
    have MK := Lib.hid (fun w' hw => gmark_any G o m k (goneN m) (putS s k EntS.zero) hm hk (by unfold goneN; split <;> decide) (by unfold goneN; split <;> decide) w' hw)
    rw [show goneN m = 128 by unfold goneN; rw [ho]; rfl] at *
    rw [ho] at OP
    have HG := Lib.hid hg
    have hl := hg.lt
    have hfw := hg.frozen
    obtain ⟨s0, s1, s2⟩ := hg.slot k hk
    have hk8 : (k : Int) < 8 := by omega
    clear hg he hf ho
    go_enter Tryz.func173, Tryz.ntmps173
    go_upto_region 6 with (first
      | (go_at_call 147; refine (FE.out _ (by go_grown)).mono ?_; rintro e w1 ⟨rfl, hb1⟩; have hB1 : Below w.heap.size w w1 := (by first | exact hB1.trans (hb1.mono hB1.size) | exact hB1.trans (Below.undrew (hb1.mono hB1.size)) | exact hb1 | exact Below.trans (by go_grown) (hb1.mono (by simp <;> omega))); have hcG := fun (o : Nat) => hb1.cell (p := ⟨G, o, none⟩) (by first | assumption | (simp <;> omega)); have hfG := fun (o : Nat) => hb1.frozen (p := ⟨G, o, none⟩) (by first | assumption | (simp <;> omega)); have hzG : G < w1.heap.size := Nat.lt_of_lt_of_le (by first | assumption | (simp <;> omega)) hb1.size; have hcwheapsize := fun (o : Nat) => hb1.cell (p := ⟨w.heap.size, o, none⟩) (by first | assumption | (simp <;> omega)); have hfwheapsize := fun (o : Nat) => hb1.frozen (p := ⟨w.heap.size, o, none⟩) (by first | assumption | (simp <;> omega)); have hzwheapsize : w.heap.size < w1.heap.size := Nat.lt_of_lt_of_le (by first | assumption | (simp <;> omega)) hb1.size)
      | (go_at_call 97; refine (OP.out _ hB1).mono ?_; rintro e w2 ⟨rfl, hb2⟩; have hB1 : Below w.heap.size w w2 := (by first | exact hB1.trans (hb2.mono hB1.size) | exact hB1.trans (Below.undrew (hb2.mono hB1.size)) | exact hb2 | exact Below.trans (by go_grown) (hb2.mono (by simp <;> omega))); have hcG := fun (o : Nat) => hb2.cell (p := ⟨G, o, none⟩) (by first | assumption | (simp <;> omega)); have hfG := fun (o : Nat) => hb2.frozen (p := ⟨G, o, none⟩) (by first | assumption | (simp <;> omega)); have hzG : G < w2.heap.size := Nat.lt_of_lt_of_le (by first | assumption | (simp <;> omega)) hb2.size; have hcwheapsize := fun (o : Nat) => hb2.cell (p := ⟨w.heap.size, o, none⟩) (by first | assumption | (simp <;> omega)); have hfwheapsize := fun (o : Nat) => hb2.frozen (p := ⟨w.heap.size, o, none⟩) (by first | assumption | (simp <;> omega)); have hzwheapsize : w.heap.size < w2.heap.size := Nat.lt_of_lt_of_le (by first | assumption | (simp <;> omega)) hb2.size))
    refine wp_at (fun wE hE => ?_)
    have hp1 : Blk w2 w.heap.size 96 #[.pointer (some ⟨G, o, none⟩)] := Blk.below (Blk.below (Blk.new w _ _) hb1 (by simp)) hb2 (by have := hb1.size; simp at this; omega)
    have HGE := Lib.hid (show GW wE G o m (putS s k EntS.zero) by rw [hE]; exact (HG.out.below hB1 hl).setSlot k hk EntS.zero)
    have q1 : Blk wE w.heap.size 96 #[.pointer (some ⟨G, o, none⟩)] := by rw [hE]; exact ((hp1.other (by omega) _ _).other (by omega) _ _).other (by omega) _ _
    have hCE : ChgG G o w wE := by rw [hE]; exact (((ChgG.of_below hB1).set1 _ _ (by omega)).set1 _ _ (by omega)).set1 _ _ (by omega)
    have d0 := q1.cell 0
    have l1 := q1.lt
    clear hE hp1
    go_wp2_with (go_at_call 149; refine (MK.out _ HGE.out).mono ?_; rintro e w3 ⟨rfl, h3, c3⟩; have H3 := Lib.hid h3; clear h3)
    go_ret2
    exact ⟨rfl, H3.out, hCE.trans c3⟩
  · replace ho : openB m = false := by simpa using ho
    rw [ho]
    show Calls _ _ _ _ fun e w' => e = .returned (.tuple #[.bool true, .nilIface]) ∧ _
    have FE := Lib.hid (fun w' (hb : Below w.heap.size w w') => gfullE_any G o m s hm k true E w' (hg.below hb hg.lt) (he.below hb))
    rw [hf] at FE
    simp only [errN_0] at FE
    have OP := Lib.hid (fun w' (hb : Below w.heap.size w w') => gopen_any G o m s hm w' (hg.below hb hg.lt))
    have MK := Lib.hid (fun w' hw => gmark_any G o m k (goneN m) (putS s k EntS.zero) hm hk (by unfold goneN; split <;> decide) (by unfold goneN; split <;> decide) w' hw)
    rw [show goneN m = 254 by unfold goneN; rw [ho]; rfl] at *
    rw [ho] at OP
    have HG := Lib.hid hg
    have hl := hg.lt
    have hfw := hg.frozen
    obtain ⟨s0, s1, s2⟩ := hg.slot k hk
    have hk8 : (k : Int) < 8 := by omega
    clear hg he hf ho
    go_enter Tryz.func173, Tryz.ntmps173
    go_upto_region 6 with (first
      | (go_at_call 147; refine (FE.out _ (by go_grown)).mono ?_; rintro e w1 ⟨rfl, hb1⟩; have hB1 : Below w.heap.size w w1 := (by first | exact hB1.trans (hb1.mono hB1.size) | exact hB1.trans (Below.undrew (hb1.mono hB1.size)) | exact hb1 | exact Below.trans (by go_grown) (hb1.mono (by simp <;> omega))); have hcG := fun (o : Nat) => hb1.cell (p := ⟨G, o, none⟩) (by first | assumption | (simp <;> omega)); have hfG := fun (o : Nat) => hb1.frozen (p := ⟨G, o, none⟩) (by first | assumption | (simp <;> omega)); have hzG : G < w1.heap.size := Nat.lt_of_lt_of_le (by first | assumption | (simp <;> omega)) hb1.size; have hcwheapsize := fun (o : Nat) => hb1.cell (p := ⟨w.heap.size, o, none⟩) (by first | assumption | (simp <;> omega)); have hfwheapsize := fun (o : Nat) => hb1.frozen (p := ⟨w.heap.size, o, none⟩) (by first | assumption | (simp <;> omega)); have hzwheapsize : w.heap.size < w1.heap.size := Nat.lt_of_lt_of_le (by first | assumption | (simp <;> omega)) hb1.size)
      | (go_at_call 97; refine (OP.out _ hB1).mono ?_; rintro e w2 ⟨rfl, hb2⟩; have hB1 : Below w.heap.size w w2 := (by first | exact hB1.trans (hb2.mono hB1.size) | exact hB1.trans (Below.undrew (hb2.mono hB1.size)) | exact hb2 | exact Below.trans (by go_grown) (hb2.mono (by simp <;> omega))); have hcG := fun (o : Nat) => hb2.cell (p := ⟨G, o, none⟩) (by first | assumption | (simp <;> omega)); have hfG := fun (o : Nat) => hb2.frozen (p := ⟨G, o, none⟩) (by first | assumption | (simp <;> omega)); have hzG : G < w2.heap.size := Nat.lt_of_lt_of_le (by first | assumption | (simp <;> omega)) hb2.size; have hcwheapsize := fun (o : Nat) => hb2.cell (p := ⟨w.heap.size, o, none⟩) (by first | assumption | (simp <;> omega)); have hfwheapsize := fun (o : Nat) => hb2.frozen (p := ⟨w.heap.size, o, none⟩) (by first | assumption | (simp <;> omega)); have hzwheapsize : w.heap.size < w2.heap.size := Nat.lt_of_lt_of_le (by first | assumption | (simp <;> omega)) hb2.size))
    refine wp_at (fun wE hE => ?_)
    have hp1 : Blk w2 w.heap.size 96 #[.pointer (some ⟨G, o, none⟩)] := Blk.below (Blk.below (Blk.new w _ _) hb1 (by simp)) hb2 (by have := hb1.size; simp at this; omega)
    have HGE := Lib.hid (show GW wE G o m (putS s k EntS.zero) by rw [hE]; exact (HG.out.below hB1 hl).setSlot k hk EntS.zero)
    have q1 : Blk wE w.heap.size 96 #[.pointer (some ⟨G, o, none⟩)] := by rw [hE]; exact ((hp1.other (by omega) _ _).other (by omega) _ _).other (by omega) _ _
    have hCE : ChgG G o w wE := by rw [hE]; exact (((ChgG.of_below hB1).set1 _ _ (by omega)).set1 _ _ (by omega)).set1 _ _ (by omega)
    have d0 := q1.cell 0
    have l1 := q1.lt
    clear hE hp1
    go_wp2_with (go_at_call 149; refine (MK.out _ HGE.out).mono ?_; rintro e w3 ⟨rfl, h3, c3⟩; have H3 := Lib.hid h3; clear h3)
    go_ret2
    exact ⟨rfl, H3.out, hCE.trans c3⟩
set_option maxRecDepth 100000 in
set_option maxHeartbeats 2000000 in
theorem glook_none (G o : Nat) (x y z : Int) (w : World) :
    Calls Tryz.prog 88 #[.pointer (some ⟨G, o, none⟩), .agg #[.pointer none, .int .i64 x, .int .i64 y, .int .i64 z]] w fun e w' => e = .returned (viewV G o) ∧ Below w.heap.size w w' := by
  unfold viewV
  go_enter Tryz.func88, Tryz.ntmps88
  go_wp2_with (go_at_call 135; refine (visit_none _ _ _ _).mono ?_; rintro e w1 ⟨rfl, hb1⟩; have hB1 : Below w.heap.size w w1 := (by first | exact hB1.trans (hb1.mono hB1.size) | exact hB1.trans (Below.undrew (hb1.mono hB1.size)) | exact hb1 | exact Below.trans (by go_grown) (hb1.mono (by simp <;> omega))); have hcwheapsize := fun (o : Nat) => hb1.cell (p := ⟨w.heap.size, o, none⟩) (by first | assumption | (simp <;> omega)); have hfwheapsize := fun (o : Nat) => hb1.frozen (p := ⟨w.heap.size, o, none⟩) (by first | assumption | (simp <;> omega)); have hzwheapsize : w.heap.size < w1.heap.size := Nat.lt_of_lt_of_le (by first | assumption | (simp <;> omega)) hb1.size; have hcwheapsize__1 := fun (o : Nat) => hb1.cell (p := ⟨w.heap.size + 1, o, none⟩) (by first | assumption | (simp <;> omega)); have hfwheapsize__1 := fun (o : Nat) => hb1.frozen (p := ⟨w.heap.size + 1, o, none⟩) (by first | assumption | (simp <;> omega)); have hzwheapsize__1 : w.heap.size + 1 < w1.heap.size := Nat.lt_of_lt_of_le (by first | assumption | (simp <;> omega)) hb1.size)
  have HRb : Blk w1 (w.heap.size + 1) 96 #[.pointer none] := Blk.below (Blk.new_at (by simp)) hb1 (by simp)
  have r0 := (HRb.set 0 (.pointer (some ⟨G, o, none⟩))).cell 0
  simp only [List.setIfInBounds_toArray, List.set_cons_zero, List.set_cons_succ, List.getElem?_toArray, List.getElem?_cons_zero, List.getElem?_cons_succ] at r0
  exact bodyPost_ret (v := .agg #[.pointer (some ⟨G, o, none⟩)]) (by simp [results, Tryz.results88, go_sem, r0]) rfl ⟨rfl, hB1.setCell (p := ⟨w.heap.size + 1, 0, none⟩) (by simp) _⟩
set_option maxRecDepth 100000 in
set_option maxHeartbeats 2000000 in
theorem glook_m (G o M : Nat) (mt : MeterS) (x y z : Int) (w : World) (hM : Blk w M 37 mt.cells) :
    Calls Tryz.prog 88 #[.pointer (some ⟨G, o, none⟩), .agg #[.pointer (some ⟨M, 0, none⟩), .int .i64 x, .int .i64 y, .int .i64 z]] w fun e w' => e = .returned (viewV G o) ∧ Blk w' M 37 (mt.add x y z).cells ∧ Chg (fun b => b = M) w w' := by
  unfold viewV
  have VS := Lib.hid (fun w' hb => visit_any mt x y z M 37 w' hb)
  have HM := Lib.hid hM
  have hl := hM.lt
  generalize mt.add x y z = mt' at *
  clear hM
  go_enter Tryz.func88, Tryz.ntmps88
  go_wp2_with (go_at_call 135; refine (VS.out _ ((HM.out.alloc _).alloc _)).mono ?_; rintro e w1 ⟨rfl, h1, c1⟩; have H1 := Lib.hid h1; have HRb : Blk w1 (w.heap.size + 1) 96 #[.pointer none] := Blk.chg (Blk.new_at (by simp)) c1 (by omega); have hRz := HRb.lt; have hRf := HRb.frozen; have hRc := HRb.cell 0; clear h1)
  have r0 := (HRb.set 0 (.pointer (some ⟨G, o, none⟩))).cell 0
  simp only [List.setIfInBounds_toArray, List.set_cons_zero, List.set_cons_succ, List.getElem?_toArray, List.getElem?_cons_zero, List.getElem?_cons_succ] at r0
  exact bodyPost_ret (v := .agg #[.pointer (some ⟨G, o, none⟩)]) (by simp [results, Tryz.results88, go_sem, r0]) rfl ⟨rfl, H1.out.other (by omega) _ _, ((Chg.of_below (by go_grown)).trans c1).setCell (.inr (by simp)) _⟩
def spliceA (A cs : Array Value) (o : Nat) : Array Value := (A.toList.take o ++ cs.toList ++ A.toList.drop (o + cs.size)).toArray
theorem spliceA_size (A cs : Array Value) (o : Nat) (h : o + cs.size ≤ A.size) : (spliceA A cs o).size = A.size := by
  simp [spliceA]; omega
theorem spliceA_in (A cs : Array Value) (o j : Nat) (h : o + cs.size ≤ A.size) (hj : j < cs.size) : (spliceA A cs o)[o + j]? = cs[j]? := by
  have h1 : (A.toList.take o).length = o := by simp; omega
  have h2 : j < cs.toList.length := by simpa using hj
  unfold spliceA
  rw [List.getElem?_toArray, List.append_assoc, List.getElem?_append_right (by omega), h1, Nat.add_sub_cancel_left, List.getElem?_append_left h2, Array.getElem?_toList]
theorem spliceA_out (A cs : Array Value) (o j : Nat) (h : o + cs.size ≤ A.size) (hj : j < o ∨ o + cs.size ≤ j) : (spliceA A cs o)[j]? = A[j]? := by
  have h1 : (A.toList.take o).length = o := by simp; omega
  have h2 : cs.toList.length = cs.size := by simp
  unfold spliceA
  rw [List.getElem?_toArray]
  rcases hj with hj | hj
  · rw [List.append_assoc, List.getElem?_append_left (by omega), List.getElem?_take_of_lt hj, Array.getElem?_toList]
  · rw [List.getElem?_append_right (by simp; omega), List.getElem?_drop, ← Array.getElem?_toList]
    congr 1
    simp; omega
theorem exec_storeAt {P : Program} {w : World} {a : Oper} {ρ : Operand → Value} {t : TypeId} {x y : Operand} (hop : a.op = .store t x y) {g off : Nat} {cs cur : Array Value} {T : TypeId} (hx : ρ x = .pointer (some ⟨g, off, none⟩)) (hy : ρ y = .agg cs)
    (hg : Blk w g T cur) (hs : off + cs.size ≤ cur.size) (hi : (sizeOf t).run P w = .ok cs.size w) (h1 : ∀ v ∈ cs.toList, v.oneCell' = true) :
    (execOp ρ a).run P w = .ok .skip (w.setRow g (spliceA cur cs off)) := by
  have h := run_storeCells_at P g off T cs.toList 0 cur w hg (by simpa using hs) h1
  simp only [Nat.add_zero, Array.length_toList] at h
  simp [execOp, hop, hx, hy, Instr.storeAt, Instr.sureAddr, storeVar, Sem.run_bind, hi, Value.cells, h, Result.andThen, spliceA]
theorem ChgG.setRow {G o : Nat} {a w : World} (h : ChgG G o a w) {T : TypeId} {A cs : Array Value} (hA : Blk w G T A) (hc : cs.size = 25) (ho : o + 25 ≤ A.size) : ChgG G o a (w.setRow G (spliceA A cs o)) :=
  ⟨h.chg.trans ⟨rfl, rfl, rfl, by simp [World.setRow], fun k _ hk => setRow_other w G _ hk⟩, fun T0 A0 h0 => by
    obtain ⟨A1, h1, s1, r1⟩ := h.rest T0 A0 h0
    have e : some (Obj.cells A1 T0 (0, 0)) = some (Obj.cells A T (0, 0)) := (show w.heap[G]? = _ from h1).symm.trans hA
    cases e
    exact ⟨_, Blk.setRow h1 _, by rw [spliceA_size _ _ _ (by omega), s1], fun j hj => by rw [spliceA_out _ _ _ _ (by omega) (by omega), r1 j hj]⟩⟩
theorem oper_unit {P : Program} {o : Oper} {a : Act} {w w' : World} {K : Act → World → Prop} {Q : Exit → Act → World → Prop} (hrun : (execOp a.eval o).run P w = .ok .skip w') (h : K (a.put o.dst undef) w') : o.wp P a w K Q := by
  unfold Oper.wp
  rw [hrun]
  exact h
set_option maxRecDepth 100000 in
set_option maxHeartbeats 4000000 in
theorem gclear_any (G o m : Nat) (s : Nat → EntS) (w : World) (hg : GW w G o m s) :
    Calls Tryz.prog 89 #[.agg #[.pointer (some ⟨G, o, none⟩)]] w fun e w' => e = .returned (.tuple #[]) ∧ GW w' G o (rep 128) (fun _ => EntS.zero) ∧ ChgG G o w w' := by
  obtain ⟨T, A, hA, hk⟩ := hg
  have ho : o + 25 ≤ A.size := by have := (Array.getElem?_eq_some_iff.1 (hk 24 (by decide))).1; omega
  have HG := Lib.hid hA
  have hl := hA.lt
  have hfw := fun j => hA.frozen j
  clear hA hk
  go_enter Tryz.func89, Tryz.ntmps89
  go_wp2
  refine wp_region_seq (fun _ => False) #[⟨0, 0, 4, 2, 0⟩, ⟨1, 1, 8, 4, 1⟩, ⟨0, 0, 16, 0, 2⟩, ⟨4, 4, 32, 16, 0⟩, ⟨8, 12, 64, 32, 1⟩, ⟨31, 31, 128, 8, 0⟩, ⟨63, 63, 0, 192, 3⟩] 18 [(0, 0), (1, 1), (2, 2), (3, 0), (4, 1), (5, 0), (6, 3)] (by kernel_rfl) (by kernel_rfl) (by kernel_rfl) (by kernel_rfl) (by kernel_rfl) (by kernel_rfl) (fun c a d v w h => by cases d <;> exact h) ?_
  refine zqC ?_
  refine zq1 Tryz.underlying94 ?_
  try refine zqP ?_
  refine zqD fun K hK => ?_; go_wp2_with (go_at_call 136; refine (gnew_any _).mono ?_; rintro e w1 ⟨rfl, h1, hb1⟩; have hr := gnew_whole (B := w.heap.size + 1) (by simpa using h1); clear h1; have hG1 := Lib.hid (HG.out.below (Below.trans (show Below w.heap.size w _ from by go_grown) (hb1.mono (by simp))) hl); have hB1 : Below w.heap.size w w1 := (by first | exact hB1.trans (hb1.mono hB1.size) | exact hB1.trans (Below.undrew (hb1.mono hB1.size)) | exact hb1 | exact Below.trans (by go_grown) (hb1.mono (by simp <;> omega))); have hcG := fun (o : Nat) => hb1.cell (p := ⟨G, o, none⟩) (by first | assumption | (simp <;> omega)); have hfG := fun (o : Nat) => hb1.frozen (p := ⟨G, o, none⟩) (by first | assumption | (simp <;> omega)); have hzG : G < w1.heap.size := Nat.lt_of_lt_of_le (by first | assumption | (simp <;> omega)) hb1.size; have hcwheapsize := fun (o : Nat) => hb1.cell (p := ⟨w.heap.size, o, none⟩) (by first | assumption | (simp <;> omega)); have hfwheapsize := fun (o : Nat) => hb1.frozen (p := ⟨w.heap.size, o, none⟩) (by first | assumption | (simp <;> omega)); have hzwheapsize : w.heap.size < w1.heap.size := Nat.lt_of_lt_of_le (by first | assumption | (simp <;> omega)) hb1.size); refine hkA hK (h := ?_); clear hK K
  try refine zqP ?_; refine zqC ?_
  refine zqL [_, _, _, _, _, _, _, _, _, _, _, _, _, _, _, _, _, _, _, _, _, _, _, _, _] Tryz.underlying147 ?_
  try refine zqP ?_; refine zqC ?_
  refine zqE fun K hK => ?_; refine oper_unit (exec_storeAt (t := 147) (cs := #[.int .u64 ((rep 128 : Nat) : Int), .int .u64 0, .int .u64 0, .int .u64 0, .int .u64 0, .int .u64 0, .int .u64 0, .int .u64 0, .int .u64 0, .int .u64 0, .int .u64 0, .int .u64 0, .int .u64 0, .int .u64 0, .int .u64 0, .int .u64 0, .int .u64 0, .int .u64 0, .int .u64 0, .int .u64 0, .int .u64 0, .int .u64 0, .int .u64 0, .int .u64 0, .int .u64 0]) rfl rfl rfl hG1.out ho (Tryz.sizeOf147 _) (by simp [Value.oneCell'])) ?_; refine hK.out _ _ ?_; clear hK K
  try refine zqP ?_
  refine seq_nil ?_
  go_wp2
  ((try simp only [Exit.inBlock, Exit.then]); first | refine bodyPost_end (results_none rfl _ _ _) rfl ?_ | refine bodyPost_ret (results_none rfl _ _ _) rfl ?_)
  exact ⟨rfl, ⟨_, _, Blk.setRow hG1.out _, fun j hj => by rw [spliceA_in _ _ _ _ ho hj, ← gnew_cells]; exact arrV_get _ _ _ hj⟩, (ChgG.of_below hB1).setRow hG1.out rfl ho⟩
end Go.Proofs.YtolhmibejhldkaaGreatDoor

namespace Go.Proofs.YtolhmibejhldkaaGreatDoor
open Go.RowKit Go.Proofs
theorem firstL_congr {f g : Nat → Bool} (h : ∀ i, i < 8 → f i = g i) : firstL f = firstL g := by
  have h0 := h 0 (by decide); have h1 := h 1 (by decide); have h2 := h 2 (by decide); have h3 := h 3 (by decide)
  have h4 := h 4 (by decide); have h5 := h 5 (by decide); have h6 := h 6 (by decide); have h7 := h 7 (by decide)
  unfold firstL
  simp only [firstFrom, h0, h1, h2, h3, h4, h5, h6, h7]
def freeZ (m : Nat) : Int := match firstL (highB m) with | none => -1 | some j => (j : Int)
theorem first_any (m : Nat) (hm : m < 18446744073709551616) (w : World) (hT : Tab64 w) : Calls Tryz.prog 141 #[.int .u64 (m : Int)] w fun e w' => e = .returned (.int .i64 (freeZ m)) ∧ w = w' := by
  unfold freeZ
  cases h : firstL (highB m) with
  | none => exact first_none m hm h w
  | some j => exact first_some m j hm h w hT
theorem free_mask (m : Nat) : freeZ (maskB (highB m)) = freeZ m := by
  unfold freeZ
  rw [firstL_congr (maskB_high (highB m))]
set_option maxRecDepth 100000 in
set_option maxHeartbeats 1000000 in
theorem gfree_any (G o m : Nat) (s : Nat → EntS) (hm : m < 18446744073709551616) (w : World) (h : GW w G o m s) (hT : Tab64 w) :
    Calls Tryz.prog 95 #[.agg #[.pointer (some ⟨G, o, none⟩)]] w fun e w' => e = .returned (.int .i64 (freeZ m)) ∧ Below w.heap.size w w' := by
  have c0 := h.word
  have hl := h.lt
  have E := Lib.hid (cfrees_any m hm)
  have C := fun w' (hb : Below w.heap.size w w') => first_any (maskB (highB m)) (maskB_lt _) w' (hT.below hb)
  rw [free_mask] at C
  replace C := Lib.hid C
  generalize maskB (highB m) = q at *
  generalize freeZ m = ob at *
  clear h hT
  go_enter Tryz.func95, Tryz.ntmps95
  go_wp2_with (first
    | (go_at_call 142; refine (E.out _).mono ?_; rintro e w' ⟨rfl, rfl⟩)
    | (go_at_call 141; refine (C.out _ (by go_grown)).mono ?_; rintro e w' ⟨rfl, rfl⟩))
  go_ret
  exact ⟨rfl, by go_grown⟩
end Go.Proofs.YtolhmibejhldkaaGreatDoor

namespace Go.Proofs.YtolhmibejhldkaaGreatDoor
open Go.RowKit
structure Moves (M M' : Nat → Prop) (A B : World) : Prop where
  size : A.heap.size ≤ B.heap.size
  same : ∀ b, b < A.heap.size → ¬ M b → B.heap[b]? = A.heap[b]?
  grow : ∀ b, M' b → M b ∨ A.heap.size ≤ b
theorem Moves.refl (M : Nat → Prop) (A : World) : Moves M M A A := ⟨Nat.le_refl _, fun _ _ _ => rfl, fun _ h => .inl h⟩
theorem Moves.trans {M M' M'' : Nat → Prop} {A B C : World} (h : Moves M M' A B) (k : Moves M' M'' B C) : Moves M M'' A C :=
  ⟨Nat.le_trans h.size k.size, fun b hb hM => (k.same b (Nat.lt_of_lt_of_le hb h.size) (fun h' => (h.grow b h').elim hM (fun h'' => by omega))).trans (h.same b hb hM),
    fun b hb => (k.grow b hb).elim (fun h' => h.grow b h') (fun h' => .inr (Nat.le_trans h.size h'))⟩
theorem run_append_own2 {P : Program} (w : World) (base : Nat) (t ty e : TypeId) (i : TypeInfo) (z : Value) (size bytes : Nat) (ht : P.underlying t = some (.slice e)) (hi : P.info? e = some i) (hz : i.zero = some z)
    (hsize : i.size = size) (hby : i.bytes = bytes) (hzs : z.cells.size = size) (hsz : 0 < size)
    (v : Value) (n : Nat) (xs : List Value) (hown : w.ownsRow base e size v n xs)
    (a : Addr) (m c : Nat) (news : List Value) (hl : news.length = m * size) (hnews : ∀ j u, news[j]? = some u → w.cell? (a.add j) = some u) (h1 : ∀ u ∈ news, u.oneCell' = true)
    (h63 : n + m ≤ maxLen) (hbytes : (n + m) * bytes ≤ 140737488355328) (hbase : base ≤ w.heap.size) (hm : 0 < m) :
    ∃ v' w', (Builtin.append_ #[t, t] ty #[v, .slice (some a) m c]).run P w = .ok v' w' ∧ w'.ownsRow base e size v' (n + m) (xs ++ news) ∧ w.grownBy w' v.ownBlock ∧
      (v'.ownBlock = v.ownBlock ∨ v'.ownBlock = some w.heap.size) := by
  obtain ⟨v', w', hr, h2, h3, h4⟩ := run_append_own (P := P) w base t ty e i z size bytes ht hi hz hsize hby hzs hsz v n xs hown a m c news hl hnews h1 h63 hbytes hbase
  refine ⟨v', w', hr, h2, h3, ?_⟩
  subst hsize
  subst hby
  have hs : n + m ≤ 9223372036854775807 := by simp only [maxLen] at h63; omega
  rcases hown.2 with ⟨rfl, rfl⟩ | ⟨g, cap, cur, rfl, hbg, hg, hnc, hcm, hcs, htake⟩
  · have hr2 := run_append_nil (P := P) w t ty e i z ht hi hz a m c news hl hnews hm (by omega) (by have hb := hbytes; simp only [Nat.zero_add] at hb; omega)
    rw [hr2] at hr
    cases hr
    exact .inr rfl
  · by_cases hroom : n + m ≤ cap
    · have hfit : n * i.size + news.length ≤ cur.size := by rw [hl, hcs, ← Nat.add_mul]; exact Nat.mul_le_mul_right _ hroom
      have hr2 := run_append_room (P := P) w t ty e i ht hi g n cap cur hg a m c news hl hnews h1 hroom hfit
      rw [hr2] at hr
      cases hr
      exact .inl rfl
    · have hr2 := run_append_grow (P := P) w t ty e i z ht hi hz ⟨g, 0, none⟩ n cap xs hown.1 (hown.cells (g := g) rfl) a m c news hl hnews (by omega) (by omega) (growslice_fits (by omega) hbytes)
      rw [hr2] at hr
      cases hr
      exact .inr rfl
end Go.Proofs.YtolhmibejhldkaaGreatDoor

namespace Go.Proofs.YtolhmibejhldkaaGreatDoor
open Go.RowKit
section
variable {P : Program} {ops : Array Oper} {Q : Exit → Act → World → Prop} {md : Region.Mode} {X : Nat → Prop} {l n : Nat}
theorem callsIn_round {f : FuncId} {args : Array Value} {w : World} {R : Ending → World → Prop} (h : Calls P f args w R) : CallsIn (Fence.wide.inRound l) n P f args w R :=
  (callsIn_wide (n := n)).2 h
theorem rowsIn_round {row : String} {args : Array Value} {w : World} {R : Value → World → Prop} (h : Rows P row args w R) : RowsIn (Fence.wide.inRound l) n P row args w R :=
  fun c cs _ => let ⟨v, w', r, s⟩ := h c cs; ⟨v, w', r, stepsIn_wide.2 s⟩
theorem operIn_round {o : Oper} {a : Act} {w : World} {K : Act → World → Prop} (hd : ∀ c, o.op ≠ .defer c) (h : o.wp P a w K Q) : o.wpIn (Fence.wide.inRound l) n P a w K Q := by
  refine ⟨fun f _ => trivial, ?_⟩
  rw [Fence.inRound_round, Oper.semAt_some l _ _ hd]
  unfold Oper.wp at h
  generalize (execOp a.eval o).run P w = r at *
  cases r with
  | ok x w' =>
    cases x with
    | enter f args => exact ⟨fun h => by simp [Fence.wide] at h, callsIn_round h⟩
    | row row args => exact ⟨fun h => by simp [Fence.wide] at h, rowsIn_round h⟩
    | round _ _ _ _ _ => exact (show False from h).elim
    | _ => exact h
  | halt x w' => cases x <;> exact h
def noDefer (ops : Array Oper) : Bool := ops.all fun o => match o.op with | .defer _ => false | _ => true
theorem noDefer_spec (h : noDefer ops = true) (j : Nat) (o : Oper) (ho : ops[j]? = some o) : ∀ c, o.op ≠ .defer c := by
  intro c heq
  have := Array.all_eq_true_iff_forall_mem.1 h o (Array.mem_of_getElem? ho)
  simp [heq] at this
theorem wpOp_round (hd : noDefer ops = true) (hL : ¬ LetsOut Q) {i : Nat} {a : Act} {w : World} {K K' : Act → World → Prop} (hK : ∀ a w, K a w → K' a w) (h : wpOp P ops Q i K a w) :
    wpOpIn (Fence.wide.inRound l) n P ops Q i K' a w := by
  unfold wpOp at h
  unfold wpOpIn
  split
  · rename_i ho; simp only [ho] at h; exact hK _ _ h
  · rename_i o ho
    simp only [ho] at h
    split
    · rename_i hw
      simp only [hw, if_true] at h
      rcases h with h | h
      · exact operIn_round (noDefer_spec hd i o ho) (Oper.wp_mono hK h)
      · exact (hL h.2).elim
    · rename_i hw
      simp only [hw] at h
      exact ⟨fun f _ => trivial, hK _ _ h⟩
theorem wpAny_round (hd : noDefer ops = true) (hL : ¬ LetsOut Q) : ∀ (fuel : Nat) (listed : Array Bool) (a : Act) (w : World), wpAny P md ops Q fuel listed a w → wpAnyIn (Fence.wide.inRound l) n P md ops Q fuel listed a w := by
  intro fuel
  induction fuel with
  | zero => exact fun _ _ _ h => h
  | succ fuel ih => exact fun listed a w h => ⟨h.1, fun i hi => wpOp_round hd hL (fun a w => ih _ a w) (h.2 i hi)⟩
theorem wp_region_seqIn {id : Nat} {a : Act} {w : World} (X : Nat → Prop) (ns : Array Note) (loads : Nat) (pl : List (Nat × Nat)) (hm : P.follows .mixedOrders = true)
    (hn : notesOk .any ops ns = true) (hsel : Region.noSelect ops = true) (hlen : pl.length = ops.size) (hk : (pl.all fun x => (ns[x.1]?.map (·.kind)).getD x.2 == x.2) = true) (hp : planOk ns loads (pl.map (·.1)) 0 = true)
    (hQ : ∀ c (a : Act) d v w, Q (.panic c) (a.put d v) w → Q (.panic c) a w) (hd : noDefer ops = true) (hL : ¬ LetsOut Q) (h : wpSeq P ops Q X pl a w.drew) : (Code.region id ops true).wpIn (Fence.wide.inRound l) n P Q a w := by
  refine wpIn_region_any hm (wpAny_round hd hL _ _ _ _ ?_)
  rw [← hlen]
  refine wpAny_of_F hn pl.length _ 0 a _ (fun j hj => ?_) (wpAnyF_of_seq hn hsel hQ pl 0 a w.drew (fun j n _ h0 => by simp at h0) (fun x hx n hxn => ?_) hp h)
  · rw [Array.getElem?_replicate]; simp [hlen, hj]
  · have := List.all_eq_true.1 hk x hx
    simpa [hxn] using this
end
theorem Chg.drewAlloc (X : Nat → Prop) (w : World) (o : Obj) : Chg X w.drew (w.alloc o).drew := ⟨rfl, rfl, rfl, by simp, fun k hk _ => Below.heap_alloc w o k (by simpa using hk)⟩
theorem grown_undrew {w w' : World} {r : Option Nat} (h : w.drew.grownBy w' r) : w.grownBy w' r := ⟨h.os, h.tape, h.output, h.size, h.block⟩
end Go.Proofs.YtolhmibejhldkaaGreatDoor

namespace Go.Proofs.YtolhmibejhldkaaGreatDoor
open Go.RowKit Go.Proofs
attribute [local go_sem] Oper.semAt_some wide_depth round_depth wide_fn round_fn
def findZ (s : Nat → EntS) (key : Int) (l : List Nat) : Int := match l.find? (fun n => (s n).key == key) with | none => -1 | some n => (n : Int)
theorem findZ_hit (s : Nat → EntS) (key : Int) (l : List Nat) (i : Nat) (hi : i < l.length) (h : (s l[i]).key = key) (hb : ∀ j (hj : j < i), (s (l[j]'(by omega))).key ≠ key) : findZ s key l = (l[i] : Int) := by
  unfold findZ
  have : l.find? (fun n => (s n).key == key) = some l[i] := by
    rw [List.find?_eq_some_iff_getElem]
    exact ⟨by simpa using h, i, hi, rfl, fun j hj => by simpa using hb j hj⟩
  rw [this]
theorem findZ_miss (s : Nat → EntS) (key : Int) (l : List Nat) (h : ∀ j (hj : j < l.length), (s l[j]).key ≠ key) : findZ s key l = -1 := by
  unfold findZ
  have : l.find? (fun n => (s n).key == key) = none := by
    rw [List.find?_eq_none]
    intro x hx
    obtain ⟨j, hj, rfl⟩ := List.getElem_of_mem hx
    simpa using h j hj
  rw [this]
set_option maxRecDepth 100000 in
set_option maxHeartbeats 4000000 in
theorem gfind_any (G o m h : Nat) (s : Nat → EntS) (key : Int) (hm : m < 18446744073709551616) (hh : h < 18446744073709551616) (w : World) (hg : GW w G o m s) (hT : Tab64 w) :
    Calls Tryz.prog 96 #[.agg #[.pointer (some ⟨G, o, none⟩)], .int .u64 key, .int .u64 (h : Int)] w fun e w' => e = .returned (.int .i64 (findZ s key (lanesL (equalB m (h % 128))))) ∧ Below w.heap.size w w' := by
  have HG := Lib.hid hg
  have HT := Lib.hid hT
  have hl := hg.lt
  have hl1 : G < w.heap.size + 1 := by omega
  have hl2 : G < w.heap.size + 1 + 1 := by omega
  have c0 := hg.word
  have H2 := Lib.hid (h2_any h hh)
  have hq := Nat.mod_lt h (show 0 < 128 by decide)
  have MT := Lib.hid (cmatch_any m (h % 128) hm (by omega))
  have hmt : matchN m (h % 128) = maskB (equalB m (h % 128)) := by unfold matchN; rw [if_pos hq]
  rw [hmt] at MT
  have HQ := Lib.hid (maskB_lt (equalB m (h % 128)))
  have HF := Lib.hid (maskB_high (equalB m (h % 128)))
  obtain ⟨f, hf⟩ : ∃ f, f = equalB m (h % 128) := ⟨_, rfl⟩
  rw [← hf] at MT HQ HF ⊢
  generalize hQ : maskB f = Q at *
  generalize h % 128 = q at *
  clear hmt
  refine (callsIn_wide (n := 0)).1 ?_
  refine callsIn_of_wp_marks Tryz.func96 rfl trivial ?_
  simp only [Tryz.ntmps96, List.size_toArray, List.length_cons, List.length_nil, Nat.reduceAdd, Nat.reduceSub, Array.replicate_succ, Array.replicate_zero, List.push_toArray, List.append_toArray, List.nil_append, List.cons_append]
  refine wpIn_wide.2 ?_
  clear hg hT
  have HFE := Lib.hid hf
  have HQE := Lib.hid hQ
  clear hf hQ
  go_wp2
  refine wp_region_noPanic ?_
  refine wp_region_seq (fun _ => False) #[⟨0, 0, 256, 8, 0⟩, ⟨1, 1, 512, 256, 1⟩, ⟨2, 3, 1024, 512, 0⟩, ⟨4, 7, 2048, 1024, 0⟩, ⟨8, 15, 4096, 2048, 1⟩, ⟨0, 0, 8192, 4, 0⟩, ⟨32, 32, 16384, 8192, 2⟩, ⟨80, 127, 32768, 20480, 3⟩, ⟨128, 255, 65536, 32768, 3⟩] 18 [(0, 0), (1, 1), (2, 0), (3, 0), (4, 1), (5, 0), (6, 2), (7, 3), (8, 3)] (by kernel_rfl) (by kernel_rfl) (by kernel_rfl) (by kernel_rfl) (by kernel_rfl) (by kernel_rfl) (fun c a d v w h => by cases d <;> exact h) ?_
  refine zqC ?_
  refine zq1 Tryz.underlying94 ?_
  try refine zqP ?_; refine zqC ?_; refine zqC ?_
  refine zq1 Tryz.underlying144 ?_
  try refine zqP ?_; refine zqC ?_
  refine zqD fun K hK => ?_; go_wp2_with (first | (go_at_call 145; refine (H2.out _).mono ?_; rintro e w' ⟨rfl, rfl⟩) | (go_at_call 144; refine (MT.out _).mono ?_; rintro e w' ⟨rfl, rfl⟩) | (go_at_call 143; refine (lanes_any _ _).mono ?_; rintro e w' ⟨rfl, rfl⟩)); refine hkA hK (h := ?_); clear hK K
  try refine zqP ?_
  refine zqE fun K hK => ?_; go_wp2_with (first | (go_at_call 145; refine (H2.out _).mono ?_; rintro e w' ⟨rfl, rfl⟩) | (go_at_call 144; refine (MT.out _).mono ?_; rintro e w' ⟨rfl, rfl⟩) | (go_at_call 143; refine (lanes_any _ _).mono ?_; rintro e w' ⟨rfl, rfl⟩)); refine hK.out _ _ ?_; clear hK K
  try refine zqP ?_
  refine zqE fun K hK => ?_; go_wp2_with (first | (go_at_call 145; refine (H2.out _).mono ?_; rintro e w' ⟨rfl, rfl⟩) | (go_at_call 144; refine (MT.out _).mono ?_; rintro e w' ⟨rfl, rfl⟩) | (go_at_call 143; refine (lanes_any _ _).mono ?_; rintro e w' ⟨rfl, rfl⟩)); refine hK.out _ _ ?_; clear hK K
  try refine zqP ?_
  refine seq_nil ?_
  refine NoPanic.normal ?_
  go_wp2
  refine wp_at (fun wL hwL => ?_)
  have q0 : Blk wL w.heap.size 96 #[.pointer (some ⟨G, o, none⟩)] := by rw [hwL]; exact (((Blk.new w _ _).alloc _).alloc _).alloc _
  have q1 : Blk wL (w.heap.size + 1) 38 #[.int .u64 key] := by rw [hwL]; exact ((Blk.new_at (by simp)).alloc _).alloc _
  have q2 : Blk wL (w.heap.size + 1 + 1) 3 #[.int .i64 0] := by rw [hwL]; exact (Blk.new_at (by simp)).alloc _
  have q3 : Blk wL (w.heap.size + 1 + 1 + 1) 38 #[.int .u64 (Q : Int)] := by rw [hwL]; exact Blk.new_at (by simp)
  have qB : Below w.heap.size w wL := by rw [hwL]; go_grown
  have qz : wL.heap.size = w.heap.size + 1 + 1 + 1 + 1 := by rw [hwL]; simp
  have hgv := lanes_gives Q HQ.out (w.heap.size + 1 + 1 + 1) wL (q3.cell 0) (HT.out.below qB)
  have hgl : 16 < w.heap.size := World.block_lt_of_cell? _ _ (HT.out 0 (by decide))
  have hL : lanesL (highB Q) = lanesL f := lanesL_congr HF.out
  have hLa : ∀ i, laneAt (highB Q) i = laneAt f i := fun i => by unfold laneAt; rw [hL]
  simp only [hL, hLa] at hgv
  have HGV := Lib.hid hgv
  clear hwL hgv hL hLa
  refine (wpIn_wide (n := 0)).1 ?_
  refine wp_rangeAt rfl enters_lanes HGV.out (fun b hb => by rcases hb with rfl | rfl <;> omega) (fun _ => rfl)
    (fun i W => (Blk W w.heap.size 96 #[.pointer (some ⟨G, o, none⟩)] ∧ Blk W (w.heap.size + 1) 38 #[.int .u64 key] ∧ Blk W (w.heap.size + 1 + 1) 3 #[.int .i64 0] ∧ Blk W (w.heap.size + 1 + 1 + 1) 38 #[.int .u64 (Q : Int)] ∧ (∀ j, j < i → (s (laneAt f j)).key ≠ key)) ∧ Below w.heap.size w W)
    (fun c W => (c = .ret ∧ Blk W (w.heap.size + 1 + 1) 3 #[.int .i64 (findZ s key (lanesL f))]) ∧ Below w.heap.size w W)
    (OwnFrom.and (Own.from (own_and (blk_own _ _ _) (own_and (blk_own _ _ _) (own_and (blk_own _ _ _) (own_and (blk_own _ _ _) (own_pure _))))) _) (ownFrom_below (Nat.le_refl _) (by omega)))
    (OwnFrom.and (Own.from (own_and (own_pure _) (blk_own _ _ _)) _) (ownFrom_below (Nat.le_refl _) (by omega)))
    ⟨⟨q0, q1, q2, q3, fun j hj => by omega⟩, qB⟩
    (fun T i a _ => a = { tmps := (T.setIfInBounds 17 (.int .i64 ((laneAt f i : Nat) : Int))).setIfInBounds 7 (.int .i64 ((laneAt f i : Nat) : Int)), defers := [] })
    ?assign (fun _ _ _ _ hs _ _ => hs) ?body ?done ?stop
  case assign =>
    intro l i W K hi hlt _ hK
    gi_wp2
    exact hK _ _ (KeepsFrom.refl _ _) (Same.refl _ _) hi rfl
  case body =>
    rintro l i a₁ W ⟨⟨p0, p1, p2, p3, hne⟩, hB⟩ hlt hsz rfl
    simp only [List.setIfInBounds_toArray, List.set_cons_succ, List.set_cons_zero]
    have hla : laneAt f i = (lanesL f)[i] := by unfold laneAt; rw [List.getD_eq_getElem?_getD, List.getElem?_eq_getElem hlt]; rfl
    have hx8 : laneAt f i < 8 := by rw [hla]; exact (lanesL_mem.1 (List.getElem_mem hlt)).1
    obtain ⟨s0, s1, s2⟩ := (HG.out.below hB hl).slot (laneAt f i) hx8
    have e0 := p0.boxed.cell
    have e1 := p1.boxed.cell
    have e2 := p2.boxed.cell
    have f2 := p2.boxed.frozen
    have hx9 : ((laneAt f i : Nat) : Int) < 8 := by omega
    have HLA := Lib.hid hla
    have HNE := Lib.hid hne
    clear hla hne
    by_cases hk : (s (laneAt f i)).key = key
    · have hkb : ((s (laneAt f i)).key == key) = true := by simpa using hk
      have HK := Lib.hid hk
      clear hk
      gi_wp2
      refine wp_region_seqIn (fun _ => False) #[⟨0, 0, 262144, 8, 0⟩, ⟨1, 1, 524288, 262144, 1⟩, ⟨0, 0, 1048576, 128, 0⟩, ⟨2, 3, 2097152, 524288, 0⟩, ⟨8, 11, 4194304, 2097152, 0⟩, ⟨20, 31, 8388608, 5242880, 0⟩, ⟨32, 63, 16777216, 8388608, 0⟩, ⟨64, 127, 33554432, 16777216, 1⟩, ⟨0, 0, 67108864, 16, 1⟩, ⟨384, 511, 134217728, 100663296, 0⟩] 386 [(0, 0), (1, 1), (2, 0), (3, 0), (4, 0), (5, 0), (6, 0), (7, 1), (8, 1), (9, 0)] (by kernel_rfl) (by kernel_rfl) (by kernel_rfl) (by kernel_rfl) (by kernel_rfl) (by kernel_rfl) (fun c a d v w h => by cases d <;> exact h) (by kernel_rfl) (by rintro ⟨a, w, h⟩; exact h) ?_
      refine zqC ?_
      refine zq1 Tryz.underlying94 ?_
      try refine zqP ?_; refine zqC ?_; refine zqC ?_; refine zqC ?_; refine zqC ?_; refine zqC ?_
      refine zq1 Tryz.underlying38 ?_
      try refine zqP ?_
      refine zq1 Tryz.underlying38 ?_
      try refine zqP ?_; refine zqC ?_
      refine seq_nil ?_
      gi_wp2
      refine ⟨((KeepsOthers.drew W).trans (KeepsOthers.setCell _ _ _)).from _, ⟨rfl, ?_⟩, hB.trans (Below.undrew ((Below.refl _ _).setCell (by simp <;> omega) _))⟩
      rw [findZ_hit s key (lanesL f) i hlt (by rw [← HLA.out]; exact HK.out) (fun j hj => by have := HNE.out j hj; rwa [show laneAt f j = (lanesL f)[j]'(by omega) by unfold laneAt; rw [List.getD_eq_getElem?_getD, List.getElem?_eq_getElem (by omega)]; rfl] at this), ← HLA.out]
      exact p2.drew.set 0 _
    · have hkb : ((s (laneAt f i)).key == key) = false := by simpa using hk
      have HK := Lib.hid hk
      clear hk
      gi_wp2
      refine wp_region_seqIn (fun _ => False) #[⟨0, 0, 262144, 8, 0⟩, ⟨1, 1, 524288, 262144, 1⟩, ⟨0, 0, 1048576, 128, 0⟩, ⟨2, 3, 2097152, 524288, 0⟩, ⟨8, 11, 4194304, 2097152, 0⟩, ⟨20, 31, 8388608, 5242880, 0⟩, ⟨32, 63, 16777216, 8388608, 0⟩, ⟨64, 127, 33554432, 16777216, 1⟩, ⟨0, 0, 67108864, 16, 1⟩, ⟨384, 511, 134217728, 100663296, 0⟩] 386 [(0, 0), (1, 1), (2, 0), (3, 0), (4, 0), (5, 0), (6, 0), (7, 1), (8, 1), (9, 0)] (by kernel_rfl) (by kernel_rfl) (by kernel_rfl) (by kernel_rfl) (by kernel_rfl) (by kernel_rfl) (fun c a d v w h => by cases d <;> exact h) (by kernel_rfl) (by rintro ⟨a, w, h⟩; exact h) ?_
      refine zqC ?_
      refine zq1 Tryz.underlying94 ?_
      try refine zqP ?_; refine zqC ?_; refine zqC ?_; refine zqC ?_; refine zqC ?_; refine zqC ?_
      refine zq1 Tryz.underlying38 ?_
      try refine zqP ?_
      refine zq1 Tryz.underlying38 ?_
      try refine zqP ?_; refine zqC ?_
      refine seq_nil ?_
      gi_wp2
      refine ⟨(KeepsOthers.drew W).from _, fun _ _ => rfl, ⟨p0, p1, p2, p3, fun j hj => ?_⟩, hB.drew⟩
      by_cases e : j = i
      · subst e; exact HK.out
      · exact HNE.out j (by omega)
  case done =>
    rintro D W hD ⟨⟨p0, p1, p2, p3, hne⟩, hB⟩ hK
    have e2 := p2.boxed.cell
    have f2 := p2.boxed.frozen
    have hkD := Lib.hid hK
    have hF : findZ s key (lanesL f) = -1 := findZ_miss s key _ (fun j hj => by have := hne j hj; rwa [show laneAt f j = (lanesL f)[j] by unfold laneAt; rw [List.getD_eq_getElem?_getD, List.getElem?_eq_getElem hj]; rfl] at this)
    have HFZ := Lib.hid hF
    clear hK hne hF
    go_wp2
    refine end_mark (v := .int .i64 (-1)) ((KeepsOthers.setCell _ _ _).same D _ hkD.out rfl) (results_cell1 rfl rfl (Blk.putObj (Blk.set p2 0 (.int .i64 (-1))) (by omega) _).boxed.cell Tryz.isAgg3) ⟨by rw [HFZ.out], ?_⟩ _ (.inl rfl)
    exact (hB.trans ((Below.refl _ W).setCell (by simp <;> omega) _)).trans (below_putObj _ (by omega) ((KeepsOthers.setCell _ _ _).same D _ hkD.out rfl))
  case stop =>
    rintro D c W hD ⟨⟨rfl, p2⟩, hB⟩ hK
    have hkD := Lib.hid hK
    clear hK
    gi_wp2
    refine end_mark (v := .int .i64 (findZ s key (lanesL f))) hkD.out (results_cell1 rfl rfl (Blk.putObj p2 (by omega) _).boxed.cell Tryz.isAgg3) ⟨rfl, ?_⟩ _ (.inl rfl)
    exact hB.trans (below_putObj _ (by omega) hkD.out)
end Go.Proofs.YtolhmibejhldkaaGreatDoor

namespace Go.Proofs.YtolhmibejhldkaaGreatDoor
open Go.RowKit Go.Proofs
def scanZ (p : Nat → Bool) : Int := match (List.range 8).find? p with | none => -1 | some n => (n : Int)
theorem scan_hit {p : Nat → Bool} {k : Nat} (hk : k < 8) (h : p k = true) (hb : ∀ j, j < k → p j = false) : scanZ p = (k : Int) := by
  have : (List.range 8).find? p = some k := by
    rw [List.find?_eq_some_iff_getElem]
    exact ⟨h, k, by simpa using hk, by simp, fun j hj => by simpa using hb j hj⟩
  unfold scanZ; rw [this]
theorem scan_miss {p : Nat → Bool} (h : ∀ j, j < 8 → p j = false) : scanZ p = -1 := by
  have : (List.range 8).find? p = none := by
    rw [List.find?_eq_none]
    intro x hx
    simpa using h x (by simpa using hx)
  unfold scanZ; rw [this]
theorem scan_cases (p : Nat → Bool) : (scanZ p = -1 ∧ ∀ j, j < 8 → p j = false) ∨ ∃ k : Nat, scanZ p = (k : Int) ∧ k < 8 ∧ p k = true ∧ ∀ j, j < k → p j = false := by
  cases h : (List.range 8).find? p with
  | none =>
    rw [List.find?_eq_none] at h
    have : ∀ j, j < 8 → p j = false := fun j hj => by simpa using h j (by simpa using hj)
    exact .inl ⟨scan_miss this, this⟩
  | some k =>
    rw [List.find?_eq_some_iff_getElem] at h
    obtain ⟨h1, i, hi, e, h2⟩ := h
    simp at e hi
    subst e
    have hb : ∀ j, j < i → p j = false := fun j hj => by simpa using h2 j hj
    exact .inr ⟨i, scan_hit hi h1 hb, hi, h1, hb⟩
theorem find_scan (s : Nat → EntS) (key : Int) (f : Nat → Bool) : findZ s key (lanesL f) = scanZ (fun i => f i && (s i).key == key) := by
  unfold findZ scanZ lanesL
  rw [List.find?_filter]
  have e : (fun a => decide (f a = true ∧ ((s a).key == key) = true)) = (fun i => f i && (s i).key == key) := by
    funext a; rw [Bool.eq_iff_iff]; simp
  try rw [e]
  all_goals (generalize List.find? (fun i => f i && (s i).key == key) (List.range 8) = r; cases r <;> rfl)
theorem free_scan (m : Nat) : freeZ m = scanZ (fun i => !fullB m i) := by
  unfold freeZ
  have e : ∀ i, (!fullB m i) = highB m i := fun i => by unfold fullB; simp
  simp only [e]
  cases h : firstL (highB m) with
  | none => rw [scan_miss (firstL_none h)]
  | some j =>
    obtain ⟨h1, h2, h3⟩ := firstL_some h
    rw [scan_hit h1 h2 h3]
def GGood (m : Nat) (s : Nat → EntS) : Prop :=
  m < 18446744073709551616 ∧ ∀ i, i < 8 → ctrlB (ln m i) = true ∧ ∃ h : Nat, (s i).hash = (h : Int) ∧ h < 18446744073709551616 ∧ (ln m i < 128 → ln m i = h % 128)
theorem full_iff (m i : Nat) : fullB m i = true ↔ ln m i < 128 := by unfold fullB highB; simp
theorem full_not (m i : Nat) : fullB m i = false ↔ ¬ ln m i < 128 := by rw [← full_iff]; simp
theorem GGood.new : GGood (rep 128) (fun _ => EntS.zero) :=
  ⟨by decide, fun i hi => by rw [ln_rep 128 i (by decide) hi]; exact ⟨rfl, 0, rfl, by decide, fun h => by omega⟩⟩
theorem GGood.put {m : Nat} {s : Nat → EntS} (hg : GGood m s) (k h : Nat) (x0 x1 : Int) (hh : h < 18446744073709551616) : GGood (setL m k (h % 128)) (putS s k ⟨x0, x1, h⟩) :=
  ⟨setL_lt _ _ _ (by omega), fun i hi => by
    rw [ln_setL m k _ i (by omega) hi]
    unfold putS
    by_cases e : i = k
    · rw [if_pos e, if_pos e]; exact ⟨ctrlB_low _ (by omega), h, rfl, hh, fun _ => rfl⟩
    · rw [if_neg e, if_neg e]; exact hg.2 i hi⟩
theorem GGood.setv {m : Nat} {s : Nat → EntS} (hg : GGood m s) (k : Nat) (v : Int) : GGood m (putS s k { s k with val := v }) :=
  ⟨hg.1, fun i hi => by
    unfold putS
    by_cases e : i = k
    · rw [if_pos e]; subst e; exact hg.2 i hi
    · rw [if_neg e]; exact hg.2 i hi⟩
theorem goneN_lt (m : Nat) : goneN m < 256 := by unfold goneN; split <;> decide
theorem goneN_high (m : Nat) : ¬ goneN m < 128 := by unfold goneN; split <;> decide
theorem goneN_ctrl (m : Nat) : ctrlB (goneN m) = true := by unfold goneN; split <;> decide
theorem GGood.erase {m : Nat} {s : Nat → EntS} (hg : GGood m s) (k : Nat) : GGood (setL m k (goneN m)) (putS s k EntS.zero) :=
  ⟨setL_lt _ _ _ (goneN_lt m), fun i hi => by
    rw [ln_setL m k _ i (goneN_lt m) hi]
    unfold putS
    by_cases e : i = k
    · rw [if_pos e, if_pos e]; exact ⟨goneN_ctrl m, 0, rfl, by decide, fun h => (goneN_high m h).elim⟩
    · rw [if_neg e, if_neg e]; exact hg.2 i hi⟩
def countK (m k : Nat) : Nat := ((List.range 8).filter (fun i => decide (kindN (ln m i) = k))).length
theorem count_full (m : Nat) : (lanesL (fullB m)).length = countK m 3 := by
  unfold countK lanesL
  congr 1
  exact List.filter_congr fun i _ => (kind_full m i).symm
theorem count_deleted (m : Nat) : (lanesL (equalB m 254)).length = countK m 2 := by
  unfold countK lanesL
  congr 1
  exact List.filter_congr fun i _ => (kind_deleted m i).symm
theorem count_empty (m : Nat) : (lanesL (equalB m 128)).length = countK m 1 := by
  unfold countK lanesL
  congr 1
  exact List.filter_congr fun i _ => (kind_empty m i).symm
theorem open_count (m : Nat) : openB m = decide (0 < countK m 1) := by
  rw [← count_empty]
  unfold openB lanesL
  rw [Bool.eq_iff_iff, List.any_eq_true, decide_eq_true_iff, List.length_pos_iff_exists_mem]
  constructor
  · rintro ⟨i, h1, h2⟩; exact ⟨i, by simp only [List.mem_filter]; exact ⟨h1, h2⟩⟩
  · rintro ⟨i, h⟩; simp only [List.mem_filter] at h; exact ⟨i, h.1, h.2⟩
theorem countK_le (m k : Nat) : countK m k ≤ 8 := by
  have := List.length_filter_le (fun i => decide (kindN (ln m i) = k)) (List.range 8)
  simpa [countK] using this
def entsL (m : Nat) (s : Nat → EntS) : List EntS := (lanesL (fullB m)).map s
end Go.Proofs.YtolhmibejhldkaaGreatDoor

namespace Go.Proofs.YtolhmibejhldkaaGreatDoor
open Go.RowKit Go.Proofs
def dF (m : Nat) (s : Nat → EntS) (j : Nat) : Value :=
  if j % 4 = 0 then .int .i64 ((kindN (ln m (j / 4)) : Nat) : Int) else if j % 4 = 1 then .int .u64 (s (j / 4)).key else if j % 4 = 2 then .int .u64 (s (j / 4)).val else .int .u64 (s (j / 4)).hash
def DW (w : World) (R m : Nat) (s : Nat → EntS) : Prop := Blk w R 190 (arrV 32 (dF m s))
theorem dF_0 (m : Nat) (s : Nat → EntS) (i : Nat) : dF m s (i * 4) = .int .i64 ((kindN (ln m i) : Nat) : Int) := by unfold dF; rw [if_pos (by omega), show i * 4 / 4 = i by omega]
theorem dF_1 (m : Nat) (s : Nat → EntS) (i : Nat) : dF m s (i * 4 + 1) = .int .u64 (s i).key := by unfold dF; rw [if_neg (by omega), if_pos (by omega), show (i * 4 + 1) / 4 = i by omega]
theorem dF_2 (m : Nat) (s : Nat → EntS) (i : Nat) : dF m s (i * 4 + 2) = .int .u64 (s i).val := by unfold dF; rw [if_neg (by omega), if_neg (by omega), if_pos (by omega), show (i * 4 + 2) / 4 = i by omega]
theorem dF_3 (m : Nat) (s : Nat → EntS) (i : Nat) : dF m s (i * 4 + 3) = .int .u64 (s i).hash := by unfold dF; rw [if_neg (by omega), if_neg (by omega), if_neg (by omega), show (i * 4 + 3) / 4 = i by omega]
theorem DW.lt {w : World} {R m : Nat} {s : Nat → EntS} (h : DW w R m s) : R < w.heap.size := Blk.lt h
theorem DW.below {n : Nat} {w w' : World} {R m : Nat} {s : Nat → EntS} (h : DW w R m s) (hb : Below n w w') (hR : R < n) : DW w' R m s := Blk.below h hb hR
theorem DW.chg {X : Nat → Prop} {w w' : World} {R m : Nat} {s : Nat → EntS} (h : DW w R m s) (hb : Chg X w w') (hR : ¬ X R) : DW w' R m s := Blk.chg h hb hR
theorem DW.alloc {w : World} {R m : Nat} {s : Nat → EntS} (h : DW w R m s) (b : Obj) : DW (w.alloc b) R m s := Blk.alloc h b
theorem DW.drew {w : World} {R m : Nat} {s : Nat → EntS} (h : DW w R m s) : DW w.drew R m s := h
theorem DW.cells {w : World} {R m : Nat} {s : Nat → EntS} (h : DW w R m s) (i : Nat) (hi : i < 8) :
    w.cell? ⟨R, i * 4, none⟩ = some (.int .i64 ((kindN (ln m i) : Nat) : Int)) ∧ w.cell? ⟨R, i * 4 + 1, none⟩ = some (.int .u64 (s i).key) ∧ w.cell? ⟨R, i * 4 + 2, none⟩ = some (.int .u64 (s i).val) ∧ w.cell? ⟨R, i * 4 + 3, none⟩ = some (.int .u64 (s i).hash) :=
  ⟨(Blk.cell h _).trans ((arrV_get _ _ _ (by omega)).trans (by rw [dF_0])), (Blk.cell h _).trans ((arrV_get _ _ _ (by omega)).trans (by rw [dF_1])), (Blk.cell h _).trans ((arrV_get _ _ _ (by omega)).trans (by rw [dF_2])), (Blk.cell h _).trans ((arrV_get _ _ _ (by omega)).trans (by rw [dF_3]))⟩
theorem DW.frozen {w : World} {R m : Nat} {s : Nat → EntS} (h : DW w R m s) (j : Nat) : w.frozen? ⟨R, j, none⟩ = false := Blk.frozen h j
theorem DW.setVal {w : World} {R m : Nat} {s : Nat → EntS} (h : DW w R m s) (k : Nat) (hk : k < 8) (v : Int) :
    DW (w.setCell ⟨R, k * 4 + 2, none⟩ (.int .u64 v)) R m (putS s k { s k with val := v }) := by
  have := Blk.set h (k * 4 + 2) (.int .u64 v)
  rw [arrV_set _ _ _ _ (by omega)] at this
  unfold DW
  rw [arrV_congr (F' := dF m (putS s k { s k with val := v })) (fun j hj => by
    by_cases e2 : j = k * 4 + 2
    · subst e2; rw [if_pos rfl, dF_2, putS_same]
    · rw [if_neg e2]
      by_cases e1 : j = k * 4 + 1
      · subst e1; rw [dF_1, dF_1, putS_same]
      · by_cases e3 : j = k * 4 + 3
        · subst e3; rw [dF_3, dF_3, putS_same]
        · by_cases e0 : j = k * 4
          · subst e0; rw [dF_0, dF_0]
          · unfold dF putS
            rw [if_neg (show ¬ j / 4 = k by omega)])] at this
  exact this
end Go.Proofs.YtolhmibejhldkaaGreatDoor

namespace Go.Proofs.YtolhmibejhldkaaGreatDoor
open Go.RowKit Go.Proofs
def e3 (e : EntS) : List Value := [.int .u64 e.key, .int .u64 e.val, .int .u64 e.hash]
def entV (l : List EntS) : List Value := l.flatMap e3
theorem entV_append (l k : List EntS) : entV (l ++ k) = entV l ++ entV k := by simp [entV]
theorem entV_length (l : List EntS) : (entV l).length = l.length * 3 := by
  induction l with
  | nil => rfl
  | cons a l ih => rw [show entV (a :: l) = e3 a ++ entV l from rfl, List.length_append, ih]; simp [e3]; omega
theorem entV_at (l : List EntS) (i : Nat) (h : i < l.length) (j : Nat) (hj : j < 3) : (entV l)[i * 3 + j]? = (e3 l[i])[j]? := by
  induction l generalizing i with
  | nil => simp at h
  | cons a l ih =>
    rw [show entV (a :: l) = e3 a ++ entV l from rfl]
    have h3 : (e3 a).length = 3 := rfl
    cases i with
    | zero => rw [List.getElem?_append_left (by omega)]; simp
    | succ i =>
      rw [List.getElem?_append_right (by omega), h3, show (i + 1) * 3 + j - 3 = i * 3 + j by omega, ih i (by simpa using h)]
      rfl
def ReadsEnts (w : World) (v : Value) (l : List EntS) : Prop :=
  ∃ a cap, v = .slice a l.length cap ∧ (l ≠ [] → ∃ b off, a = some ⟨b, off, none⟩ ∧ b < w.heap.size ∧ ∀ i (h : i < l.length), w.cell? ⟨b, off + i * 3, none⟩ = some (.int .u64 l[i].key) ∧ w.cell? ⟨b, off + i * 3 + 1, none⟩ = some (.int .u64 l[i].val) ∧ w.cell? ⟨b, off + i * 3 + 2, none⟩ = some (.int .u64 l[i].hash))
theorem ReadsEnts.later {w w' : World} {v : Value} {l : List EntS} (h : ReadsEnts w v l) (hb : Below w.heap.size w w') : ReadsEnts w' v l := by
  obtain ⟨a, cap, rfl, hx⟩ := h
  refine ⟨a, cap, rfl, fun hne => ?_⟩
  obtain ⟨b, off, rfl, hlt, hc⟩ := hx hne
  exact ⟨b, off, rfl, Nat.lt_of_lt_of_le hlt hb.size, fun i hi => ⟨(hb.cell (p := ⟨b, _, none⟩) hlt).trans (hc i hi).1, (hb.cell (p := ⟨b, _, none⟩) hlt).trans (hc i hi).2.1, (hb.cell (p := ⟨b, _, none⟩) hlt).trans (hc i hi).2.2⟩⟩
theorem cell3_new (w : World) (x y z : Value) (t : TypeId) : ∀ j u, [x, y, z][j]? = some u → (w.alloc (.cells #[x, y, z] t)).cell? ((⟨w.heap.size, 0, none⟩ : Addr).add j) = some u := by
  intro j u hj
  have h6 : (⟨w.heap.size, 0, none⟩ : Addr).add j = ⟨w.heap.size, j, none⟩ := by
    simp only [Addr.add]; split
    · rename_i e; rw [e]
    · simp
  rw [h6, (Blk.new w t _).cell]
  simpa using hj
theorem own_ne {W : World} {n C : Nat} {e : TypeId} {size : Nat} {v : Value} {k : Nat} {xs : List Value} (h : W.ownsRow n e size v k xs) (hC : C < n) : some C ≠ v.ownBlock := by
  rcases h.2 with ⟨rfl, _⟩ | ⟨g, cap, cur, rfl, hb, _⟩
  · simp [Value.ownBlock]
  · simp only [Value.ownBlock]; intro e'; cases e'; omega
theorem wp_append_own2 {P : Program} {w : World} {o : Oper} {a : Act} {K : Act → World → Prop} {Q : Exit → Act → World → Prop} (s x : Operand) (t : TypeId)
    (ho : o.op = .call { callee := .builtin .append, args := #[s, x], argTypes := #[t, t] })
    (base : Nat) (e : TypeId) (i : TypeInfo) (z : Value) (size bytes : Nat) (ht : P.underlying t = some (.slice e)) (hi : P.info? e = some i) (hz : i.zero = some z)
    (hsize : i.size = size) (hby : i.bytes = bytes) (hzs : z.cells.size = size) (hsz : 0 < size)
    (v : Value) (n : Nat) (xs : List Value) (hs : a.eval s = v) (hown : w.ownsRow base e size v n xs)
    (ad : Addr) (m c : Nat) (news : List Value) (hx : a.eval x = .slice (some ad) m c) (hl : news.length = m * size) (hnews : ∀ j u, news[j]? = some u → w.cell? (ad.add j) = some u) (h1 : ∀ u ∈ news, u.oneCell' = true)
    (h63 : n + m ≤ maxLen) (hbytes : (n + m) * bytes ≤ 140737488355328) (hbase : base ≤ w.heap.size) (hm : 0 < m)
    (h : ∀ v' w', w'.ownsRow base e size v' (n + m) (xs ++ news) → w.grownBy w' v.ownBlock → (v'.ownBlock = v.ownBlock ∨ v'.ownBlock = some w.heap.size) → K (a.put o.dst v') w') : o.wp P a w K Q := by
  obtain ⟨v', w', hr, r1, r2, r3⟩ := run_append_own2 (P := P) w base t o.type e i z size bytes ht hi hz hsize hby hzs hsz v n xs hown ad m c news hl hnews h1 h63 hbytes hbase hm
  unfold Oper.wp execOp
  simp only [ho, resolve, invoke, builtin, Sem.run_bind, Sem.run_pure, Result.andThen_ok, List.map_toArray, List.map_cons, List.map_nil, hs, hx, hr]
  exact h v' w' r1 r2 r3
theorem appended3 {W w1 : World} {n₀ n₁ B : Nat} {t e : TypeId} {size : Nat} {v v' : Value} {k m : Nat} {xs ys : List Value} {tmp : Obj}
    (hv : Boxed W B t v) (hte : t ≠ e) (hrow : W.ownsRow n₁ e size v k xs) (h01 : n₀ ≤ n₁) (hn₀ : n₀ ≤ W.heap.size) (hB : n₀ ≤ B)
    (hown' : w1.ownsRow n₁ e size v' m ys) (hgrow : (W.alloc tmp).grownBy w1 v.ownBlock) :
    Boxed w1 B t v ∧ Boxed (w1.setCell ⟨B, 0, none⟩ v') B t v' ∧ (w1.setCell ⟨B, 0, none⟩ v').ownsRow n₁ e size v' m ys ∧ KeepsOthers W (w1.setCell ⟨B, 0, none⟩ v') ∧ Below n₀ W (w1.setCell ⟨B, 0, none⟩ v') := by
  obtain ⟨h1, h2, -, h4, h5⟩ := hv.appended hte (ownsRow_base hrow h01) hn₀ hB (ownsRow_base hown' h01) hgrow
  exact ⟨h1, h2, hown'.kept (grownBy_setCell' w1 B v') (.inr (h1.not_row hte hown').symm), h4, h5⟩
theorem infoE : (Tryz.prog.info? 46).map (fun i => (i.zero, i.size, i.bytes)) = some (some (.agg #[.int .u64 0, .int .u64 0, .int .u64 0]), 3, 24) := by kernel_rfl
end Go.Proofs.YtolhmibejhldkaaGreatDoor

namespace Go.Proofs.YtolhmibejhldkaaGreatDoor
open Go.RowKit Go.Proofs
end Go.Proofs.YtolhmibejhldkaaGreatDoor

namespace Go.Proofs.YtolhmibejhldkaaGreatDoor
open Go.RowKit Go.Proofs
def putM (m : Nat) (i : Int) (h : Nat) : Nat := if fullE m i false = 0 then setL m i.toNat (h % 128) else m
def putT (m : Nat) (s : Nat → EntS) (i : Int) (e : EntS) : Nat → EntS := if fullE m i false = 0 then putS s i.toNat e else s
def putB (m : Nat) (i : Int) : Bool := fullE m i false == 0 && ln m i.toNat == 254
def setT (m : Nat) (s : Nat → EntS) (i : Int) (v : Int) : Nat → EntS := if fullE m i true = 0 then putS s i.toNat { s i.toNat with val := v } else s
end Go.Proofs.YtolhmibejhldkaaGreatDoor

namespace Go.Proofs.YtolhmibejhldkaaGreatDoor
open Go.RowKit Go.Proofs
attribute [local go_sem] neq_nilG
theorem glookM_any (G o M : Nat) (mt : MeterS) (x y z : Int) (w : World) (hM : Blk w M 37 mt.cells) :
    Calls Tryz.prog 88 #[.pointer (some ⟨G, o, none⟩), .agg #[.pointer (some ⟨M, 0, none⟩), .int .i64 x, .int .i64 y, .int .i64 z]] w fun e w' => e = .returned (.agg #[.pointer (some ⟨G, o, none⟩)]) ∧ Blk w' M 37 (mt.add x y z).cells ∧ Chg (fun b => b = M) w w' := glook_m G o M mt x y z w hM
theorem glookN_any (G o : Nat) (x y z : Int) (w : World) :
    Calls Tryz.prog 88 #[.pointer (some ⟨G, o, none⟩), .agg #[.pointer none, .int .i64 x, .int .i64 y, .int .i64 z]] w fun e w' => e = .returned (.agg #[.pointer (some ⟨G, o, none⟩)]) ∧ Below w.heap.size w w' := glook_none G o x y z w
theorem eql_nilG (w : World) : (binOp .eql 27 .nilIface .nilIface).run Tryz.prog w = .ok (.bool true) w := run_eql_nil_nil _ _ (by kernel_rfl)
attribute [local go_sem] eql_nilG
end Go.Proofs.YtolhmibejhldkaaGreatDoor

namespace Go.Proofs.YtolhmibejhldkaaGreatDoor
open Go.RowKit Go.Proofs
theorem filter_add {f g : Nat → Bool} {k : Nat} (hf : f k = false) (hg : g k = true) (h : ∀ i, i ≠ k → g i = f i) : ∀ {l : List Nat}, l.Nodup → k ∈ l → (l.filter g).length = (l.filter f).length + 1
  | [], _, hk => by cases hk
  | a :: l, hn, hk => by
    have hn' := List.nodup_cons.1 hn
    by_cases e : a = k
    · subst e
      have hs : l.filter g = l.filter f := List.filter_congr fun i hi => h i (fun e => hn'.1 (e ▸ hi))
      rw [List.filter_cons_of_pos hg, List.filter_cons_of_neg (by rw [hf]; simp), hs]; rfl
    · have hk' : k ∈ l := by
        rcases List.mem_cons.1 hk with e' | h'
        · exact absurd e'.symm e
        · exact h'
      have ih := filter_add hf hg h hn'.2 hk'
      cases c : f a
      · rw [List.filter_cons_of_neg (by rw [h a e, c]; simp), List.filter_cons_of_neg (by rw [c]; simp), ih]
      · rw [List.filter_cons_of_pos (by rw [h a e, c]), List.filter_cons_of_pos c, List.length_cons, List.length_cons, ih]
theorem lanes_add {f g : Nat → Bool} {k : Nat} (hk : k < 8) (hf : f k = false) (hg : g k = true) (h : ∀ i, i ≠ k → i < 8 → g i = f i) : (lanesL g).length = (lanesL f).length + 1 := by
  have e : lanesL g = lanesL (fun i => if i = k then true else f i) := lanesL_congr fun i hi => by
    by_cases c : i = k
    · subst c; rw [if_pos rfl, hg]
    · rw [if_neg c, h i c hi]
  rw [e]
  exact filter_add hf (if_pos rfl) (fun i hi => if_neg hi) List.nodup_range (by simpa using hk)
theorem fullE_false {m k : Nat} (hk : k < 8) (h : fullE m (k : Int) false = 0) : fullB m k = false := by
  obtain ⟨j, e, hj, hd⟩ := fullE_zero h
  obtain rfl : k = j := by omega
  rw [full_not]; simpa using hd
theorem fullE_true {m k : Nat} (hk : k < 8) (h : fullE m (k : Int) true = 0) : fullB m k = true := by
  obtain ⟨j, e, hj, hd⟩ := fullE_zero h
  obtain rfl : k = j := by omega
  rw [full_iff]; simpa using hd
theorem full_put (m k q i : Nat) (hq : q < 128) (hi : i < 8) : fullB (setL m k q) i = if i = k then true else fullB m i := by
  by_cases e : i = k
  · rw [if_pos e, full_iff, ln_setL m k q i (by omega) hi, if_pos e]; exact hq
  · rw [if_neg e, Bool.eq_iff_iff, full_iff, full_iff, ln_setL m k q i (by omega) hi, if_neg e]
theorem full_gone (m k i : Nat) (hi : i < 8) : fullB (setL m k (goneN m)) i = if i = k then false else fullB m i := by
  by_cases e : i = k
  · rw [if_pos e, full_not, ln_setL m k _ i (goneN_lt m) hi, if_pos e]; exact goneN_high m
  · rw [if_neg e, Bool.eq_iff_iff, full_iff, full_iff, ln_setL m k _ i (goneN_lt m) hi, if_neg e]
theorem put_count {m k : Nat} (q : Nat) (hk : k < 8) (hq : q < 128) (h : fullE m (k : Int) false = 0) : (lanesL (fullB (setL m k q))).length = (lanesL (fullB m)).length + 1 :=
  lanes_add hk (fullE_false hk h) (by rw [full_put m k q k hq hk, if_pos rfl]) (fun i hi h8 => by rw [full_put m k q i hq h8, if_neg hi])
theorem erase_count {m k : Nat} (hk : k < 8) (h : fullE m (k : Int) true = 0) : (lanesL (fullB m)).length = (lanesL (fullB (setL m k (goneN m)))).length + 1 :=
  lanes_add hk (by rw [full_gone m k k hk, if_pos rfl]) (fullE_true hk h) (fun i hi h8 => by rw [full_gone m k i h8, if_neg hi])
theorem find_cases (s : Nat → EntS) (key : Int) (f : Nat → Bool) : (findZ s key (lanesL f) = -1 ∧ ∀ j, j < 8 → f j = true → (s j).key ≠ key) ∨ ∃ k : Nat, findZ s key (lanesL f) = (k : Int) ∧ k < 8 ∧ f k = true ∧ (s k).key = key ∧ ∀ j, j < k → f j = true → (s j).key ≠ key := by
  rw [find_scan]
  rcases scan_cases (fun i => f i && (s i).key == key) with ⟨h1, h2⟩ | ⟨k, h1, h2, h3, h4⟩
  · exact .inl ⟨h1, fun j hj hf e => by have := h2 j hj; simp [hf, e] at this⟩
  · simp only [Bool.and_eq_true, beq_iff_eq] at h3
    exact .inr ⟨k, h1, h2, h3.1, h3.2, fun j hj hf e => by have := h4 j hj; simp [hf, e] at this⟩
theorem open_iff (m : Nat) : openB m = true ↔ ∃ i, i < 8 ∧ ln m i = 128 := by
  unfold openB equalB
  simp
theorem open_put {m k : Nat} (q : Nat) (hq : q < 128) (h : openB m = false) : openB (setL m k q) = false := by
  rw [← Bool.not_eq_true, open_iff] at h ⊢
  rintro ⟨i, hi, e⟩
  rw [ln_setL m k q i (by omega) hi] at e
  by_cases c : i = k
  · rw [if_pos c] at e; omega
  · rw [if_neg c] at e; exact h ⟨i, hi, e⟩
theorem open_gone {m k : Nat} (h : openB m = false) : openB (setL m k (goneN m)) = false := by
  have hg : goneN m = 254 := by unfold goneN; rw [h]; rfl
  rw [hg]
  rw [← Bool.not_eq_true, open_iff] at h ⊢
  rintro ⟨i, hi, e⟩
  rw [ln_setL m k 254 i (by omega) hi] at e
  by_cases c : i = k
  · rw [if_pos c] at e; omega
  · rw [if_neg c] at e; exact h ⟨i, hi, e⟩
end Go.Proofs.YtolhmibejhldkaaGreatDoor

namespace Go.Proofs.YtolhmibejhldkaaGreatDoor
open Go.RowKit Go.Proofs
attribute [local go_sem] Oper.semAt_some wide_depth round_depth wide_fn round_fn
theorem takeEnts (f : Nat → Bool) (s : Nat → EntS) (i : Nat) : entV ((List.range (i + 1)).map (fun j => s (laneAt f j))) = entV ((List.range i).map (fun j => s (laneAt f j))) ++ [.int .u64 (s (laneAt f i)).key, .int .u64 (s (laneAt f i)).val, .int .u64 (s (laneAt f i)).hash] := by
  rw [List.range_succ, List.map_append, entV_append]; rfl
theorem allEnts (f : Nat → Bool) (s : Nat → EntS) : (List.range (lanesL f).length).map (fun j => s (laneAt f j)) = (lanesL f).map s := by
  apply List.ext_getElem
  · simp
  · intro i h1 h2
    simp only [List.length_map, List.length_range] at h1
    simp only [List.getElem_map, List.getElem_range]
    unfold laneAt
    rw [List.getD_eq_getElem?_getD, List.getElem?_eq_getElem h1]; rfl
set_option maxRecDepth 100000 in
set_option maxHeartbeats 4000000 in
theorem gentries_any (G o m : Nat) (s : Nat → EntS) (hm : m < 18446744073709551616) (w : World) (hg : GW w G o m s) (hT : Tab64 w) :
    Calls Tryz.prog 129 #[.agg #[.pointer (some ⟨G, o, none⟩)]] w fun e w' => ∃ v, e = .returned v ∧ w'.ownsRow w.heap.size 46 3 v (entsL m s).length (entV (entsL m s)) ∧ Below w.heap.size w w' := by
  obtain ⟨i0, hi, hz0, hz1, hz2⟩ := info_parts infoE
  have HG := Lib.hid hg
  have HT := Lib.hid hT
  have hl := hg.lt
  have hl1 : G < w.heap.size + 1 := by omega
  have c0 := hg.word
  have FU := Lib.hid (cfulls_any m hm)
  have HQ := Lib.hid (maskB_lt (fullB m))
  have HF := Lib.hid (maskB_high (fullB m))
  unfold entsL
  obtain ⟨f, hf⟩ : ∃ f, f = fullB m := ⟨_, rfl⟩
  rw [← hf] at FU HQ HF ⊢
  generalize hQ : maskB f = Q at *
  refine (callsIn_wide (n := 0)).1 ?_
  refine callsIn_of_wp_marks Tryz.func129 rfl trivial ?_
  simp only [Tryz.ntmps129, List.size_toArray, List.length_cons, List.length_nil, Nat.reduceAdd, Nat.reduceSub, Array.replicate_succ, Array.replicate_zero, List.push_toArray, List.append_toArray, List.nil_append, List.cons_append]
  refine wpIn_wide.2 ?_
  clear hg hT hf hQ
  go_wp2_with (first | (go_at_call 167; refine (FU.out _).mono ?_; rintro e w' ⟨rfl, rfl⟩) | (go_at_call 143; refine (lanes_any _ _).mono ?_; rintro e w' ⟨rfl, rfl⟩))
  refine wp_at (fun wL hwL => ?_)
  have q0 : Blk wL w.heap.size 96 #[.pointer (some ⟨G, o, none⟩)] := by rw [hwL]; exact ((Blk.new w _ _).alloc _).alloc _
  have q1 : Blk wL (w.heap.size + 1) 68 #[.slice none 0 0] := by rw [hwL]; exact (Blk.new_at (by simp)).alloc _
  have q3 : Blk wL (w.heap.size + 1 + 1) 38 #[.int .u64 (Q : Int)] := by rw [hwL]; exact Blk.new_at (by simp)
  have qB : Below w.heap.size w wL := by rw [hwL]; go_grown
  have qz : wL.heap.size = w.heap.size + 1 + 1 + 1 := by rw [hwL]; simp
  have hgv := lanes_gives Q HQ.out (w.heap.size + 1 + 1) wL (q3.cell 0) (HT.out.below qB)
  have hgl : 16 < w.heap.size := World.block_lt_of_cell? _ _ (HT.out 0 (by decide))
  have hL : lanesL (highB Q) = lanesL f := lanesL_congr HF.out
  have hLa : ∀ i, laneAt (highB Q) i = laneAt f i := fun i => by unfold laneAt; rw [hL]
  simp only [hL, hLa] at hgv
  have HGV := Lib.hid hgv
  have hN := lanesL_len f
  have HS := Lib.hid (takeEnts f s)
  have HAE := Lib.hid (allEnts f s)
  clear hwL hgv hL hLa
  refine (wpIn_wide (n := 0)).1 ?_
  refine wp_rangeAt rfl enters_lanes HGV.out (fun b hb => by rcases hb with rfl | rfl <;> omega) (fun _ => rfl)
    (fun i W => (∃ v, Boxed W (w.heap.size + 1) 68 v ∧ W.ownsRow wL.heap.size 46 3 v i (entV ((List.range i).map (fun j => s (laneAt f j)))) ∧ True) ∧ Blk W w.heap.size 96 #[.pointer (some ⟨G, o, none⟩)] ∧ Blk W (w.heap.size + 1 + 1) 38 #[.int .u64 (Q : Int)] ∧ Below w.heap.size w W)
    (fun _ _ => False)
    (OwnFrom.and (Own.from (holdsRow_own wL.heap.size (w.heap.size + 1) 68 46 3 (fun i => i) (fun i => entV ((List.range i).map (fun j => s (laneAt f j)))) (fun _ _ => True)) _) (OwnFrom.and (Own.from (blk_own _ _ _) _) (OwnFrom.and (Own.from (blk_own _ _ _) _) (ownFrom_below (Nat.le_refl _) (by omega)))))
    (fun _ _ _ _ hs _ _ => hs)
    ⟨⟨_, q1, ⟨rfl, .inl ⟨rfl, rfl⟩⟩, trivial⟩, q0, q3, qB⟩
    (fun T i a _ => a = { tmps := (T.setIfInBounds 12 (.int .i64 ((laneAt f i : Nat) : Int))).setIfInBounds 4 (.int .i64 ((laneAt f i : Nat) : Int)), defers := [] })
    ?assign (fun _ _ _ _ hs _ _ => hs) ?body ?done ?stop
  case assign =>
    intro l i W K hi hlt _ hK
    gi_wp2
    exact hK _ _ (KeepsFrom.refl _ _) (Same.refl _ _) hi rfl
  case body =>
    rintro l i a₁ W ⟨⟨v, hv, hrow, -⟩, p0, p3, hB⟩ hlt hsz rfl
    simp only [List.setIfInBounds_toArray, List.set_cons_succ, List.set_cons_zero]
    have hx8 : laneAt f i < 8 := by
      have hla : laneAt f i = (lanesL f)[i] := by unfold laneAt; rw [List.getD_eq_getElem?_getD, List.getElem?_eq_getElem hlt]; rfl
      rw [hla]; exact (lanesL_mem.1 (List.getElem_mem hlt)).1
    obtain ⟨s0, s1, s2⟩ := (HG.out.below hB hl).slot (laneAt f i) hx8
    have e0 := p0.boxed.cell
    obtain ⟨av, cv, rfl⟩ := ownsRow_slice hrow
    have hc := hv.cell
    have hx9 : ((laneAt f i : Nat) : Int) < 8 := by omega
    have hz := hB.size
    have HV := Lib.hid hv
    have HR := Lib.hid hrow
    have H0 := Lib.hid p0
    have H3 := Lib.hid p3
    clear hv hrow p0 p3
    gi_wp2
    refine wp_region_seqIn (fun _ => False) #[⟨0, 0, 8192, 8, 1⟩, ⟨0, 0, 16384, 2, 0⟩, ⟨2, 2, 32768, 16384, 1⟩, ⟨0, 0, 65536, 16, 0⟩, ⟨4, 6, 131072, 32768, 0⟩, ⟨16, 22, 262144, 131072, 0⟩, ⟨40, 62, 524288, 327680, 0⟩, ⟨64, 126, 1048576, 524288, 1⟩, ⟨128, 254, 2097152, 1048576, 2⟩, ⟨257, 511, 4194304, 2105344, 3⟩, ⟨1023, 1023, 0, 4194312, 3⟩] 133 [(0, 1), (1, 0), (2, 1), (3, 0), (4, 0), (5, 0), (6, 0), (7, 1), (8, 2), (9, 3), (10, 3)] (by kernel_rfl) (by kernel_rfl) (by kernel_rfl) (by kernel_rfl) (by kernel_rfl) (by kernel_rfl) (fun c a d v w h => by cases d <;> exact h) (by kernel_rfl) (by rintro ⟨a, w, h⟩; exact h) ?_
    refine zq1 Tryz.underlying68 ?_
    try refine zqP ?_; refine zqC ?_
    refine zq1 Tryz.underlying94 ?_
    try refine zqP ?_; refine zqC ?_; refine zqC ?_; refine zqC ?_; refine zqC ?_
    refine zqL [_, _, _] Tryz.underlying46 ?_
    try refine zqP ?_
    refine zqD fun K hK => ?_; go_wp2_with (fail); refine hkI hK (h := ?_); clear hK K
    try refine zqP ?_
    refine zqE fun K hK => ?_; (refine wp_append_own2 _ _ 68 rfl wL.heap.size 46 i0 (.agg #[.int .u64 0, .int .u64 0, .int .u64 0]) 3 24 Tryz.underlying68 hi hz0 hz1 hz2 rfl (by decide) _ _ _ rfl (show (World.drew (W.alloc _)).ownsRow _ _ _ _ _ _ from HR.out.alloc _) ⟨W.heap.size, 0, none⟩ 1 1 [.int .u64 (s (laneAt f i)).key, .int .u64 (s (laneAt f i)).val, .int .u64 (s (laneAt f i)).hash] rfl rfl (cell3_new W _ _ _ _) (by simp [Value.oneCell']) (by unfold maxLen; omega) (by omega) (by simp; omega) (by decide) ?_; intro v' w1 hown' hgrow0 _; have hgrow := grown_undrew hgrow0; clear hgrow0; obtain ⟨g', cap', rfl⟩ := ownsRow_succ hown'; obtain ⟨hv1, hv2, hr2, hk2, hb2⟩ := appended3 (n₀ := w.heap.size) HV.out (by decide) HR.out (by omega) (by omega) (by omega) hown' hgrow; have hk3 := Lib.hid (((H0.out.alloc _).kept hgrow (own_ne HR.out (by omega))).other (B' := w.heap.size + 1) (by omega) 0 (.slice (some ⟨g', 0, none⟩) (i + 1) cap')); have hk4 := Lib.hid (((H3.out.alloc _).kept hgrow (own_ne HR.out (by omega))).other (B' := w.heap.size + 1) (by omega) 0 (.slice (some ⟨g', 0, none⟩) (i + 1) cap')); have hc1 := hv1.cell; have hf1 := hv1.frozen); refine hK.out _ _ ?_; clear hK K
    try refine zqP ?_
    refine zqE fun K hK => ?_; go_wp2_with (fail); refine hK.out _ _ ?_; clear hK K
    try refine zqP ?_
    refine seq_nil ?_
    gi_wp2
    refine ⟨hk2.from _, ?_, ⟨_, hv2, by rw [HS.out]; exact hr2, trivial⟩, hk3.out, hk4.out, hB.trans hb2⟩
    rintro b (rfl | rfl)
    · exact (show _ = _ from hk4.out).trans (show _ = _ from H3.out).symm
    · exact hb2.block _ hgl
  case done =>
    rintro D W hD ⟨⟨v, hv, hrow, -⟩, p0, p3, hB⟩ hK
    have hc := hv.cell
    have HK := Lib.hid hK
    rw [HAE.out] at hrow
    have HR := Lib.hid (ownsRow_putObj (ownsRow_base hrow (show w.heap.size ≤ wL.heap.size by omega)) (.deferred none) hK rfl)
    clear hK hrow hv
    go_wp2
    refine ⟨by simp, .inl ⟨_, _, rfl, run_takeDeferred HK.out, ?_⟩⟩
    refine ⟨_, results_tmp rfl _ _ _, v, rfl, ?_, hB.trans (below_putObj _ (by omega) HK.out)⟩
    rw [List.length_map]; exact HR.out
  case stop =>
    rintro D c W hD h _
    exact h.elim
end Go.Proofs.YtolhmibejhldkaaGreatDoor
