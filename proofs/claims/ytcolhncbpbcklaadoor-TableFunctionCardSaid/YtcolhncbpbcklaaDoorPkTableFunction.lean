/- Texts joined: TableFun. No condition but those that stand within. -/
import Derived.Deep.DeepCutAuto
import Derived.Deep.CutBlock
import Derived.Test.YtcolhncbpbcklaaDoorPkSwar
import Derived.Test.YtcolhncbpbcklaaDoorPkMeter
import Derived.Test.YtcolhncbpbcklaaDoorPkErrs
import Derived.Test.YtcolhncbpbcklaaDoorPkGroup
import Derived.Test.YtcolhncbpbcklaaDoorPkTab
import Derived.Test.YtcolhncbpbcklaaDoorPkTab2
import Derived.Test.YtcolhncbpbcklaaDoorPkTab3
import Derived.Test.YtcolhncbpbcklaaDoorPkTab4
namespace Go.Proofs.YtcolhncbpbcklaaDoor
set_option linter.unusedVariables false
set_option linter.unusedSimpArgs false
open Go.RowKit Go.Proofs
attribute [local go_sem] neq_nilG eql_nilG

/-- the two lists that a law keeps beside the table -/
structure TV (w : World) (VB VU n : Nat) (th : Nat → Bool) (va : Nat → Int) : Prop where
  b : Blk w VB 4 (arrV n (fun i => .bool (th i)))
  u : Blk w VU 38 (arrV n (fun i => .int .u64 (va i)))
  ne : VB ≠ VU
theorem TV.later {w w' : World} {VB VU n : Nat} {th : Nat → Bool} {va : Nat → Int} (h : TV w VB VU n th va) (hb : Below w.heap.size w w') : TV w' VB VU n th va := ⟨h.b.below hb h.b.lt, h.u.below hb h.u.lt, h.ne⟩
theorem TV.chg {X : Nat → Prop} {w w' : World} {VB VU n : Nat} {th : Nat → Bool} {va : Nat → Int} (h : TV w VB VU n th va) (hc : Chg X w w') (h1 : ¬ X VB) (h2 : ¬ X VU) : TV w' VB VU n th va := ⟨h.b.chg hc h1, h.u.chg hc h2, h.ne⟩
theorem TV.setB {w : World} {VB VU n : Nat} {th : Nat → Bool} {va : Nat → Int} (h : TV w VB VU n th va) {x : Nat} (hx : x < n) (t : Bool) : TV (w.setCell ⟨VB, x, none⟩ (.bool t)) VB VU n (upd th x t) va := by
  refine ⟨?_, h.u.other (fun e => h.ne e.symm) _ _, h.ne⟩
  have := h.b.set x (.bool t)
  rw [arrV_set _ _ _ _ hx] at this
  rw [arrV_congr (F' := fun j => if j = x then .bool t else .bool (th j)) (fun j _ => by unfold upd; split <;> rfl)]
  exact this
theorem TV.setU {w : World} {VB VU n : Nat} {th : Nat → Bool} {va : Nat → Int} (h : TV w VB VU n th va) {x : Nat} (hx : x < n) (v : Int) : TV (w.setCell ⟨VU, x, none⟩ (.int .u64 v)) VB VU n th (upd va x v) := by
  refine ⟨h.b.other h.ne _ _, ?_, h.ne⟩
  have := h.u.set x (.int .u64 v)
  rw [arrV_set _ _ _ _ hx] at this
  rw [arrV_congr (F' := fun j => if j = x then .int .u64 v else .int .u64 (va j)) (fun j _ => by unfold upd; split <;> rfl)]
  exact this
theorem TV.cells {w : World} {VB VU n : Nat} {th : Nat → Bool} {va : Nat → Int} (h : TV w VB VU n th va) {x : Nat} (hx : x < n) : w.cell? ⟨VB, x, none⟩ = some (.bool (th x)) ∧ w.cell? ⟨VU, x, none⟩ = some (.int .u64 (va x)) :=
  ⟨(h.b.cell x).trans (arrV_get _ _ _ hx), (h.u.cell x).trans (arrV_get _ _ _ hx)⟩
/-- they say what the table has -/
def TSay (T : TabS) (H : Int → Nat) (n : Nat) (th : Nat → Bool) (va : Nat → Int) : Prop := ∀ x, x < n → th x = T.has (x : Int) (H x) ∧ (th x = true → va x = (T.ent (x : Int) (H x)).val)
theorem TSay.put {T : TabS} {H : Int → Nat} {n x : Nat} {th : Nat → Bool} {va : Nat → Int} (h : TSay T H n th va) (hT : TFun T H) (hx : x < n) (v : Int) (hh : H x < 18446744073709551616) (hok : T.ok x (H x) = true) :
    TSay (T.putT x v (H x)) H n (upd th x true) (upd va x v) := fun y hy => by
  obtain ⟨h1, h2⟩ := hT.put_at x v hh y
  by_cases e : y = x
  · subst e
    rw [if_pos rfl] at h1 h2
    rw [hok] at h1 h2
    rw [h1, h2, upd_same, upd_same, if_pos rfl]; exact ⟨rfl, fun _ => rfl⟩
  · rw [if_neg (by omega)] at h1 h2
    rw [h1, h2, upd_other _ _ e, upd_other _ _ e]; exact h y hy
theorem TSay.putNo {T : TabS} {H : Int → Nat} {n x : Nat} {th : Nat → Bool} {va : Nat → Int} (h : TSay T H n th va) (hT : TFun T H) (v : Int) (hh : H x < 18446744073709551616) (hok : T.ok x (H x) = false) : T.putT x v (H x) = T := by
  unfold TabS.ok at hok
  simp only [Bool.or_eq_false_iff] at hok
  unfold TabS.putT
  rw [hok.1, if_neg Bool.false_ne_true, hT.room hok.1, hok.2, if_neg Bool.false_ne_true]
theorem TSay.del {T : TabS} {H : Int → Nat} {n x : Nat} {th : Nat → Bool} {va : Nat → Int} (h : TSay T H n th va) (hT : TFun T H) : TSay (T.delT x (H x)) H n (upd th x false) va := fun y hy => by
  obtain ⟨h1, h2⟩ := hT.del_at x y
  by_cases e : y = x
  · subst e
    rw [if_pos rfl] at h1 h2
    rw [h1, upd_same]; exact ⟨rfl, fun c => by cases c⟩
  · rw [if_neg (by omega)] at h1 h2
    rw [h1, h2, upd_other _ _ e]; exact h y hy
theorem TSay.new {g n : Nat} {H : Int → Nat} : TSay (TabS.new g) H n (fun _ => false) (fun _ => 0) := fun y hy => by
  refine ⟨?_, fun c => by cases c⟩
  unfold TabS.has TabS.atZ TabS.hit TabS.new
  dsimp only
  rcases find_cases (fun _ => EntS.zero) (y : Int) (equalB (rep 128) (H y % 128)) with ⟨e, -⟩ | ⟨k, -, hk, hf, -⟩
  · rw [e]; decide
  · unfold equalB at hf
    rw [ln_rep 128 k (by decide) hk] at hf
    have : H y % 128 < 128 := Nat.mod_lt _ (by decide)
    simp at hf; omega
/-- what is there between the acts of TableFunction -/
structure FN (w : World) (B Q M VB VU n : Nat) (T : TabS) (mt : MeterS) (th : Nat → Bool) (va : Nat → Int) (H : Int → Nat) (g : Nat) (E : Nat → Addr) (w0 : World) : Prop where
  s : TMW w B Q (some M) T mt E w0
  v : TV w VB VU n th va
  f : TFun T H
  c : TCnt T H n
  y : TSay T H n th va
  g : T.n = g
/-- the blocks lie apart -/
structure Sep (B Q M VB VU n0 : Nat) : Prop where
  m : M ≠ B ∧ M ≠ Q ∧ M ≠ VB ∧ M ≠ VU
  b : VB ≠ B ∧ VB ≠ Q ∧ VU ≠ B ∧ VU ≠ Q ∧ VB ≠ VU
  o : n0 ≤ B ∧ n0 ≤ Q ∧ n0 ≤ M ∧ n0 ≤ VB ∧ n0 ≤ VU
theorem FN.later {w w' w0 : World} {B Q M VB VU n g : Nat} {T : TabS} {mt : MeterS} {th : Nat → Bool} {va : Nat → Int} {H : Int → Nat} {E : Nat → Addr} (h : FN w B Q M VB VU n T mt th va H g E w0) (hb : Below w.heap.size w w') : FN w' B Q M VB VU n T mt th va H g E w0 :=
  ⟨h.s.later hb, h.v.later hb, h.f, h.c, h.y, h.g⟩
theorem FN.alloc {w w0 : World} {B Q M VB VU n g : Nat} {T : TabS} {mt : MeterS} {th : Nat → Bool} {va : Nat → Int} {H : Int → Nat} {E : Nat → Addr} (h : FN w B Q M VB VU n T mt th va H g E w0) (o : Obj) : FN (w.alloc o) B Q M VB VU n T mt th va H g E w0 := h.later ((Below.refl _ _).alloc (Nat.le_refl _) o)
theorem FN.drew {w w0 : World} {B Q M VB VU n g : Nat} {T : TabS} {mt : MeterS} {th : Nat → Bool} {va : Nat → Int} {H : Int → Nat} {E : Nat → Addr} (h : FN w B Q M VB VU n T mt th va H g E w0) : FN w.drew B Q M VB VU n T mt th va H g E w0 := h.later (Below.refl _ _).drew
/-- the meter alone has turned -/
theorem FN.turn {w w' w0 : World} {B Q M VB VU n g : Nat} {T : TabS} {mt mt' : MeterS} {th : Nat → Bool} {va : Nat → Int} {H : Int → Nat} {E : Nat → Addr} (h : FN w B Q M VB VU n T mt th va H g E w0) (hs : Sep B Q M VB VU w0.heap.size) (h1 : TMW w' B Q (some M) T mt' E w0) (hc : Chg (fun b => some M = some b) w w') : FN w' B Q M VB VU n T mt' th va H g E w0 :=
  ⟨h1, h.v.chg hc (fun e => hs.m.2.2.1 (Option.some.inj e)) (fun e => hs.m.2.2.2 (Option.some.inj e)), h.f, h.c, h.y, h.g⟩
/-- a new block alone has turned -/
theorem FN.chgNew {w w' w0 : World} {B Q M VB VU n g P : Nat} {T : TabS} {mt : MeterS} {th : Nat → Bool} {va : Nat → Int} {H : Int → Nat} {E : Nat → Addr} (h : FN w B Q M VB VU n T mt th va H g E w0) (hc : Chg (fun b => b = P) w w') (h1 : B < P ∧ Q < P ∧ M < P ∧ VB < P ∧ VU < P ∧ w0.heap.size ≤ P) : FN w' B Q M VB VU n T mt th va H g E w0 :=
  ⟨h.s.chg hc (fun b e => by subst e; exact h1.2.2.2.2.2) (by omega) (by omega) (fun b e => by cases e; omega), h.v.chg hc (by omega) (by omega), h.f, h.c, h.y, h.g⟩
/-- how many they say -/
def cntB (th : Nat → Bool) (k : Nat) : Nat := sumN (fun i => if th i = true then 1 else 0) k
/-- what a meter has counted behind p probes since its Reset -/
theorem probe_l0 (mt : MeterS) (h : mt.l0 = 0) : ∀ p, p ≤ 1000 → (addN mt 1 0 0 p).l0 = p
  | 0, _ => h
  | p + 1, hp => by
    have ih := probe_l0 mt h p (by omega)
    show sumZ (addN mt 1 0 0 p).l0 1 = _
    rw [ih, sumZ_add (by omega) (by decide) (by omega)]; omega
theorem looks_le {T : TabS} (hT : TGood T) (key : Int) (h : Nat) : T.looks key h ≤ T.n := by
  have := (lookN_spec (fun j => T.stop key h (T.wk h j)) T.n 0).2.1
  unfold TabS.looks; omega
set_option maxRecDepth 100000 in
set_option maxHeartbeats 16000000 in
theorem tableFunction_any (n : Int) (v1 v2 : Value) (n1 n2 : Nat) (f1 f2 : Nat → Nat → Int) (E : Nat → Addr) (w0 : World) (he : ErrsAre w0 E) (hT : Tab64 w0) (h1 : RowsAt w0 v1 n1 1 .u64 f1) (h2 : RowsAt w0 v2 n2 3 .i64 f2) :
    Calls Tryd.prog 3 #[.int .i64 n, v1, v2] w0 fun e w' => e = .returned (.bool true) ∧ Below w0.heap.size w0 w' := by
  have m1 := h1.2.2
  have m2 := h2.2.2
  unfold maxLen at m1 m2
  obtain ⟨iB, hiB, hzB0, hzB1, hzB2⟩ := info_parts infoB
  obtain ⟨iU, hiU, hzU0, hzU1, hzU2⟩ := info_parts infoU
  have HEC := Lib.hid (show EC w0 E [1, 2, 4, 5, 14, 16] from he.ec.sub (by decide))
  have HT := Lib.hid hT
  have AL := Lib.hid (alive09_any E w0 he hT)
  obtain ⟨a2, cap2, rfl, hx2⟩ := h2.cellAt (by decide)
  have HX2 := Lib.hid hx2
  clear he hT h2 hx2
  by_cases g0 : n1 < 1 ∨ 100 < n1
  · obtain ⟨a1, cap1, rfl, -⟩ := h1.cellAt (by decide)
    clear h1
    rcases g0 with g0 | g0
    · have d1 : (n1 : Int) < 1 := by omega
      go_enter Tryd.func3, Tryd.ntmps3
      go_wp2_with (go_at_call 7; refine AL.out.mono ?_; rintro e w1 ⟨rfl, hb1⟩)
      go_ret
      exact ⟨rfl, hb1⟩
    · have d1 : (1 : Int) ≤ (n1 : Int) := by omega
      have d2 : (100 : Int) < (n1 : Int) := by omega
      go_enter Tryd.func3, Tryd.ntmps3
      go_wp2_with (go_at_call 7; refine AL.out.mono ?_; rintro e w1 ⟨rfl, hb1⟩)
      go_ret
      exact ⟨rfl, hb1⟩
  have d1 : (1 : Int) ≤ (n1 : Int) := by omega
  have d2 : (n1 : Int) ≤ 100 := by omega
  obtain ⟨b1, o1, cap1, G, rfl, hb1z, hG, hc1⟩ := hashes_of h1 (by omega)
  have HC := Lib.hid hc1
  have HG := Lib.hid hG
  clear h1 hc1 hG
  by_cases g1 : 150 < n2
  · have d3 : (150 : Int) < (n2 : Int) := by omega
    go_enter Tryd.func3, Tryd.ntmps3
    go_wp2_with (go_at_call 7; refine AL.out.mono ?_; rintro e w1 ⟨rfl, hb1⟩)
    go_ret
    exact ⟨rfl, hb1⟩
  have d3 : (n2 : Int) ≤ 150 := by omega
  by_cases hr : rightB n = true
  · obtain ⟨g, rfl⟩ := Int.eq_ofNat_of_zero_le (show 0 ≤ n by rw [rightB_iff] at hr; omega)
    have hn := right_bd hr
    have NW := Lib.hid (fun (w' : World) => tnew_ok g hr w')
    have HR := Lib.hid hr
    clear hr
    go_enter Tryd.func3, Tryd.ntmps3
    go_wp2_with (first
      | (go_at_call 7; refine AL.out.mono ?_; rintro e w1 ⟨rfl, hb1⟩; have hz1 := hb1.size)
      | (go_at_call 8; refine (NW.out w1).mono ?_; rintro e w2 ⟨B, Q, rfl, hB, hQ, ht, hb2⟩; have hz2 := hb2.size; have S2 := Lib.hid (TMW.new (w0 := w0) HR.out HEC.out HT.out hb1 ht hb2 hB hQ); have hlB := S2.out.ltB; have hlQ := S2.out.ltQ; have hBQ := S2.out.ne; clear ht))
    go_upto_region 8 with (fail)
    refine wp_at (fun wz hWz => ?_)
    replace hWz := Lib.hid hWz
    go_cut [9, 10] (fun v9 v10 wx => ∃ VB VU, v9 = .slice (some ⟨VB, 0, none⟩) n1 n1 ∧ v10 = .slice (some ⟨VU, 0, none⟩) n1 n1 ∧ TV wx VB VU n1 (fun _ => false) (fun _ => 0) ∧ wz.heap.size ≤ VB ∧ wz.heap.size ≤ VU ∧ Below wz.heap.size wz wx)
    case first =>
      refine wp_region_T (fun _ => False) #[⟨0, 0, 4503599627370496, 2, 0⟩, ⟨1, 1, 9007199254740992, 4503599627370496, 0⟩, ⟨2, 3, 18014398509481984, 9007199254740992, 3⟩, ⟨0, 0, 36028797018963968, 2, 0⟩, ⟨8, 8, 72057594037927936, 36028797018963968, 0⟩, ⟨16, 24, 144115188075855872, 72057594037927936, 3⟩, ⟨7, 7, 512, 18014398509481984, 0⟩, ⟨127, 127, 1024, 144115188075855872, 0⟩] 0 (.step 0 0 (.step 1 0 (.step 3 0 (.step 4 0 (.fork (.alt 2 (.step 6 0 (.step 5 3 (.step 7 0 Plan.done))) (.alt 5 (.step 2 3 (.step 6 0 (.step 7 0 Plan.done))) Plan.none))))))) (by kernel_rfl) (by kernel_rfl) (by kernel_rfl) (by kernel_rfl) (by kernel_rfl) (by kernel_rfl) (fun c a d v w h => by cases d <;> exact h) ?_
      refine T_calc (by simp only [List.getElem?_toArray, List.getElem?_cons_succ, List.getElem?_cons_zero]; rfl) (by rfl) (fun u => by go_simp <;> with_reducible rfl) ?_
      try simp only [Act.put, List.setIfInBounds_toArray, List.set_cons_zero, List.set_cons_succ]
      refine T_calc (by simp only [List.getElem?_toArray, List.getElem?_cons_succ, List.getElem?_cons_zero]; rfl) (by rfl) (fun u => by go_simp <;> with_reducible rfl) ?_
      try simp only [Act.put, List.setIfInBounds_toArray, List.set_cons_zero, List.set_cons_succ]
      refine T_calc (by simp only [List.getElem?_toArray, List.getElem?_cons_succ, List.getElem?_cons_zero]; rfl) (by rfl) (fun u => by go_simp <;> with_reducible rfl) ?_
      try simp only [Act.put, List.setIfInBounds_toArray, List.set_cons_zero, List.set_cons_succ]
      refine T_calc (by simp only [List.getElem?_toArray, List.getElem?_cons_succ, List.getElem?_cons_zero]; rfl) (by rfl) (fun u => by go_simp <;> with_reducible rfl) ?_
      try simp only [Act.put, List.setIfInBounds_toArray, List.set_cons_zero, List.set_cons_succ]
      refine T_fork (T_alt (by simp only [List.getElem?_toArray, List.getElem?_cons_succ, List.getElem?_cons_zero]; rfl) (by rfl) (fun K hK => ?_) (T_alt (by simp only [List.getElem?_toArray, List.getElem?_cons_succ, List.getElem?_cons_zero]; rfl) (by rfl) (fun K hK => ?_) T_none))
      ((first | (refine wp_make_full _ _ 30 rfl wz.heap.size 4 iB (.bool false) 1 Tryd.underlying30 hiB hzB0 hzB1 .i64 .i64 _ _ n1 rfl rfl rfl rfl (by rw [hzB2]; omega) (by unfold maxLen; omega) (by first | exact Nat.le_refl _ | assumption) ?_; intro wB hoB hgB; have hVB := Lib.hid (made_one hoB); have hVBz := (made_one hoB).lt; have hBB : Below _ _ wB := (Below.refl _ _).grown hgB (Nat.le_refl _) (fun k e => by cases e); have hzB := hBB.size; (try have hVU2 := Lib.hid (hVU.out.below hBB hVU.out.lt)); (try have hzB' := Nat.le_trans hzU hzB); clear hoB hgB) | (refine wp_make_full _ _ 22 rfl wz.heap.size 38 iU (.int .u64 0) 1 Tryd.underlying22 hiU hzU0 hzU1 .i64 .i64 _ _ n1 rfl rfl rfl rfl (by rw [hzU2]; omega) (by unfold maxLen; omega) (by first | exact Nat.le_refl _ | assumption) ?_; intro wU hoU hgU; have hVU := Lib.hid (made_one hoU); have hVUz := (made_one hoU).lt; have hBU : Below _ _ wU := (Below.refl _ _).grown hgU (Nat.le_refl _) (fun k e => by cases e); have hzU := hBU.size; (try have hVB2 := Lib.hid (hVB.out.below hBU hVB.out.lt)); (try have hzU' := Nat.le_trans hzB hzU); clear hoU hgU)); refine hK.out _ _ (by first | exact Chg.drewAlloc _ _ _ | (with_reducible exact Chg.refl _ _) | (with_reducible assumption) | (refine Chg.of_below ?_; with_reducible assumption) | (with_reducible exact (Chg.refl _ _).alloc _) | (with_reducible exact (Chg.refl _ _).drewN _) | (with_reducible exact (Chg.refl _ _).drew) | exact ⟨rfl, rfl, rfl, Nat.le_refl _, fun _ _ _ => rfl⟩ | exact (Chg.refl _ _).setCell (.inl (.inl rfl)) _ | exact (Chg.refl _ _).setCell (.inl (.inr rfl)) _ | exact Chg.drew (Chg.setCell ⟨rfl, rfl, rfl, Nat.le_refl _, fun _ _ _ => rfl⟩ (.inl (.inl rfl)) _) | exact Chg.drew (Chg.setCell ⟨rfl, rfl, rfl, Nat.le_refl _, fun _ _ _ => rfl⟩ (.inl (.inr rfl)) _)) ?_; clear hK K)
      try simp only [Act.put, List.setIfInBounds_toArray, List.set_cons_zero, List.set_cons_succ]
      refine T_calc (by simp only [List.getElem?_toArray, List.getElem?_cons_succ, List.getElem?_cons_zero]; rfl) (by rfl) (fun u => by go_simp <;> with_reducible rfl) ?_
      try simp only [Act.put, List.setIfInBounds_toArray, List.set_cons_zero, List.set_cons_succ]
      refine T_last (by simp only [List.getElem?_toArray, List.getElem?_cons_succ, List.getElem?_cons_zero]; rfl) (by rfl) (fun K hK => ?_); (first | (refine wp_make_full _ _ 30 rfl wz.heap.size 4 iB (.bool false) 1 Tryd.underlying30 hiB hzB0 hzB1 .i64 .i64 _ _ n1 rfl rfl rfl rfl (by rw [hzB2]; omega) (by unfold maxLen; omega) (by first | exact Nat.le_refl _ | assumption) ?_; intro wB hoB hgB; have hVB := Lib.hid (made_one hoB); have hVBz := (made_one hoB).lt; have hBB : Below _ _ wB := (Below.refl _ _).grown hgB (Nat.le_refl _) (fun k e => by cases e); have hzB := hBB.size; (try have hVU2 := Lib.hid (hVU.out.below hBB hVU.out.lt)); (try have hzB' := Nat.le_trans hzU hzB); clear hoB hgB) | (refine wp_make_full _ _ 22 rfl wz.heap.size 38 iU (.int .u64 0) 1 Tryd.underlying22 hiU hzU0 hzU1 .i64 .i64 _ _ n1 rfl rfl rfl rfl (by rw [hzU2]; omega) (by unfold maxLen; omega) (by first | exact Nat.le_refl _ | assumption) ?_; intro wU hoU hgU; have hVU := Lib.hid (made_one hoU); have hVUz := (made_one hoU).lt; have hBU : Below _ _ wU := (Below.refl _ _).grown hgU (Nat.le_refl _) (fun k e => by cases e); have hzU := hBU.size; (try have hVB2 := Lib.hid (hVB.out.below hBU hVB.out.lt)); (try have hzU' := Nat.le_trans hzB hzU); clear hoU hgU)); refine hK.out _ _ ?_; clear hK K
      try simp only [Act.put, List.setIfInBounds_toArray, List.set_cons_zero, List.set_cons_succ]
      refine T_calc (by simp only [List.getElem?_toArray, List.getElem?_cons_succ, List.getElem?_cons_zero]; rfl) (by rfl) (fun u => by go_simp <;> with_reducible rfl) ?_
      try simp only [Act.put, List.setIfInBounds_toArray, List.set_cons_zero, List.set_cons_succ]
      refine T_done ?_
      rotate_left 1
      ((first | (refine wp_make_full _ _ 30 rfl wz.heap.size 4 iB (.bool false) 1 Tryd.underlying30 hiB hzB0 hzB1 .i64 .i64 _ _ n1 rfl rfl rfl rfl (by rw [hzB2]; omega) (by unfold maxLen; omega) (by first | exact Nat.le_refl _ | assumption) ?_; intro wB hoB hgB; have hVB := Lib.hid (made_one hoB); have hVBz := (made_one hoB).lt; have hBB : Below _ _ wB := (Below.refl _ _).grown hgB (Nat.le_refl _) (fun k e => by cases e); have hzB := hBB.size; (try have hVU2 := Lib.hid (hVU.out.below hBB hVU.out.lt)); (try have hzB' := Nat.le_trans hzU hzB); clear hoB hgB) | (refine wp_make_full _ _ 22 rfl wz.heap.size 38 iU (.int .u64 0) 1 Tryd.underlying22 hiU hzU0 hzU1 .i64 .i64 _ _ n1 rfl rfl rfl rfl (by rw [hzU2]; omega) (by unfold maxLen; omega) (by first | exact Nat.le_refl _ | assumption) ?_; intro wU hoU hgU; have hVU := Lib.hid (made_one hoU); have hVUz := (made_one hoU).lt; have hBU : Below _ _ wU := (Below.refl _ _).grown hgU (Nat.le_refl _) (fun k e => by cases e); have hzU := hBU.size; (try have hVB2 := Lib.hid (hVB.out.below hBU hVB.out.lt)); (try have hzU' := Nat.le_trans hzB hzU); clear hoU hgU)); refine hK.out _ _ (by first | exact Chg.drewAlloc _ _ _ | (with_reducible exact Chg.refl _ _) | (with_reducible assumption) | (refine Chg.of_below ?_; with_reducible assumption) | (with_reducible exact (Chg.refl _ _).alloc _) | (with_reducible exact (Chg.refl _ _).drewN _) | (with_reducible exact (Chg.refl _ _).drew) | exact ⟨rfl, rfl, rfl, Nat.le_refl _, fun _ _ _ => rfl⟩ | exact (Chg.refl _ _).setCell (.inl (.inl rfl)) _ | exact (Chg.refl _ _).setCell (.inl (.inr rfl)) _ | exact Chg.drew (Chg.setCell ⟨rfl, rfl, rfl, Nat.le_refl _, fun _ _ _ => rfl⟩ (.inl (.inl rfl)) _) | exact Chg.drew (Chg.setCell ⟨rfl, rfl, rfl, Nat.le_refl _, fun _ _ _ => rfl⟩ (.inl (.inr rfl)) _)) ?_; clear hK K)
      try simp only [Act.put, List.setIfInBounds_toArray, List.set_cons_zero, List.set_cons_succ]
      refine T_last (by simp only [List.getElem?_toArray, List.getElem?_cons_succ, List.getElem?_cons_zero]; rfl) (by rfl) (fun K hK => ?_); (first | (refine wp_make_full _ _ 30 rfl wz.heap.size 4 iB (.bool false) 1 Tryd.underlying30 hiB hzB0 hzB1 .i64 .i64 _ _ n1 rfl rfl rfl rfl (by rw [hzB2]; omega) (by unfold maxLen; omega) (by first | exact Nat.le_refl _ | assumption) ?_; intro wB hoB hgB; have hVB := Lib.hid (made_one hoB); have hVBz := (made_one hoB).lt; have hBB : Below _ _ wB := (Below.refl _ _).grown hgB (Nat.le_refl _) (fun k e => by cases e); have hzB := hBB.size; (try have hVU2 := Lib.hid (hVU.out.below hBB hVU.out.lt)); (try have hzB' := Nat.le_trans hzU hzB); clear hoB hgB) | (refine wp_make_full _ _ 22 rfl wz.heap.size 38 iU (.int .u64 0) 1 Tryd.underlying22 hiU hzU0 hzU1 .i64 .i64 _ _ n1 rfl rfl rfl rfl (by rw [hzU2]; omega) (by unfold maxLen; omega) (by first | exact Nat.le_refl _ | assumption) ?_; intro wU hoU hgU; have hVU := Lib.hid (made_one hoU); have hVUz := (made_one hoU).lt; have hBU : Below _ _ wU := (Below.refl _ _).grown hgU (Nat.le_refl _) (fun k e => by cases e); have hzU := hBU.size; (try have hVB2 := Lib.hid (hVB.out.below hBU hVB.out.lt)); (try have hzU' := Nat.le_trans hzB hzU); clear hoU hgU)); refine hK.out _ _ ?_; clear hK K
      try simp only [Act.put, List.setIfInBounds_toArray, List.set_cons_zero, List.set_cons_succ]
      refine T_calc (by simp only [List.getElem?_toArray, List.getElem?_cons_succ, List.getElem?_cons_zero]; rfl) (by rfl) (fun u => by go_simp <;> with_reducible rfl) ?_
      try simp only [Act.put, List.setIfInBounds_toArray, List.set_cons_zero, List.set_cons_succ]
      refine T_calc (by simp only [List.getElem?_toArray, List.getElem?_cons_succ, List.getElem?_cons_zero]; rfl) (by rfl) (fun u => by go_simp <;> with_reducible rfl) ?_
      try simp only [Act.put, List.setIfInBounds_toArray, List.set_cons_zero, List.set_cons_succ]
      refine T_done ?_
      rotate_left 1
      rotate_right 2
      · go_wp2
        go_meet
        exact ⟨_, _, rfl, rfl, ⟨hVB2.out, hVU.out, Nat.ne_of_lt hVBz⟩, Nat.le_refl _, hzB, (Below.undrew hBB).trans (hBU.mono hzB)⟩
      · go_wp2
        go_meet
        exact ⟨_, _, rfl, rfl, ⟨hVB.out, hVU2.out, fun e => Nat.ne_of_lt hVUz e.symm⟩, hzU, Nat.le_refl _, (Below.undrew hBU).trans (hBB.mono hzU)⟩
    case rest =>
      obtain ⟨VB, VU, rfl, rfl, hV, hVB, hVU, hbc⟩ := hcut
      have hzz : wz = w2 := hWz.out
      subst hzz
      have hzc := hbc.size
      obtain ⟨M, hM⟩ : ∃ M, M = wc.heap.size := ⟨_, rfl⟩
      have hSep : Sep B Q M VB VU w0.heap.size := ⟨⟨by omega, by omega, by have := hV.b.lt; omega, by have := hV.u.lt; omega⟩, ⟨by omega, by omega, by omega, by omega, hV.ne⟩, ⟨S2.out.hB, S2.out.hQ, by have := S2.out.bel.size; omega, by have := S2.out.bel.size; omega, by have := S2.out.bel.size; omega⟩⟩
      have D0 := Lib.hid (show FN (wc.alloc (.cells MeterS.zero.cells 35)) B Q M VB VU n1 (TabS.new g) MeterS.zero (fun _ => false) (fun _ => 0) (hashH n1 G) g E w0 from
        ⟨((S2.out.later hbc).alloc _).meter (by rw [hM]; exact Blk.new _ _ _) (by omega) (by omega) (by have := S2.out.bel.size; omega), hV.later ((Below.refl _ _).alloc (Nat.le_refl _) _), TFun.new HR.out _, TCnt.new _ _ HR.out, TSay.new, rfl⟩)
      simp only [MeterS.cells, MeterS.zero] at D0
      have HSP := Lib.hid hSep
      clear hV hVB hVU hbc hzc hlB hlQ hz1 hz2 hb1 hb2 hB hQ NW AL S2 hWz hSep
      go_wp2
      rw [← hM]
      clear hM
      go_loopw [62] (fun v62 wr => ∃ (k : Nat) (T : TabS) (mt : MeterS) (th : Nat → Bool) (va : Nat → Int), k ≤ n2 ∧ v62 = .int .i64 (k : Int) ∧ FN wr B Q M VB VU n1 T mt th va (hashH n1 G) g E w0) (fun v62 _ => n2 - (intOf v62).toNat)
      case atStart => exact ⟨0, _, _, _, _, Nat.zero_le _, rfl, D0.out⟩
      case round =>
        clear D0
        obtain ⟨k, T, mt, th, va, hk, rfl, hD⟩ := hrel
        have KD := Lib.hid hD
        clear hD
        by_cases hlt : k < n2
        · obtain ⟨b, off, rfl, hbz, hcells⟩ := HX2.out (by omega)
          have a0 : wr.cell? ⟨b, off + k * 3, none⟩ = some (.int .i64 (f2 k 0)) := by simpa using hcells wr KD.out.s.bel k hlt 0 (by decide)
          have a1 : wr.cell? ⟨b, off + k * 3 + 1, none⟩ = some (.int .i64 (f2 k 1)) := by simpa [Nat.add_assoc] using hcells wr KD.out.s.bel k hlt 1 (by decide)
          have a2 : wr.cell? ⟨b, off + k * 3 + 2, none⟩ = some (.int .i64 (f2 k 2)) := by simpa [Nat.add_assoc] using hcells wr KD.out.s.bel k hlt 2 (by decide)
          have hltI : (k : Int) < (n2 : Int) := by omega
          clear hcells
          generalize f2 k 0 = q at a0
          generalize f2 k 1 = ky at a1
          generalize f2 k 2 = vN at a2
          have hx := keyI_lt ky n1 (by omega)
          have KE := Lib.hid (fun (w' : World) (hw : Below w0.heap.size w0 w') => keyEntry_any b1 o1 n1 cap1 (by omega) (by omega) (fun i => (G i : Int)) q ky vN w' (Nat.lt_of_lt_of_le hb1z hw.size) (HC.out w' hw))
          generalize keyI ky n1 = x at *
          generalize valI vN = vv at *
          have hGx := HG.out x hx
          obtain ⟨h, hh⟩ : ∃ h, h = G x := ⟨_, rfl⟩
          rw [← hh] at KE hGx
          have HH := Lib.hid (hh.trans (hashH_in hx).symm)
          clear hh
          obtain ⟨yB, yQ, yM, yVB, yVU⟩ : B < wr.heap.size ∧ Q < wr.heap.size ∧ M < wr.heap.size ∧ VB < wr.heap.size ∧ VU < wr.heap.size := ⟨KD.out.s.ltB, KD.out.s.ltQ, (KD.out.s.m M rfl).lt, KD.out.v.b.lt, KD.out.v.u.lt⟩
          have LF := Lib.hid (fun (w' : World) (mt' : MeterS) (hs : TMW w' B Q (some M) T mt' E w0) => TMW.left hs)
          obtain ⟨left, hlf⟩ : ∃ left, left = T.left := ⟨_, rfl⟩
          rw [← hlf] at LF
          have HLF := Lib.hid hlf
          have HLB := Lib.hid (show -1100 ≤ left ∧ left ≤ 448 by rw [hlf]; have := KD.out.s.good.bounds; unfold TabS.left; omega)
          have RS := Lib.hid (fun (w' : World) hm => meterReset_any mt M 35 w' hm)
          clear hlf
          go_upto_block 2 with (first
            | (go_at_call 9; refine (KE.out _ (KD.out.s.bel.trans ((Below.refl _ _).alloc KD.out.s.bel.size _))).mono ?_; rintro e w1 ⟨rfl, hb1⟩; have A1 := (Blk.new wr 37 #[.int .i64 q, .int .i64 ky, .int .i64 vN]).below hb1 (by simp); have E1 := Lib.hid (Blk.new w1 40 #[.int .u64 (x : Int), .int .u64 vv, .int .u64 (h : Int)]); have zz1 := hb1.size; have D1 := Lib.hid (((KD.out.alloc _).later hb1).alloc (.cells #[.int .u64 (x : Int), .int .u64 vv, .int .u64 (h : Int)] 40)); have A1' := Lib.hid (A1.alloc (.cells #[.int .u64 (x : Int), .int .u64 vv, .int .u64 (h : Int)] 40)); clear KD A1)
            | (go_at_call 10; refine (LF.out _ _ D1.out.s).mono ?_; rintro e w2 ⟨rfl, hb2⟩; have D2 := Lib.hid (D1.out.later hb2); have A2 := Lib.hid (A1'.out.below hb2 A1'.out.lt); have E2 := Lib.hid (E1.out.below hb2 E1.out.lt); have zz2 := hb2.size; clear D1 A1' E1)
            | (go_at_call 11; refine (RS.out _ (D2.out.s.m M rfl)).mono ?_; rintro e w3 ⟨rfl, hm3, hc3⟩; have HM3 := Lib.hid hm3; have HC3 := Lib.hid hc3; have a30 := (A2.out.chg hc3 (show ¬ wr.heap.size = M by omega)).cell 0; have za30 := (A2.out.chg hc3 (show ¬ wr.heap.size = M by omega)).lt; clear hm3 hc3))
          obtain ⟨A, hA⟩ : ∃ A, A = wr.heap.size := ⟨_, rfl⟩
          obtain ⟨X, hX⟩ : ∃ X, X = w1.heap.size := ⟨_, rfl⟩
          have hSp := HSP.out
          have zA := A2.out.lt
          have zX := E2.out.lt
          have hne : A ≠ M ∧ X ≠ M ∧ A ≠ B ∧ A ≠ Q ∧ A ≠ VB ∧ A ≠ VU ∧ X ≠ B ∧ X ≠ Q ∧ X ≠ VB ∧ X ≠ VU := by
            simp only [World.size_alloc] at zz1
            omega
          have hcM : Chg (fun b => some M = some b) w2 w3 := HC3.out.mono (fun i _ e => by rw [e])
          have D3 := Lib.hid (D2.out.turn hSp (D2.out.s.turn (fun M' e => by cases e; exact HM3.out) hcM) hcM)
          have A3 := Lib.hid (show Blk w3 A 37 #[.int .i64 q, .int .i64 ky, .int .i64 vN] by rw [hA]; exact A2.out.chg HC3.out (by rw [← hA]; exact hne.1))
          have E3 := Lib.hid (show Blk w3 X 40 #[.int .u64 (x : Int), .int .u64 vv, .int .u64 (h : Int)] by rw [hX]; exact E2.out.chg HC3.out (by rw [← hX]; exact hne.2.1))
          rw [← hA, ← hX]
          clear hA hX hSp zA zX zz1 zz2 D2 A2 E2 HM3 HC3 hcM a0 a1 a2 a30 za30
          obtain ⟨mt0, hmt0⟩ : ∃ mt0 : MeterS, mt0 = { mt with l0 := 0, l1 := 0, l2 := 0 } := ⟨_, rfl⟩
          rw [← hmt0] at D3
          have HM0 : Hid (mt0.l0 = 0) := Lib.hid (by rw [hmt0])
          obtain ⟨hAM, hXM, hAB, hAQ, hAVB, hAVU, hXB, hXQ, hXVB, hXVU⟩ := hne
          obtain ⟨c0, c1, c2⟩ := cells3 A3.out
          obtain ⟨e0, e1, e2⟩ := cells3 E3.out
          have zA := A3.out.lt
          have zX := E3.out.lt
          clear hmt0 LF RS KE
          go_cut [] (fun wx => ∃ (T' : TabS) (th' : Nat → Bool) (va' : Nat → Int) (mt' : MeterS), FN wx B Q M VB VU n1 T' mt' th' va' (hashH n1 G) g E w0 ∧ Blk wx A 37 #[.int .i64 q, .int .i64 ky, .int .i64 vN] ∧ mt'.l0 ≤ g ∧ (q ≠ 1 → T'.left ≤ T.left + 1))
          case first =>
            by_cases q0 : q = 0
            · subst q0
              as_aux_lemma =>
                have hpB := D3.out.f.putB (x : Int)
                have hpN := D3.out.f.putN (x : Int)
                have hth := (D3.out.y x hx).1
                rw [← HH.out] at hpB hpN hth
                have PU := Lib.hid (fun (w' : World) (hs : TMW w' B Q (some M) T mt0 E w0) => TMW.put hs (x : Int) vv h hGx _ (LensAt.m M) 1 0 0)
                have hxI : (x : Int) < (n1 : Int) := by omega
                have hlk := looks_le D3.out.s.good (x : Int) h
                have HL0 : Hid ((addN mt0 1 0 0 (T.looks (x : Int) h)).l0 ≤ g) := Lib.hid (by rw [probe_l0 mt0 HM0.out _ (by have := D3.out.g; omega)]; have := D3.out.g; omega)
                have hok : T.ok (x : Int) h = (T.has (x : Int) h || decide (1 ≤ T.left)) := rfl
                have hdl : decide (left > 0) = decide (1 ≤ T.left) := by rw [HLF.out, Bool.eq_iff_iff, decide_eq_true_iff, decide_eq_true_iff]; omega
                rw [hpB, hpN, hok] at PU
                have HOK := Lib.hid hok
                cases hh : T.has (x : Int) h with
                | true =>
                  rw [hh] at PU hth
                  simp only [Bool.not_true, Bool.false_and, Bool.true_or, if_true, errN_0] at PU
                  have HOR : Hid ((T.has (x : Int) h || decide (1 ≤ T.left)) = true) := Lib.hid (by rw [hh]; rfl)
                  have sVV : ¬ VB = VU := HSP.out.b.2.2.2.2
                  have sVV' : ¬ VU = VB := fun e => sVV e.symm
                  cases hd : decide (1 ≤ T.left) with
                  | true =>
                    rw [hd] at hdl
                    clear hpB hpN hok hh hd
                    have NP := Lib.hid (fun (w' : World) => probing_any (some ⟨M, 0, none⟩) w')
                    go_wp2
                    refine wp_region_seq (fun b => some M = some b ∨ b = B ∨ b = Q) #[⟨0, 0, 302231454903657293676544, 128, 0⟩, ⟨0, 0, 604462909807314587353088, 2048, 0⟩, ⟨2, 2, 1208925819614629174706176, 604462909807314587353088, 2⟩, ⟨0, 0, 2417851639229258349412352, 16384, 1⟩, ⟨13, 15, 4835703278458516698824704, 3929008913747544817795072, 3⟩, ⟨16, 31, 151115727451828646838272, 4835703278458516698824704, 0⟩, ⟨32, 63, 9671406556917033397649408, 151115727451828646838272, 0⟩, ⟨32, 63, 19342813113834066795298816, 151115727451828646838272, 0⟩, ⟨127, 127, 65536, 9671406556917033397649408, 0⟩, ⟨511, 511, 131072, 19342813113834066795298816, 0⟩] 8 [(0, 0), (1, 0), (3, 1), (2, 2), (4, 3), (5, 0), (6, 0), (7, 0), (8, 0), (9, 0)] (by kernel_rfl) (by kernel_rfl) (by kernel_rfl) (by kernel_rfl) (by kernel_rfl) (by kernel_rfl) (fun c a d v w h => by cases d <;> exact h) ?_
                    refine seq_calc (by simp only [List.getElem?_toArray, List.getElem?_cons_succ, List.getElem?_cons_zero]; rfl) (by rfl) (fun u => by go_simp <;> with_reducible rfl) ?_
                    try simp only [Act.put, List.setIfInBounds_toArray, List.set_cons_zero, List.set_cons_succ]
                    refine seq_calc (by simp only [List.getElem?_toArray, List.getElem?_cons_succ, List.getElem?_cons_zero]; rfl) (by rfl) (fun u => by go_simp <;> with_reducible rfl) ?_
                    try simp only [Act.put, List.setIfInBounds_toArray, List.set_cons_zero, List.set_cons_succ]
                    refine seq_loads [_, _, _] (by simp only [List.getElem?_toArray, List.getElem?_cons_succ, List.getElem?_cons_zero]; rfl) (by rfl) rfl rfl Tryd.underlying40 rfl (by kernel_rfl) (by first | (with_reducible assumption) | (refine cellsAre_range ?_; simp only [cellsAre]; (repeat' (first | exact True.intro | apply And.intro)); all_goals (go_simp <;> with_reducible rfl))) (by first | exact id | assumption | (simp; done) | (simp; omega)) ?_
                    try simp only [Act.put, List.setIfInBounds_toArray, List.set_cons_zero, List.set_cons_succ]
                    refine seq_do (by simp only [List.getElem?_toArray, List.getElem?_cons_succ, List.getElem?_cons_zero]; rfl) (by rfl) (fun K hK => ?_); go_wp2_with (first | (go_at_call 13; refine (NP.out _).mono ?_; rintro e w4 ⟨rfl, hb4⟩; have D4 := Lib.hid (D3.out.drew.later hb4); have A4 := Lib.hid (A3.out.drew.below hb4 A3.out.lt); have E4 := Lib.hid (E3.out.drew.below hb4 E3.out.lt); obtain ⟨e40, e41, e42⟩ := cells3 E4.out; have zE4 := E4.out.lt) | (go_at_call 12; refine (PU.out _ D4.out.s).mono ?_; rintro e w5 ⟨rfl, hs5, hc5⟩; have S5 := Lib.hid hs5; have V5 := Lib.hid (D4.out.v.chg hc5 (by have := HSP.out; rintro (e | e | e); exact this.m.2.2.1 (Option.some.inj e); exact this.b.1 e; exact this.b.2.1 e) (by have := HSP.out; rintro (e | e | e); exact this.m.2.2.2 (Option.some.inj e); exact this.b.2.2.1 e; exact this.b.2.2.2.1 e)); have A5 := Lib.hid (A4.out.chg hc5 (by rintro (e | e | e); exact hAM (Option.some.inj e).symm; exact hAB e; exact hAQ e)); have E5 := Lib.hid (E4.out.chg hc5 (by rintro (e | e | e); exact hXM (Option.some.inj e).symm; exact hXB e; exact hXQ e)); obtain ⟨e50, e51, e52⟩ := cells3 E5.out; have zE5 := E5.out.lt; obtain ⟨v50, v51⟩ := V5.out.cells hx; have zVB5 := V5.out.b.lt; have zVU5 := V5.out.u.lt; have vf50 := V5.out.b.frozen x; have vf51 := V5.out.u.frozen x; clear hs5)); refine hK.out _ _ (by first | (with_reducible exact Chg.refl _ _) | (with_reducible assumption) | (refine Chg.of_below ?_; with_reducible assumption) | (with_reducible exact (Chg.refl _ _).alloc _) | (with_reducible exact (Chg.refl _ _).drewN _) | (with_reducible exact (Chg.refl _ _).drew) | exact ⟨rfl, rfl, rfl, Nat.le_refl _, fun _ _ _ => rfl⟩ | exact (Chg.refl _ _).setCell (.inl (.inl rfl)) _ | exact (Chg.refl _ _).setCell (.inl (.inr rfl)) _ | exact Chg.drew (Chg.setCell ⟨rfl, rfl, rfl, Nat.le_refl _, fun _ _ _ => rfl⟩ (.inl (.inl rfl)) _) | exact Chg.drew (Chg.setCell ⟨rfl, rfl, rfl, Nat.le_refl _, fun _ _ _ => rfl⟩ (.inl (.inr rfl)) _)) ?_; clear hK K
                    try simp only [Act.put, List.setIfInBounds_toArray, List.set_cons_zero, List.set_cons_succ]
                    refine seq_last (by simp only [List.getElem?_toArray, List.getElem?_cons_succ, List.getElem?_cons_zero]; rfl) (by rfl) (fun K hK => ?_); go_wp2_with (first | (go_at_call 13; refine (NP.out _).mono ?_; rintro e w4 ⟨rfl, hb4⟩; have D4 := Lib.hid (D3.out.drew.later hb4); have A4 := Lib.hid (A3.out.drew.below hb4 A3.out.lt); have E4 := Lib.hid (E3.out.drew.below hb4 E3.out.lt); obtain ⟨e40, e41, e42⟩ := cells3 E4.out; have zE4 := E4.out.lt) | (go_at_call 12; refine (PU.out _ D4.out.s).mono ?_; rintro e w5 ⟨rfl, hs5, hc5⟩; have S5 := Lib.hid hs5; have V5 := Lib.hid (D4.out.v.chg hc5 (by have := HSP.out; rintro (e | e | e); exact this.m.2.2.1 (Option.some.inj e); exact this.b.1 e; exact this.b.2.1 e) (by have := HSP.out; rintro (e | e | e); exact this.m.2.2.2 (Option.some.inj e); exact this.b.2.2.1 e; exact this.b.2.2.2.1 e)); have A5 := Lib.hid (A4.out.chg hc5 (by rintro (e | e | e); exact hAM (Option.some.inj e).symm; exact hAB e; exact hAQ e)); have E5 := Lib.hid (E4.out.chg hc5 (by rintro (e | e | e); exact hXM (Option.some.inj e).symm; exact hXB e; exact hXQ e)); obtain ⟨e50, e51, e52⟩ := cells3 E5.out; have zE5 := E5.out.lt; obtain ⟨v50, v51⟩ := V5.out.cells hx; have zVB5 := V5.out.b.lt; have zVU5 := V5.out.u.lt; have vf50 := V5.out.b.frozen x; have vf51 := V5.out.u.frozen x; clear hs5)); refine hK.out _ _ ?_; clear hK K
                    try simp only [Act.put, List.setIfInBounds_toArray, List.set_cons_zero, List.set_cons_succ]
                    refine seq_calc (by simp only [List.getElem?_toArray, List.getElem?_cons_succ, List.getElem?_cons_zero]; rfl) (by rfl) (fun u => by go_simp <;> with_reducible rfl) ?_
                    try simp only [Act.put, List.setIfInBounds_toArray, List.set_cons_zero, List.set_cons_succ]
                    refine seq_calc (by simp only [List.getElem?_toArray, List.getElem?_cons_succ, List.getElem?_cons_zero]; rfl) (by rfl) (fun u => by go_simp <;> with_reducible rfl) ?_
                    try simp only [Act.put, List.setIfInBounds_toArray, List.set_cons_zero, List.set_cons_succ]
                    refine seq_calc (by simp only [List.getElem?_toArray, List.getElem?_cons_succ, List.getElem?_cons_zero]; rfl) (by rfl) (fun u => by go_simp <;> with_reducible rfl) ?_
                    try simp only [Act.put, List.setIfInBounds_toArray, List.set_cons_zero, List.set_cons_succ]
                    refine seq_calc (by simp only [List.getElem?_toArray, List.getElem?_cons_succ, List.getElem?_cons_zero]; rfl) (by rfl) (fun u => by go_simp <;> with_reducible rfl) ?_
                    try simp only [Act.put, List.setIfInBounds_toArray, List.set_cons_zero, List.set_cons_succ]
                    refine seq_calc (by simp only [List.getElem?_toArray, List.getElem?_cons_succ, List.getElem?_cons_zero]; rfl) (by rfl) (fun u => by go_simp <;> with_reducible rfl) ?_
                    try simp only [Act.put, List.setIfInBounds_toArray, List.set_cons_zero, List.set_cons_succ]
                    refine seq_nil ?_
                    go_wp2
                    refine wp_region_seq (fun _ => False) #[⟨0, 0, 38685626227668133590597632, 65536, 0⟩, ⟨0, 0, 77371252455336267181195264, 512, 0⟩, ⟨0, 0, 154742504910672534362390528, 16384, 0⟩, ⟨4, 4, 309485009821345068724781056, 154742504910672534362390528, 1⟩, ⟨10, 14, 618970019642690137449562112, 386856262276681335905976320, 0⟩, ⟨16, 30, 1237940039285380274899124224, 618970019642690137449562112, 1⟩, ⟨32, 62, 2475880078570760549798248448, 1237940039285380274899124224, 0⟩, ⟨64, 126, 4951760157141521099596496896, 2475880078570760549798248448, 0⟩, ⟨128, 254, 9903520314283042199192993792, 4951760157141521099596529664, 0⟩, ⟨384, 510, 19807040628566084398385987584, 14855280471424563298789490688, 0⟩, ⟨640, 1022, 39614081257132168796771975168, 24758800785707605497982484480, 0⟩, ⟨1025, 2047, 79228162514264337593543950336, 39652766883359836930362572800, 0⟩, ⟨2176, 4095, 158456325028528675187087900672, 79228162514264337593543950336, 0⟩, ⟨4096, 8191, 316912650057057350374175801344, 158456325028528675187088031744, 0⟩, ⟨12288, 16383, 633825300114114700748351602688, 475368975085586025561263702016, 0⟩, ⟨4096, 8191, 1267650600228229401496703205376, 158456325028528675187087901184, 0⟩, ⟨4096, 8191, 2535301200456458802993406410752, 158456325028528675187087917056, 0⟩, ⟨69632, 73727, 5070602400912917605986812821504, 2693757525484987478180494311424, 1⟩, ⟨167936, 237567, 10141204801825835211973625643008, 6496709326169675682670603927552, 0⟩, ⟨266240, 499711, 20282409603651670423947251286016, 10299661126854363887160713543680, 1⟩, ⟨528384, 1023999, 40564819207303340847894502572032, 20440865928680199099134339186688, 0⟩, ⟨1048576, 2072575, 81129638414606681695789005144064, 40564819207303340847894502604800, 0⟩, ⟨3145728, 4169727, 162259276829213363391578010288128, 121694457621910022543683507716096, 0⟩, ⟨5246976, 8364031, 324518553658426726783156020576256, 202982552361545232914659600760832, 0⟩, ⟨8409088, 16777215, 649037107316853453566312041152512, 325310835283569370159091460079616, 0⟩, ⟨16781312, 33554431, 1298074214633706907132624082305024, 649195563641881982241499129053184, 0⟩] 655400 [(0, 0), (1, 0), (2, 0), (3, 1), (4, 0), (5, 1), (6, 0), (7, 0), (8, 0), (9, 0), (10, 0), (11, 0), (12, 0), (13, 0), (14, 0), (15, 0), (16, 0), (17, 1), (18, 0), (19, 1), (20, 0), (21, 0), (22, 0), (23, 0), (24, 0), (25, 0)] (by kernel_rfl) (by kernel_rfl) (by kernel_rfl) (by kernel_rfl) (by kernel_rfl) (by kernel_rfl) (fun c a d v w h => by cases d <;> exact h) ?_
                    refine seq_calc (by simp only [List.getElem?_toArray, List.getElem?_cons_succ, List.getElem?_cons_zero]; rfl) (by rfl) (fun u => by go_simp <;> with_reducible rfl) ?_
                    try simp only [Act.put, List.setIfInBounds_toArray, List.set_cons_zero, List.set_cons_succ]
                    refine seq_calc (by simp only [List.getElem?_toArray, List.getElem?_cons_succ, List.getElem?_cons_zero]; rfl) (by rfl) (fun u => by go_simp <;> with_reducible rfl) ?_
                    try simp only [Act.put, List.setIfInBounds_toArray, List.set_cons_zero, List.set_cons_succ]
                    refine seq_calc (by simp only [List.getElem?_toArray, List.getElem?_cons_succ, List.getElem?_cons_zero]; rfl) (by rfl) (fun u => by go_simp <;> with_reducible rfl) ?_
                    try simp only [Act.put, List.setIfInBounds_toArray, List.set_cons_zero, List.set_cons_succ]
                    refine seq_load1 (by simp only [List.getElem?_toArray, List.getElem?_cons_succ, List.getElem?_cons_zero]; rfl) (by rfl) rfl rfl Tryd.underlying38 rfl (by go_simp <;> with_reducible rfl) (by first | exact id | assumption | (simp; done) | (simp; omega)) ?_
                    try simp only [Act.put, List.setIfInBounds_toArray, List.set_cons_zero, List.set_cons_succ]
                    refine seq_calc (by simp only [List.getElem?_toArray, List.getElem?_cons_succ, List.getElem?_cons_zero]; rfl) (by rfl) (fun u => by go_simp <;> with_reducible rfl) ?_
                    try simp only [Act.put, List.setIfInBounds_toArray, List.set_cons_zero, List.set_cons_succ]
                    refine seq_load1 (by simp only [List.getElem?_toArray, List.getElem?_cons_succ, List.getElem?_cons_zero]; rfl) (by rfl) rfl rfl Tryd.underlying4 rfl (by go_simp <;> with_reducible rfl) (by first | exact id | assumption | (simp; done) | (simp; omega)) ?_
                    try simp only [Act.put, List.setIfInBounds_toArray, List.set_cons_zero, List.set_cons_succ]
                    refine seq_calc (by simp only [List.getElem?_toArray, List.getElem?_cons_succ, List.getElem?_cons_zero]; rfl) (by rfl) (fun u => by go_simp <;> with_reducible rfl) ?_
                    try simp only [Act.put, List.setIfInBounds_toArray, List.set_cons_zero, List.set_cons_succ]
                    refine seq_calc (by simp only [List.getElem?_toArray, List.getElem?_cons_succ, List.getElem?_cons_zero]; rfl) (by rfl) (fun u => by go_simp <;> with_reducible rfl) ?_
                    try simp only [Act.put, List.setIfInBounds_toArray, List.set_cons_zero, List.set_cons_succ]
                    first
                      | (refine seq_skip (by simp only [List.getElem?_toArray, List.getElem?_cons_succ, List.getElem?_cons_zero]; rfl) (by rfl) ?_)
                      | (refine seq_calc (by simp only [List.getElem?_toArray, List.getElem?_cons_succ, List.getElem?_cons_zero]; rfl) (by rfl) (fun u => by go_simp <;> with_reducible rfl) ?_)
                    try simp only [Act.put, List.setIfInBounds_toArray, List.set_cons_zero, List.set_cons_succ]
                    first
                      | (refine seq_skip (by simp only [List.getElem?_toArray, List.getElem?_cons_succ, List.getElem?_cons_zero]; rfl) (by rfl) ?_)
                      | (refine seq_calc (by simp only [List.getElem?_toArray, List.getElem?_cons_succ, List.getElem?_cons_zero]; rfl) (by rfl) (fun u => by go_simp <;> with_reducible rfl) ?_)
                    try simp only [Act.put, List.setIfInBounds_toArray, List.set_cons_zero, List.set_cons_succ]
                    refine seq_calc (by simp only [List.getElem?_toArray, List.getElem?_cons_succ, List.getElem?_cons_zero]; rfl) (by rfl) (fun u => by go_simp <;> with_reducible rfl) ?_
                    try simp only [Act.put, List.setIfInBounds_toArray, List.set_cons_zero, List.set_cons_succ]
                    refine seq_calc (by simp only [List.getElem?_toArray, List.getElem?_cons_succ, List.getElem?_cons_zero]; rfl) (by rfl) (fun u => by go_simp <;> with_reducible rfl) ?_
                    try simp only [Act.put, List.setIfInBounds_toArray, List.set_cons_zero, List.set_cons_succ]
                    refine seq_calc (by simp only [List.getElem?_toArray, List.getElem?_cons_succ, List.getElem?_cons_zero]; rfl) (by rfl) (fun u => by go_simp <;> with_reducible rfl) ?_
                    try simp only [Act.put, List.setIfInBounds_toArray, List.set_cons_zero, List.set_cons_succ]
                    first
                      | (refine seq_skip (by simp only [List.getElem?_toArray, List.getElem?_cons_succ, List.getElem?_cons_zero]; rfl) (by rfl) ?_)
                      | (refine seq_calc (by simp only [List.getElem?_toArray, List.getElem?_cons_succ, List.getElem?_cons_zero]; rfl) (by rfl) (fun u => by go_simp <;> with_reducible rfl) ?_)
                    try simp only [Act.put, List.setIfInBounds_toArray, List.set_cons_zero, List.set_cons_succ]
                    first
                      | (refine seq_skip (by simp only [List.getElem?_toArray, List.getElem?_cons_succ, List.getElem?_cons_zero]; rfl) (by rfl) ?_)
                      | (refine seq_calc (by simp only [List.getElem?_toArray, List.getElem?_cons_succ, List.getElem?_cons_zero]; rfl) (by rfl) (fun u => by go_simp <;> with_reducible rfl) ?_)
                    try simp only [Act.put, List.setIfInBounds_toArray, List.set_cons_zero, List.set_cons_succ]
                    first
                      | (refine seq_skip (by simp only [List.getElem?_toArray, List.getElem?_cons_succ, List.getElem?_cons_zero]; rfl) (by rfl) ?_)
                      | (refine seq_calc (by simp only [List.getElem?_toArray, List.getElem?_cons_succ, List.getElem?_cons_zero]; rfl) (by rfl) (fun u => by go_simp <;> with_reducible rfl) ?_)
                    try simp only [Act.put, List.setIfInBounds_toArray, List.set_cons_zero, List.set_cons_succ]
                    first
                      | (refine seq_skip (by simp only [List.getElem?_toArray, List.getElem?_cons_succ, List.getElem?_cons_zero]; rfl) (by rfl) ?_)
                      | (refine seq_calc (by simp only [List.getElem?_toArray, List.getElem?_cons_succ, List.getElem?_cons_zero]; rfl) (by rfl) (fun u => by go_simp <;> with_reducible rfl) ?_)
                    try simp only [Act.put, List.setIfInBounds_toArray, List.set_cons_zero, List.set_cons_succ]
                    first
                      | (refine seq_skip (by simp only [List.getElem?_toArray, List.getElem?_cons_succ, List.getElem?_cons_zero]; rfl) (by rfl) ?_)
                      | (refine seq_load1 (by simp only [List.getElem?_toArray, List.getElem?_cons_succ, List.getElem?_cons_zero]; rfl) (by rfl) rfl rfl Tryd.underlying38 rfl (by go_simp <;> with_reducible rfl) (by first | exact id | assumption | (simp; done) | (simp; omega)) ?_)
                    try simp only [Act.put, List.setIfInBounds_toArray, List.set_cons_zero, List.set_cons_succ]
                    first
                      | (refine seq_skip (by simp only [List.getElem?_toArray, List.getElem?_cons_succ, List.getElem?_cons_zero]; rfl) (by rfl) ?_)
                      | (refine seq_calc (by simp only [List.getElem?_toArray, List.getElem?_cons_succ, List.getElem?_cons_zero]; rfl) (by rfl) (fun u => by go_simp <;> with_reducible rfl) ?_)
                    try simp only [Act.put, List.setIfInBounds_toArray, List.set_cons_zero, List.set_cons_succ]
                    first
                      | (refine seq_skip (by simp only [List.getElem?_toArray, List.getElem?_cons_succ, List.getElem?_cons_zero]; rfl) (by rfl) ?_)
                      | (refine seq_load1 (by simp only [List.getElem?_toArray, List.getElem?_cons_succ, List.getElem?_cons_zero]; rfl) (by rfl) rfl rfl Tryd.underlying4 rfl (by go_simp <;> with_reducible rfl) (by first | exact id | assumption | (simp; done) | (simp; omega)) ?_)
                    try simp only [Act.put, List.setIfInBounds_toArray, List.set_cons_zero, List.set_cons_succ]
                    first
                      | (refine seq_skip (by simp only [List.getElem?_toArray, List.getElem?_cons_succ, List.getElem?_cons_zero]; rfl) (by rfl) ?_)
                      | (refine seq_calc (by simp only [List.getElem?_toArray, List.getElem?_cons_succ, List.getElem?_cons_zero]; rfl) (by rfl) (fun u => by go_simp <;> with_reducible rfl) ?_)
                    try simp only [Act.put, List.setIfInBounds_toArray, List.set_cons_zero, List.set_cons_succ]
                    first
                      | (refine seq_skip (by simp only [List.getElem?_toArray, List.getElem?_cons_succ, List.getElem?_cons_zero]; rfl) (by rfl) ?_)
                      | (refine seq_calc (by simp only [List.getElem?_toArray, List.getElem?_cons_succ, List.getElem?_cons_zero]; rfl) (by rfl) (fun u => by go_simp <;> with_reducible rfl) ?_)
                    try simp only [Act.put, List.setIfInBounds_toArray, List.set_cons_zero, List.set_cons_succ]
                    first
                      | (refine seq_skip (by simp only [List.getElem?_toArray, List.getElem?_cons_succ, List.getElem?_cons_zero]; rfl) (by rfl) ?_)
                      | (refine seq_calc (by simp only [List.getElem?_toArray, List.getElem?_cons_succ, List.getElem?_cons_zero]; rfl) (by rfl) (fun u => by go_simp <;> with_reducible rfl) ?_)
                    try simp only [Act.put, List.setIfInBounds_toArray, List.set_cons_zero, List.set_cons_succ]
                    first
                      | (refine seq_skip (by simp only [List.getElem?_toArray, List.getElem?_cons_succ, List.getElem?_cons_zero]; rfl) (by rfl) ?_)
                      | (refine seq_calc (by simp only [List.getElem?_toArray, List.getElem?_cons_succ, List.getElem?_cons_zero]; rfl) (by rfl) (fun u => by go_simp <;> with_reducible rfl) ?_)
                    try simp only [Act.put, List.setIfInBounds_toArray, List.set_cons_zero, List.set_cons_succ]
                    first
                      | (refine seq_skip (by simp only [List.getElem?_toArray, List.getElem?_cons_succ, List.getElem?_cons_zero]; rfl) (by rfl) ?_)
                      | (refine seq_calc (by simp only [List.getElem?_toArray, List.getElem?_cons_succ, List.getElem?_cons_zero]; rfl) (by rfl) (fun u => by go_simp <;> with_reducible rfl) ?_)
                    try simp only [Act.put, List.setIfInBounds_toArray, List.set_cons_zero, List.set_cons_succ]
                    refine seq_calc (by simp only [List.getElem?_toArray, List.getElem?_cons_succ, List.getElem?_cons_zero]; rfl) (by rfl) (fun u => by go_simp <;> with_reducible rfl) ?_
                    try simp only [Act.put, List.setIfInBounds_toArray, List.set_cons_zero, List.set_cons_succ]
                    refine seq_nil ?_
                    go_wp2
                    refine wp_region_seq (fun b => b = VB ∨ b = VU) #[⟨0, 0, 10384593717069655257060992658440192, 512, 0⟩, ⟨0, 0, 20769187434139310514121985316880384, 16384, 0⟩, ⟨2, 2, 41538374868278621028243970633760768, 20769187434139310514121985316880384, 1⟩, ⟨0, 0, 83076749736557242056487941267521536, 1024, 0⟩, ⟨0, 0, 166153499473114484112975882535043072, 16384, 0⟩, ⟨16, 16, 332306998946228968225951765070086144, 166153499473114484112975882535043072, 1⟩, ⟨0, 0, 664613997892457936451903530140172288, 16384, 0⟩, ⟨64, 64, 1329227995784915872903807060280344576, 664613997892457936451903530140172288, 1⟩, ⟨7, 7, 2658455991569831745807614120560689152, 51922968585348276285304963292200960, 0⟩, ⟨263, 263, 0, 2658455991569831745807614120560689152, 2⟩, ⟨1023, 1023, 5316911983139663491615228241121378304, 415383748682786210282439706337607680, 0⟩, ⟨2047, 2047, 0, 6646139978924579364519035301401722880, 3⟩] 164 [(0, 0), (1, 0), (2, 1), (3, 0), (4, 0), (5, 1), (6, 0), (7, 1), (8, 0), (9, 2), (10, 0), (11, 3)] (by kernel_rfl) (by kernel_rfl) (by kernel_rfl) (by kernel_rfl) (by kernel_rfl) (by kernel_rfl) (fun c a d v w h => by cases d <;> exact h) ?_
                    refine seq_calc (by simp only [List.getElem?_toArray, List.getElem?_cons_succ, List.getElem?_cons_zero]; rfl) (by rfl) (fun u => by go_simp <;> with_reducible rfl) ?_
                    try simp only [Act.put, List.setIfInBounds_toArray, List.set_cons_zero, List.set_cons_succ]
                    refine seq_calc (by simp only [List.getElem?_toArray, List.getElem?_cons_succ, List.getElem?_cons_zero]; rfl) (by rfl) (fun u => by go_simp <;> with_reducible rfl) ?_
                    try simp only [Act.put, List.setIfInBounds_toArray, List.set_cons_zero, List.set_cons_succ]
                    refine seq_load1 (by simp only [List.getElem?_toArray, List.getElem?_cons_succ, List.getElem?_cons_zero]; rfl) (by rfl) rfl rfl Tryd.underlying38 rfl (by go_simp <;> with_reducible rfl) (by first | exact id | assumption | (simp; done) | (simp; omega)) ?_
                    try simp only [Act.put, List.setIfInBounds_toArray, List.set_cons_zero, List.set_cons_succ]
                    refine seq_calc (by simp only [List.getElem?_toArray, List.getElem?_cons_succ, List.getElem?_cons_zero]; rfl) (by rfl) (fun u => by go_simp <;> with_reducible rfl) ?_
                    try simp only [Act.put, List.setIfInBounds_toArray, List.set_cons_zero, List.set_cons_succ]
                    refine seq_calc (by simp only [List.getElem?_toArray, List.getElem?_cons_succ, List.getElem?_cons_zero]; rfl) (by rfl) (fun u => by go_simp <;> with_reducible rfl) ?_
                    try simp only [Act.put, List.setIfInBounds_toArray, List.set_cons_zero, List.set_cons_succ]
                    refine seq_load1 (by simp only [List.getElem?_toArray, List.getElem?_cons_succ, List.getElem?_cons_zero]; rfl) (by rfl) rfl rfl Tryd.underlying38 rfl (by go_simp <;> with_reducible rfl) (by first | exact id | assumption | (simp; done) | (simp; omega)) ?_
                    try simp only [Act.put, List.setIfInBounds_toArray, List.set_cons_zero, List.set_cons_succ]
                    refine seq_calc (by simp only [List.getElem?_toArray, List.getElem?_cons_succ, List.getElem?_cons_zero]; rfl) (by rfl) (fun u => by go_simp <;> with_reducible rfl) ?_
                    try simp only [Act.put, List.setIfInBounds_toArray, List.set_cons_zero, List.set_cons_succ]
                    refine seq_load1 (by simp only [List.getElem?_toArray, List.getElem?_cons_succ, List.getElem?_cons_zero]; rfl) (by rfl) rfl rfl Tryd.underlying38 rfl (by go_simp <;> with_reducible rfl) (by first | exact id | assumption | (simp; done) | (simp; omega)) ?_
                    try simp only [Act.put, List.setIfInBounds_toArray, List.set_cons_zero, List.set_cons_succ]
                    refine seq_calc (by simp only [List.getElem?_toArray, List.getElem?_cons_succ, List.getElem?_cons_zero]; rfl) (by rfl) (fun u => by go_simp <;> with_reducible rfl) ?_
                    try simp only [Act.put, List.setIfInBounds_toArray, List.set_cons_zero, List.set_cons_succ]
                    refine seq_do (by simp only [List.getElem?_toArray, List.getElem?_cons_succ, List.getElem?_cons_zero]; rfl) (by rfl) (fun K hK => ?_); go_wp2_with (fail); refine hK.out _ _ (by first | (with_reducible exact Chg.refl _ _) | (with_reducible assumption) | (refine Chg.of_below ?_; with_reducible assumption) | (with_reducible exact (Chg.refl _ _).alloc _) | (with_reducible exact (Chg.refl _ _).drewN _) | (with_reducible exact (Chg.refl _ _).drew) | exact ⟨rfl, rfl, rfl, Nat.le_refl _, fun _ _ _ => rfl⟩ | exact (Chg.refl _ _).setCell (.inl (.inl rfl)) _ | exact (Chg.refl _ _).setCell (.inl (.inr rfl)) _ | exact Chg.drew (Chg.setCell ⟨rfl, rfl, rfl, Nat.le_refl _, fun _ _ _ => rfl⟩ (.inl (.inl rfl)) _) | exact Chg.drew (Chg.setCell ⟨rfl, rfl, rfl, Nat.le_refl _, fun _ _ _ => rfl⟩ (.inl (.inr rfl)) _)) ?_; clear hK K
                    try simp only [Act.put, List.setIfInBounds_toArray, List.set_cons_zero, List.set_cons_succ]
                    refine seq_calc (by simp only [List.getElem?_toArray, List.getElem?_cons_succ, List.getElem?_cons_zero]; rfl) (by rfl) (fun u => by go_simp <;> with_reducible rfl) ?_
                    try simp only [Act.put, List.setIfInBounds_toArray, List.set_cons_zero, List.set_cons_succ]
                    refine seq_last (by simp only [List.getElem?_toArray, List.getElem?_cons_succ, List.getElem?_cons_zero]; rfl) (by rfl) (fun K hK => ?_); go_wp2_with (fail); refine hK.out _ _ ?_; clear hK K
                    try simp only [Act.put, List.setIfInBounds_toArray, List.set_cons_zero, List.set_cons_succ]
                    refine seq_nil ?_
                    go_wp2
                    go_meet
                    have hSp := HSP.out
                    have hC : Chg (fun b => b = VB ∨ b = VU) w5 (((w5.setCell ⟨VB, x, none⟩ (.bool true)).setCell ⟨VU, x, none⟩ (.int .u64 vv)).drew.drew) := (((Chg.refl _ _).setCell (.inl (.inl rfl)) _).setCell (.inl (.inr rfl)) _).drew.drew
                    have hV9 := (V5.out.setB hx true).setU hx vv
                    have hGH : hashH n1 G x < 18446744073709551616 := by rw [← HH.out]; exact hGx
                    refine ⟨T.putT x vv h, upd th x true, upd va x vv, _, ⟨S5.out.chg hC ?_ ?_ ?_ ?_, ⟨hV9.b, hV9.u, hV9.ne⟩, ?_, ?_, ?_, ?_⟩, A5.out.chg hC ?_, HL0.out, fun _ => ?_⟩
                    · rintro b (rfl | rfl); exact hSp.o.2.2.2.1; exact hSp.o.2.2.2.2
                    · rintro (e | e); exact hSp.b.1 e.symm; exact hSp.b.2.2.1 e.symm
                    · rintro (e | e); exact hSp.b.2.1 e.symm; exact hSp.b.2.2.2.1 e.symm
                    · rintro b e (rfl | rfl); exact hSp.m.2.2.1 (Option.some.inj e); exact hSp.m.2.2.2 (Option.some.inj e)
                    · rw [HH.out]; exact D3.out.f.putT x vv hGH
                    · rw [HH.out]; exact D3.out.c.put D3.out.f hx vv hGH
                    · rw [HH.out]; exact D3.out.y.put D3.out.f hx vv hGH (by rw [← HH.out, HOK.out, HOR.out])
                    · rw [putT_n]; exact D3.out.g
                    · rintro (e | e); exact hAVB e; exact hAVU e
                    · rw [HH.out]; exact (D3.out.f.put_lv x vv).2
                  | false =>
                    rw [hd] at hdl
                    clear hpB hpN hok hh hd
                    have NP := Lib.hid (fun (w' : World) => probing_any (some ⟨M, 0, none⟩) w')
                    go_wp2
                    refine wp_region_seq (fun b => some M = some b ∨ b = B ∨ b = Q) #[⟨0, 0, 302231454903657293676544, 128, 0⟩, ⟨0, 0, 604462909807314587353088, 2048, 0⟩, ⟨2, 2, 1208925819614629174706176, 604462909807314587353088, 2⟩, ⟨0, 0, 2417851639229258349412352, 16384, 1⟩, ⟨13, 15, 4835703278458516698824704, 3929008913747544817795072, 3⟩, ⟨16, 31, 151115727451828646838272, 4835703278458516698824704, 0⟩, ⟨32, 63, 9671406556917033397649408, 151115727451828646838272, 0⟩, ⟨32, 63, 19342813113834066795298816, 151115727451828646838272, 0⟩, ⟨127, 127, 65536, 9671406556917033397649408, 0⟩, ⟨511, 511, 131072, 19342813113834066795298816, 0⟩] 8 [(0, 0), (1, 0), (3, 1), (2, 2), (4, 3), (5, 0), (6, 0), (7, 0), (8, 0), (9, 0)] (by kernel_rfl) (by kernel_rfl) (by kernel_rfl) (by kernel_rfl) (by kernel_rfl) (by kernel_rfl) (fun c a d v w h => by cases d <;> exact h) ?_
                    refine seq_calc (by simp only [List.getElem?_toArray, List.getElem?_cons_succ, List.getElem?_cons_zero]; rfl) (by rfl) (fun u => by go_simp <;> with_reducible rfl) ?_
                    try simp only [Act.put, List.setIfInBounds_toArray, List.set_cons_zero, List.set_cons_succ]
                    refine seq_calc (by simp only [List.getElem?_toArray, List.getElem?_cons_succ, List.getElem?_cons_zero]; rfl) (by rfl) (fun u => by go_simp <;> with_reducible rfl) ?_
                    try simp only [Act.put, List.setIfInBounds_toArray, List.set_cons_zero, List.set_cons_succ]
                    refine seq_loads [_, _, _] (by simp only [List.getElem?_toArray, List.getElem?_cons_succ, List.getElem?_cons_zero]; rfl) (by rfl) rfl rfl Tryd.underlying40 rfl (by kernel_rfl) (by first | (with_reducible assumption) | (refine cellsAre_range ?_; simp only [cellsAre]; (repeat' (first | exact True.intro | apply And.intro)); all_goals (go_simp <;> with_reducible rfl))) (by first | exact id | assumption | (simp; done) | (simp; omega)) ?_
                    try simp only [Act.put, List.setIfInBounds_toArray, List.set_cons_zero, List.set_cons_succ]
                    refine seq_do (by simp only [List.getElem?_toArray, List.getElem?_cons_succ, List.getElem?_cons_zero]; rfl) (by rfl) (fun K hK => ?_); go_wp2_with (first | (go_at_call 13; refine (NP.out _).mono ?_; rintro e w4 ⟨rfl, hb4⟩; have D4 := Lib.hid (D3.out.drew.later hb4); have A4 := Lib.hid (A3.out.drew.below hb4 A3.out.lt); have E4 := Lib.hid (E3.out.drew.below hb4 E3.out.lt); obtain ⟨e40, e41, e42⟩ := cells3 E4.out; have zE4 := E4.out.lt) | (go_at_call 12; refine (PU.out _ D4.out.s).mono ?_; rintro e w5 ⟨rfl, hs5, hc5⟩; have S5 := Lib.hid hs5; have V5 := Lib.hid (D4.out.v.chg hc5 (by have := HSP.out; rintro (e | e | e); exact this.m.2.2.1 (Option.some.inj e); exact this.b.1 e; exact this.b.2.1 e) (by have := HSP.out; rintro (e | e | e); exact this.m.2.2.2 (Option.some.inj e); exact this.b.2.2.1 e; exact this.b.2.2.2.1 e)); have A5 := Lib.hid (A4.out.chg hc5 (by rintro (e | e | e); exact hAM (Option.some.inj e).symm; exact hAB e; exact hAQ e)); have E5 := Lib.hid (E4.out.chg hc5 (by rintro (e | e | e); exact hXM (Option.some.inj e).symm; exact hXB e; exact hXQ e)); obtain ⟨e50, e51, e52⟩ := cells3 E5.out; have zE5 := E5.out.lt; obtain ⟨v50, v51⟩ := V5.out.cells hx; have zVB5 := V5.out.b.lt; have zVU5 := V5.out.u.lt; have vf50 := V5.out.b.frozen x; have vf51 := V5.out.u.frozen x; clear hs5)); refine hK.out _ _ (by first | (with_reducible exact Chg.refl _ _) | (with_reducible assumption) | (refine Chg.of_below ?_; with_reducible assumption) | (with_reducible exact (Chg.refl _ _).alloc _) | (with_reducible exact (Chg.refl _ _).drewN _) | (with_reducible exact (Chg.refl _ _).drew) | exact ⟨rfl, rfl, rfl, Nat.le_refl _, fun _ _ _ => rfl⟩ | exact (Chg.refl _ _).setCell (.inl (.inl rfl)) _ | exact (Chg.refl _ _).setCell (.inl (.inr rfl)) _ | exact Chg.drew (Chg.setCell ⟨rfl, rfl, rfl, Nat.le_refl _, fun _ _ _ => rfl⟩ (.inl (.inl rfl)) _) | exact Chg.drew (Chg.setCell ⟨rfl, rfl, rfl, Nat.le_refl _, fun _ _ _ => rfl⟩ (.inl (.inr rfl)) _)) ?_; clear hK K
                    try simp only [Act.put, List.setIfInBounds_toArray, List.set_cons_zero, List.set_cons_succ]
                    refine seq_last (by simp only [List.getElem?_toArray, List.getElem?_cons_succ, List.getElem?_cons_zero]; rfl) (by rfl) (fun K hK => ?_); go_wp2_with (first | (go_at_call 13; refine (NP.out _).mono ?_; rintro e w4 ⟨rfl, hb4⟩; have D4 := Lib.hid (D3.out.drew.later hb4); have A4 := Lib.hid (A3.out.drew.below hb4 A3.out.lt); have E4 := Lib.hid (E3.out.drew.below hb4 E3.out.lt); obtain ⟨e40, e41, e42⟩ := cells3 E4.out; have zE4 := E4.out.lt) | (go_at_call 12; refine (PU.out _ D4.out.s).mono ?_; rintro e w5 ⟨rfl, hs5, hc5⟩; have S5 := Lib.hid hs5; have V5 := Lib.hid (D4.out.v.chg hc5 (by have := HSP.out; rintro (e | e | e); exact this.m.2.2.1 (Option.some.inj e); exact this.b.1 e; exact this.b.2.1 e) (by have := HSP.out; rintro (e | e | e); exact this.m.2.2.2 (Option.some.inj e); exact this.b.2.2.1 e; exact this.b.2.2.2.1 e)); have A5 := Lib.hid (A4.out.chg hc5 (by rintro (e | e | e); exact hAM (Option.some.inj e).symm; exact hAB e; exact hAQ e)); have E5 := Lib.hid (E4.out.chg hc5 (by rintro (e | e | e); exact hXM (Option.some.inj e).symm; exact hXB e; exact hXQ e)); obtain ⟨e50, e51, e52⟩ := cells3 E5.out; have zE5 := E5.out.lt; obtain ⟨v50, v51⟩ := V5.out.cells hx; have zVB5 := V5.out.b.lt; have zVU5 := V5.out.u.lt; have vf50 := V5.out.b.frozen x; have vf51 := V5.out.u.frozen x; clear hs5)); refine hK.out _ _ ?_; clear hK K
                    try simp only [Act.put, List.setIfInBounds_toArray, List.set_cons_zero, List.set_cons_succ]
                    refine seq_calc (by simp only [List.getElem?_toArray, List.getElem?_cons_succ, List.getElem?_cons_zero]; rfl) (by rfl) (fun u => by go_simp <;> with_reducible rfl) ?_
                    try simp only [Act.put, List.setIfInBounds_toArray, List.set_cons_zero, List.set_cons_succ]
                    refine seq_calc (by simp only [List.getElem?_toArray, List.getElem?_cons_succ, List.getElem?_cons_zero]; rfl) (by rfl) (fun u => by go_simp <;> with_reducible rfl) ?_
                    try simp only [Act.put, List.setIfInBounds_toArray, List.set_cons_zero, List.set_cons_succ]
                    refine seq_calc (by simp only [List.getElem?_toArray, List.getElem?_cons_succ, List.getElem?_cons_zero]; rfl) (by rfl) (fun u => by go_simp <;> with_reducible rfl) ?_
                    try simp only [Act.put, List.setIfInBounds_toArray, List.set_cons_zero, List.set_cons_succ]
                    refine seq_calc (by simp only [List.getElem?_toArray, List.getElem?_cons_succ, List.getElem?_cons_zero]; rfl) (by rfl) (fun u => by go_simp <;> with_reducible rfl) ?_
                    try simp only [Act.put, List.setIfInBounds_toArray, List.set_cons_zero, List.set_cons_succ]
                    refine seq_calc (by simp only [List.getElem?_toArray, List.getElem?_cons_succ, List.getElem?_cons_zero]; rfl) (by rfl) (fun u => by go_simp <;> with_reducible rfl) ?_
                    try simp only [Act.put, List.setIfInBounds_toArray, List.set_cons_zero, List.set_cons_succ]
                    refine seq_nil ?_
                    go_wp2
                    refine wp_region_seq (fun _ => False) #[⟨0, 0, 38685626227668133590597632, 65536, 0⟩, ⟨0, 0, 77371252455336267181195264, 512, 0⟩, ⟨0, 0, 154742504910672534362390528, 16384, 0⟩, ⟨4, 4, 309485009821345068724781056, 154742504910672534362390528, 1⟩, ⟨10, 14, 618970019642690137449562112, 386856262276681335905976320, 0⟩, ⟨16, 30, 1237940039285380274899124224, 618970019642690137449562112, 1⟩, ⟨32, 62, 2475880078570760549798248448, 1237940039285380274899124224, 0⟩, ⟨64, 126, 4951760157141521099596496896, 2475880078570760549798248448, 0⟩, ⟨128, 254, 9903520314283042199192993792, 4951760157141521099596529664, 0⟩, ⟨384, 510, 19807040628566084398385987584, 14855280471424563298789490688, 0⟩, ⟨640, 1022, 39614081257132168796771975168, 24758800785707605497982484480, 0⟩, ⟨1025, 2047, 79228162514264337593543950336, 39652766883359836930362572800, 0⟩, ⟨2176, 4095, 158456325028528675187087900672, 79228162514264337593543950336, 0⟩, ⟨4096, 8191, 316912650057057350374175801344, 158456325028528675187088031744, 0⟩, ⟨12288, 16383, 633825300114114700748351602688, 475368975085586025561263702016, 0⟩, ⟨4096, 8191, 1267650600228229401496703205376, 158456325028528675187087901184, 0⟩, ⟨4096, 8191, 2535301200456458802993406410752, 158456325028528675187087917056, 0⟩, ⟨69632, 73727, 5070602400912917605986812821504, 2693757525484987478180494311424, 1⟩, ⟨167936, 237567, 10141204801825835211973625643008, 6496709326169675682670603927552, 0⟩, ⟨266240, 499711, 20282409603651670423947251286016, 10299661126854363887160713543680, 1⟩, ⟨528384, 1023999, 40564819207303340847894502572032, 20440865928680199099134339186688, 0⟩, ⟨1048576, 2072575, 81129638414606681695789005144064, 40564819207303340847894502604800, 0⟩, ⟨3145728, 4169727, 162259276829213363391578010288128, 121694457621910022543683507716096, 0⟩, ⟨5246976, 8364031, 324518553658426726783156020576256, 202982552361545232914659600760832, 0⟩, ⟨8409088, 16777215, 649037107316853453566312041152512, 325310835283569370159091460079616, 0⟩, ⟨16781312, 33554431, 1298074214633706907132624082305024, 649195563641881982241499129053184, 0⟩] 655400 [(0, 0), (1, 0), (2, 0), (3, 1), (4, 0), (5, 1), (6, 0), (7, 0), (8, 0), (9, 0), (10, 0), (11, 0), (12, 0), (13, 0), (14, 0), (15, 0), (16, 0), (17, 1), (18, 0), (19, 1), (20, 0), (21, 0), (22, 0), (23, 0), (24, 0), (25, 0)] (by kernel_rfl) (by kernel_rfl) (by kernel_rfl) (by kernel_rfl) (by kernel_rfl) (by kernel_rfl) (fun c a d v w h => by cases d <;> exact h) ?_
                    refine seq_calc (by simp only [List.getElem?_toArray, List.getElem?_cons_succ, List.getElem?_cons_zero]; rfl) (by rfl) (fun u => by go_simp <;> with_reducible rfl) ?_
                    try simp only [Act.put, List.setIfInBounds_toArray, List.set_cons_zero, List.set_cons_succ]
                    refine seq_calc (by simp only [List.getElem?_toArray, List.getElem?_cons_succ, List.getElem?_cons_zero]; rfl) (by rfl) (fun u => by go_simp <;> with_reducible rfl) ?_
                    try simp only [Act.put, List.setIfInBounds_toArray, List.set_cons_zero, List.set_cons_succ]
                    refine seq_calc (by simp only [List.getElem?_toArray, List.getElem?_cons_succ, List.getElem?_cons_zero]; rfl) (by rfl) (fun u => by go_simp <;> with_reducible rfl) ?_
                    try simp only [Act.put, List.setIfInBounds_toArray, List.set_cons_zero, List.set_cons_succ]
                    refine seq_load1 (by simp only [List.getElem?_toArray, List.getElem?_cons_succ, List.getElem?_cons_zero]; rfl) (by rfl) rfl rfl Tryd.underlying38 rfl (by go_simp <;> with_reducible rfl) (by first | exact id | assumption | (simp; done) | (simp; omega)) ?_
                    try simp only [Act.put, List.setIfInBounds_toArray, List.set_cons_zero, List.set_cons_succ]
                    refine seq_calc (by simp only [List.getElem?_toArray, List.getElem?_cons_succ, List.getElem?_cons_zero]; rfl) (by rfl) (fun u => by go_simp <;> with_reducible rfl) ?_
                    try simp only [Act.put, List.setIfInBounds_toArray, List.set_cons_zero, List.set_cons_succ]
                    refine seq_load1 (by simp only [List.getElem?_toArray, List.getElem?_cons_succ, List.getElem?_cons_zero]; rfl) (by rfl) rfl rfl Tryd.underlying4 rfl (by go_simp <;> with_reducible rfl) (by first | exact id | assumption | (simp; done) | (simp; omega)) ?_
                    try simp only [Act.put, List.setIfInBounds_toArray, List.set_cons_zero, List.set_cons_succ]
                    refine seq_calc (by simp only [List.getElem?_toArray, List.getElem?_cons_succ, List.getElem?_cons_zero]; rfl) (by rfl) (fun u => by go_simp <;> with_reducible rfl) ?_
                    try simp only [Act.put, List.setIfInBounds_toArray, List.set_cons_zero, List.set_cons_succ]
                    refine seq_calc (by simp only [List.getElem?_toArray, List.getElem?_cons_succ, List.getElem?_cons_zero]; rfl) (by rfl) (fun u => by go_simp <;> with_reducible rfl) ?_
                    try simp only [Act.put, List.setIfInBounds_toArray, List.set_cons_zero, List.set_cons_succ]
                    first
                      | (refine seq_skip (by simp only [List.getElem?_toArray, List.getElem?_cons_succ, List.getElem?_cons_zero]; rfl) (by rfl) ?_)
                      | (refine seq_calc (by simp only [List.getElem?_toArray, List.getElem?_cons_succ, List.getElem?_cons_zero]; rfl) (by rfl) (fun u => by go_simp <;> with_reducible rfl) ?_)
                    try simp only [Act.put, List.setIfInBounds_toArray, List.set_cons_zero, List.set_cons_succ]
                    first
                      | (refine seq_skip (by simp only [List.getElem?_toArray, List.getElem?_cons_succ, List.getElem?_cons_zero]; rfl) (by rfl) ?_)
                      | (refine seq_calc (by simp only [List.getElem?_toArray, List.getElem?_cons_succ, List.getElem?_cons_zero]; rfl) (by rfl) (fun u => by go_simp <;> with_reducible rfl) ?_)
                    try simp only [Act.put, List.setIfInBounds_toArray, List.set_cons_zero, List.set_cons_succ]
                    refine seq_calc (by simp only [List.getElem?_toArray, List.getElem?_cons_succ, List.getElem?_cons_zero]; rfl) (by rfl) (fun u => by go_simp <;> with_reducible rfl) ?_
                    try simp only [Act.put, List.setIfInBounds_toArray, List.set_cons_zero, List.set_cons_succ]
                    refine seq_calc (by simp only [List.getElem?_toArray, List.getElem?_cons_succ, List.getElem?_cons_zero]; rfl) (by rfl) (fun u => by go_simp <;> with_reducible rfl) ?_
                    try simp only [Act.put, List.setIfInBounds_toArray, List.set_cons_zero, List.set_cons_succ]
                    refine seq_calc (by simp only [List.getElem?_toArray, List.getElem?_cons_succ, List.getElem?_cons_zero]; rfl) (by rfl) (fun u => by go_simp <;> with_reducible rfl) ?_
                    try simp only [Act.put, List.setIfInBounds_toArray, List.set_cons_zero, List.set_cons_succ]
                    first
                      | (refine seq_skip (by simp only [List.getElem?_toArray, List.getElem?_cons_succ, List.getElem?_cons_zero]; rfl) (by rfl) ?_)
                      | (refine seq_calc (by simp only [List.getElem?_toArray, List.getElem?_cons_succ, List.getElem?_cons_zero]; rfl) (by rfl) (fun u => by go_simp <;> with_reducible rfl) ?_)
                    try simp only [Act.put, List.setIfInBounds_toArray, List.set_cons_zero, List.set_cons_succ]
                    first
                      | (refine seq_skip (by simp only [List.getElem?_toArray, List.getElem?_cons_succ, List.getElem?_cons_zero]; rfl) (by rfl) ?_)
                      | (refine seq_calc (by simp only [List.getElem?_toArray, List.getElem?_cons_succ, List.getElem?_cons_zero]; rfl) (by rfl) (fun u => by go_simp <;> with_reducible rfl) ?_)
                    try simp only [Act.put, List.setIfInBounds_toArray, List.set_cons_zero, List.set_cons_succ]
                    first
                      | (refine seq_skip (by simp only [List.getElem?_toArray, List.getElem?_cons_succ, List.getElem?_cons_zero]; rfl) (by rfl) ?_)
                      | (refine seq_calc (by simp only [List.getElem?_toArray, List.getElem?_cons_succ, List.getElem?_cons_zero]; rfl) (by rfl) (fun u => by go_simp <;> with_reducible rfl) ?_)
                    try simp only [Act.put, List.setIfInBounds_toArray, List.set_cons_zero, List.set_cons_succ]
                    first
                      | (refine seq_skip (by simp only [List.getElem?_toArray, List.getElem?_cons_succ, List.getElem?_cons_zero]; rfl) (by rfl) ?_)
                      | (refine seq_calc (by simp only [List.getElem?_toArray, List.getElem?_cons_succ, List.getElem?_cons_zero]; rfl) (by rfl) (fun u => by go_simp <;> with_reducible rfl) ?_)
                    try simp only [Act.put, List.setIfInBounds_toArray, List.set_cons_zero, List.set_cons_succ]
                    first
                      | (refine seq_skip (by simp only [List.getElem?_toArray, List.getElem?_cons_succ, List.getElem?_cons_zero]; rfl) (by rfl) ?_)
                      | (refine seq_load1 (by simp only [List.getElem?_toArray, List.getElem?_cons_succ, List.getElem?_cons_zero]; rfl) (by rfl) rfl rfl Tryd.underlying38 rfl (by go_simp <;> with_reducible rfl) (by first | exact id | assumption | (simp; done) | (simp; omega)) ?_)
                    try simp only [Act.put, List.setIfInBounds_toArray, List.set_cons_zero, List.set_cons_succ]
                    first
                      | (refine seq_skip (by simp only [List.getElem?_toArray, List.getElem?_cons_succ, List.getElem?_cons_zero]; rfl) (by rfl) ?_)
                      | (refine seq_calc (by simp only [List.getElem?_toArray, List.getElem?_cons_succ, List.getElem?_cons_zero]; rfl) (by rfl) (fun u => by go_simp <;> with_reducible rfl) ?_)
                    try simp only [Act.put, List.setIfInBounds_toArray, List.set_cons_zero, List.set_cons_succ]
                    first
                      | (refine seq_skip (by simp only [List.getElem?_toArray, List.getElem?_cons_succ, List.getElem?_cons_zero]; rfl) (by rfl) ?_)
                      | (refine seq_load1 (by simp only [List.getElem?_toArray, List.getElem?_cons_succ, List.getElem?_cons_zero]; rfl) (by rfl) rfl rfl Tryd.underlying4 rfl (by go_simp <;> with_reducible rfl) (by first | exact id | assumption | (simp; done) | (simp; omega)) ?_)
                    try simp only [Act.put, List.setIfInBounds_toArray, List.set_cons_zero, List.set_cons_succ]
                    first
                      | (refine seq_skip (by simp only [List.getElem?_toArray, List.getElem?_cons_succ, List.getElem?_cons_zero]; rfl) (by rfl) ?_)
                      | (refine seq_calc (by simp only [List.getElem?_toArray, List.getElem?_cons_succ, List.getElem?_cons_zero]; rfl) (by rfl) (fun u => by go_simp <;> with_reducible rfl) ?_)
                    try simp only [Act.put, List.setIfInBounds_toArray, List.set_cons_zero, List.set_cons_succ]
                    first
                      | (refine seq_skip (by simp only [List.getElem?_toArray, List.getElem?_cons_succ, List.getElem?_cons_zero]; rfl) (by rfl) ?_)
                      | (refine seq_calc (by simp only [List.getElem?_toArray, List.getElem?_cons_succ, List.getElem?_cons_zero]; rfl) (by rfl) (fun u => by go_simp <;> with_reducible rfl) ?_)
                    try simp only [Act.put, List.setIfInBounds_toArray, List.set_cons_zero, List.set_cons_succ]
                    first
                      | (refine seq_skip (by simp only [List.getElem?_toArray, List.getElem?_cons_succ, List.getElem?_cons_zero]; rfl) (by rfl) ?_)
                      | (refine seq_calc (by simp only [List.getElem?_toArray, List.getElem?_cons_succ, List.getElem?_cons_zero]; rfl) (by rfl) (fun u => by go_simp <;> with_reducible rfl) ?_)
                    try simp only [Act.put, List.setIfInBounds_toArray, List.set_cons_zero, List.set_cons_succ]
                    first
                      | (refine seq_skip (by simp only [List.getElem?_toArray, List.getElem?_cons_succ, List.getElem?_cons_zero]; rfl) (by rfl) ?_)
                      | (refine seq_calc (by simp only [List.getElem?_toArray, List.getElem?_cons_succ, List.getElem?_cons_zero]; rfl) (by rfl) (fun u => by go_simp <;> with_reducible rfl) ?_)
                    try simp only [Act.put, List.setIfInBounds_toArray, List.set_cons_zero, List.set_cons_succ]
                    first
                      | (refine seq_skip (by simp only [List.getElem?_toArray, List.getElem?_cons_succ, List.getElem?_cons_zero]; rfl) (by rfl) ?_)
                      | (refine seq_calc (by simp only [List.getElem?_toArray, List.getElem?_cons_succ, List.getElem?_cons_zero]; rfl) (by rfl) (fun u => by go_simp <;> with_reducible rfl) ?_)
                    try simp only [Act.put, List.setIfInBounds_toArray, List.set_cons_zero, List.set_cons_succ]
                    refine seq_calc (by simp only [List.getElem?_toArray, List.getElem?_cons_succ, List.getElem?_cons_zero]; rfl) (by rfl) (fun u => by go_simp <;> with_reducible rfl) ?_
                    try simp only [Act.put, List.setIfInBounds_toArray, List.set_cons_zero, List.set_cons_succ]
                    refine seq_nil ?_
                    go_wp2
                    refine wp_region_seq (fun b => b = VB ∨ b = VU) #[⟨0, 0, 10384593717069655257060992658440192, 512, 0⟩, ⟨0, 0, 20769187434139310514121985316880384, 16384, 0⟩, ⟨2, 2, 41538374868278621028243970633760768, 20769187434139310514121985316880384, 1⟩, ⟨0, 0, 83076749736557242056487941267521536, 1024, 0⟩, ⟨0, 0, 166153499473114484112975882535043072, 16384, 0⟩, ⟨16, 16, 332306998946228968225951765070086144, 166153499473114484112975882535043072, 1⟩, ⟨0, 0, 664613997892457936451903530140172288, 16384, 0⟩, ⟨64, 64, 1329227995784915872903807060280344576, 664613997892457936451903530140172288, 1⟩, ⟨7, 7, 2658455991569831745807614120560689152, 51922968585348276285304963292200960, 0⟩, ⟨263, 263, 0, 2658455991569831745807614120560689152, 2⟩, ⟨1023, 1023, 5316911983139663491615228241121378304, 415383748682786210282439706337607680, 0⟩, ⟨2047, 2047, 0, 6646139978924579364519035301401722880, 3⟩] 164 [(0, 0), (1, 0), (2, 1), (3, 0), (4, 0), (5, 1), (6, 0), (7, 1), (8, 0), (9, 2), (10, 0), (11, 3)] (by kernel_rfl) (by kernel_rfl) (by kernel_rfl) (by kernel_rfl) (by kernel_rfl) (by kernel_rfl) (fun c a d v w h => by cases d <;> exact h) ?_
                    refine seq_calc (by simp only [List.getElem?_toArray, List.getElem?_cons_succ, List.getElem?_cons_zero]; rfl) (by rfl) (fun u => by go_simp <;> with_reducible rfl) ?_
                    try simp only [Act.put, List.setIfInBounds_toArray, List.set_cons_zero, List.set_cons_succ]
                    refine seq_calc (by simp only [List.getElem?_toArray, List.getElem?_cons_succ, List.getElem?_cons_zero]; rfl) (by rfl) (fun u => by go_simp <;> with_reducible rfl) ?_
                    try simp only [Act.put, List.setIfInBounds_toArray, List.set_cons_zero, List.set_cons_succ]
                    refine seq_load1 (by simp only [List.getElem?_toArray, List.getElem?_cons_succ, List.getElem?_cons_zero]; rfl) (by rfl) rfl rfl Tryd.underlying38 rfl (by go_simp <;> with_reducible rfl) (by first | exact id | assumption | (simp; done) | (simp; omega)) ?_
                    try simp only [Act.put, List.setIfInBounds_toArray, List.set_cons_zero, List.set_cons_succ]
                    refine seq_calc (by simp only [List.getElem?_toArray, List.getElem?_cons_succ, List.getElem?_cons_zero]; rfl) (by rfl) (fun u => by go_simp <;> with_reducible rfl) ?_
                    try simp only [Act.put, List.setIfInBounds_toArray, List.set_cons_zero, List.set_cons_succ]
                    refine seq_calc (by simp only [List.getElem?_toArray, List.getElem?_cons_succ, List.getElem?_cons_zero]; rfl) (by rfl) (fun u => by go_simp <;> with_reducible rfl) ?_
                    try simp only [Act.put, List.setIfInBounds_toArray, List.set_cons_zero, List.set_cons_succ]
                    refine seq_load1 (by simp only [List.getElem?_toArray, List.getElem?_cons_succ, List.getElem?_cons_zero]; rfl) (by rfl) rfl rfl Tryd.underlying38 rfl (by go_simp <;> with_reducible rfl) (by first | exact id | assumption | (simp; done) | (simp; omega)) ?_
                    try simp only [Act.put, List.setIfInBounds_toArray, List.set_cons_zero, List.set_cons_succ]
                    refine seq_calc (by simp only [List.getElem?_toArray, List.getElem?_cons_succ, List.getElem?_cons_zero]; rfl) (by rfl) (fun u => by go_simp <;> with_reducible rfl) ?_
                    try simp only [Act.put, List.setIfInBounds_toArray, List.set_cons_zero, List.set_cons_succ]
                    refine seq_load1 (by simp only [List.getElem?_toArray, List.getElem?_cons_succ, List.getElem?_cons_zero]; rfl) (by rfl) rfl rfl Tryd.underlying38 rfl (by go_simp <;> with_reducible rfl) (by first | exact id | assumption | (simp; done) | (simp; omega)) ?_
                    try simp only [Act.put, List.setIfInBounds_toArray, List.set_cons_zero, List.set_cons_succ]
                    refine seq_calc (by simp only [List.getElem?_toArray, List.getElem?_cons_succ, List.getElem?_cons_zero]; rfl) (by rfl) (fun u => by go_simp <;> with_reducible rfl) ?_
                    try simp only [Act.put, List.setIfInBounds_toArray, List.set_cons_zero, List.set_cons_succ]
                    refine seq_do (by simp only [List.getElem?_toArray, List.getElem?_cons_succ, List.getElem?_cons_zero]; rfl) (by rfl) (fun K hK => ?_); go_wp2_with (fail); refine hK.out _ _ (by first | (with_reducible exact Chg.refl _ _) | (with_reducible assumption) | (refine Chg.of_below ?_; with_reducible assumption) | (with_reducible exact (Chg.refl _ _).alloc _) | (with_reducible exact (Chg.refl _ _).drewN _) | (with_reducible exact (Chg.refl _ _).drew) | exact ⟨rfl, rfl, rfl, Nat.le_refl _, fun _ _ _ => rfl⟩ | exact (Chg.refl _ _).setCell (.inl (.inl rfl)) _ | exact (Chg.refl _ _).setCell (.inl (.inr rfl)) _ | exact Chg.drew (Chg.setCell ⟨rfl, rfl, rfl, Nat.le_refl _, fun _ _ _ => rfl⟩ (.inl (.inl rfl)) _) | exact Chg.drew (Chg.setCell ⟨rfl, rfl, rfl, Nat.le_refl _, fun _ _ _ => rfl⟩ (.inl (.inr rfl)) _)) ?_; clear hK K
                    try simp only [Act.put, List.setIfInBounds_toArray, List.set_cons_zero, List.set_cons_succ]
                    refine seq_calc (by simp only [List.getElem?_toArray, List.getElem?_cons_succ, List.getElem?_cons_zero]; rfl) (by rfl) (fun u => by go_simp <;> with_reducible rfl) ?_
                    try simp only [Act.put, List.setIfInBounds_toArray, List.set_cons_zero, List.set_cons_succ]
                    refine seq_last (by simp only [List.getElem?_toArray, List.getElem?_cons_succ, List.getElem?_cons_zero]; rfl) (by rfl) (fun K hK => ?_); go_wp2_with (fail); refine hK.out _ _ ?_; clear hK K
                    try simp only [Act.put, List.setIfInBounds_toArray, List.set_cons_zero, List.set_cons_succ]
                    refine seq_nil ?_
                    go_wp2
                    go_meet
                    have hSp := HSP.out
                    have hC : Chg (fun b => b = VB ∨ b = VU) w5 (((w5.setCell ⟨VB, x, none⟩ (.bool true)).setCell ⟨VU, x, none⟩ (.int .u64 vv)).drew.drew) := (((Chg.refl _ _).setCell (.inl (.inl rfl)) _).setCell (.inl (.inr rfl)) _).drew.drew
                    have hV9 := (V5.out.setB hx true).setU hx vv
                    have hGH : hashH n1 G x < 18446744073709551616 := by rw [← HH.out]; exact hGx
                    refine ⟨T.putT x vv h, upd th x true, upd va x vv, _, ⟨S5.out.chg hC ?_ ?_ ?_ ?_, ⟨hV9.b, hV9.u, hV9.ne⟩, ?_, ?_, ?_, ?_⟩, A5.out.chg hC ?_, HL0.out, fun _ => ?_⟩
                    · rintro b (rfl | rfl); exact hSp.o.2.2.2.1; exact hSp.o.2.2.2.2
                    · rintro (e | e); exact hSp.b.1 e.symm; exact hSp.b.2.2.1 e.symm
                    · rintro (e | e); exact hSp.b.2.1 e.symm; exact hSp.b.2.2.2.1 e.symm
                    · rintro b e (rfl | rfl); exact hSp.m.2.2.1 (Option.some.inj e); exact hSp.m.2.2.2 (Option.some.inj e)
                    · rw [HH.out]; exact D3.out.f.putT x vv hGH
                    · rw [HH.out]; exact D3.out.c.put D3.out.f hx vv hGH
                    · rw [HH.out]; exact D3.out.y.put D3.out.f hx vv hGH (by rw [← HH.out, HOK.out, HOR.out])
                    · rw [putT_n]; exact D3.out.g
                    · rintro (e | e); exact hAVB e; exact hAVU e
                    · rw [HH.out]; exact (D3.out.f.put_lv x vv).2
                | false =>
                  rw [hh] at PU hth
                  simp only [Bool.not_false, Bool.true_and, Bool.false_or] at PU
                  have sVV : ¬ VB = VU := HSP.out.b.2.2.2.2
                  have sVV' : ¬ VU = VB := fun e => sVV e.symm
                  cases hd : decide (1 ≤ T.left) with
                  | true =>
                    have HOR : Hid ((T.has (x : Int) h || decide (1 ≤ T.left)) = true) := Lib.hid (by rw [hd, Bool.or_true])
                    rw [hd] at hdl PU
                    simp only [if_true, errN_0] at PU
                    clear hpB hpN hok hh hd
                    have NP := Lib.hid (fun (w' : World) => probing_any (some ⟨M, 0, none⟩) w')
                    go_wp2
                    refine wp_region_seq (fun b => some M = some b ∨ b = B ∨ b = Q) #[⟨0, 0, 302231454903657293676544, 128, 0⟩, ⟨0, 0, 604462909807314587353088, 2048, 0⟩, ⟨2, 2, 1208925819614629174706176, 604462909807314587353088, 2⟩, ⟨0, 0, 2417851639229258349412352, 16384, 1⟩, ⟨13, 15, 4835703278458516698824704, 3929008913747544817795072, 3⟩, ⟨16, 31, 151115727451828646838272, 4835703278458516698824704, 0⟩, ⟨32, 63, 9671406556917033397649408, 151115727451828646838272, 0⟩, ⟨32, 63, 19342813113834066795298816, 151115727451828646838272, 0⟩, ⟨127, 127, 65536, 9671406556917033397649408, 0⟩, ⟨511, 511, 131072, 19342813113834066795298816, 0⟩] 8 [(0, 0), (1, 0), (3, 1), (2, 2), (4, 3), (5, 0), (6, 0), (7, 0), (8, 0), (9, 0)] (by kernel_rfl) (by kernel_rfl) (by kernel_rfl) (by kernel_rfl) (by kernel_rfl) (by kernel_rfl) (fun c a d v w h => by cases d <;> exact h) ?_
                    refine seq_calc (by simp only [List.getElem?_toArray, List.getElem?_cons_succ, List.getElem?_cons_zero]; rfl) (by rfl) (fun u => by go_simp <;> with_reducible rfl) ?_
                    try simp only [Act.put, List.setIfInBounds_toArray, List.set_cons_zero, List.set_cons_succ]
                    refine seq_calc (by simp only [List.getElem?_toArray, List.getElem?_cons_succ, List.getElem?_cons_zero]; rfl) (by rfl) (fun u => by go_simp <;> with_reducible rfl) ?_
                    try simp only [Act.put, List.setIfInBounds_toArray, List.set_cons_zero, List.set_cons_succ]
                    refine seq_loads [_, _, _] (by simp only [List.getElem?_toArray, List.getElem?_cons_succ, List.getElem?_cons_zero]; rfl) (by rfl) rfl rfl Tryd.underlying40 rfl (by kernel_rfl) (by first | (with_reducible assumption) | (refine cellsAre_range ?_; simp only [cellsAre]; (repeat' (first | exact True.intro | apply And.intro)); all_goals (go_simp <;> with_reducible rfl))) (by first | exact id | assumption | (simp; done) | (simp; omega)) ?_
                    try simp only [Act.put, List.setIfInBounds_toArray, List.set_cons_zero, List.set_cons_succ]
                    refine seq_do (by simp only [List.getElem?_toArray, List.getElem?_cons_succ, List.getElem?_cons_zero]; rfl) (by rfl) (fun K hK => ?_); go_wp2_with (first | (go_at_call 13; refine (NP.out _).mono ?_; rintro e w4 ⟨rfl, hb4⟩; have D4 := Lib.hid (D3.out.drew.later hb4); have A4 := Lib.hid (A3.out.drew.below hb4 A3.out.lt); have E4 := Lib.hid (E3.out.drew.below hb4 E3.out.lt); obtain ⟨e40, e41, e42⟩ := cells3 E4.out; have zE4 := E4.out.lt) | (go_at_call 12; refine (PU.out _ D4.out.s).mono ?_; rintro e w5 ⟨rfl, hs5, hc5⟩; have S5 := Lib.hid hs5; have V5 := Lib.hid (D4.out.v.chg hc5 (by have := HSP.out; rintro (e | e | e); exact this.m.2.2.1 (Option.some.inj e); exact this.b.1 e; exact this.b.2.1 e) (by have := HSP.out; rintro (e | e | e); exact this.m.2.2.2 (Option.some.inj e); exact this.b.2.2.1 e; exact this.b.2.2.2.1 e)); have A5 := Lib.hid (A4.out.chg hc5 (by rintro (e | e | e); exact hAM (Option.some.inj e).symm; exact hAB e; exact hAQ e)); have E5 := Lib.hid (E4.out.chg hc5 (by rintro (e | e | e); exact hXM (Option.some.inj e).symm; exact hXB e; exact hXQ e)); obtain ⟨e50, e51, e52⟩ := cells3 E5.out; have zE5 := E5.out.lt; obtain ⟨v50, v51⟩ := V5.out.cells hx; have zVB5 := V5.out.b.lt; have zVU5 := V5.out.u.lt; have vf50 := V5.out.b.frozen x; have vf51 := V5.out.u.frozen x; clear hs5)); refine hK.out _ _ (by first | (with_reducible exact Chg.refl _ _) | (with_reducible assumption) | (refine Chg.of_below ?_; with_reducible assumption) | (with_reducible exact (Chg.refl _ _).alloc _) | (with_reducible exact (Chg.refl _ _).drewN _) | (with_reducible exact (Chg.refl _ _).drew) | exact ⟨rfl, rfl, rfl, Nat.le_refl _, fun _ _ _ => rfl⟩ | exact (Chg.refl _ _).setCell (.inl (.inl rfl)) _ | exact (Chg.refl _ _).setCell (.inl (.inr rfl)) _ | exact Chg.drew (Chg.setCell ⟨rfl, rfl, rfl, Nat.le_refl _, fun _ _ _ => rfl⟩ (.inl (.inl rfl)) _) | exact Chg.drew (Chg.setCell ⟨rfl, rfl, rfl, Nat.le_refl _, fun _ _ _ => rfl⟩ (.inl (.inr rfl)) _)) ?_; clear hK K
                    try simp only [Act.put, List.setIfInBounds_toArray, List.set_cons_zero, List.set_cons_succ]
                    refine seq_last (by simp only [List.getElem?_toArray, List.getElem?_cons_succ, List.getElem?_cons_zero]; rfl) (by rfl) (fun K hK => ?_); go_wp2_with (first | (go_at_call 13; refine (NP.out _).mono ?_; rintro e w4 ⟨rfl, hb4⟩; have D4 := Lib.hid (D3.out.drew.later hb4); have A4 := Lib.hid (A3.out.drew.below hb4 A3.out.lt); have E4 := Lib.hid (E3.out.drew.below hb4 E3.out.lt); obtain ⟨e40, e41, e42⟩ := cells3 E4.out; have zE4 := E4.out.lt) | (go_at_call 12; refine (PU.out _ D4.out.s).mono ?_; rintro e w5 ⟨rfl, hs5, hc5⟩; have S5 := Lib.hid hs5; have V5 := Lib.hid (D4.out.v.chg hc5 (by have := HSP.out; rintro (e | e | e); exact this.m.2.2.1 (Option.some.inj e); exact this.b.1 e; exact this.b.2.1 e) (by have := HSP.out; rintro (e | e | e); exact this.m.2.2.2 (Option.some.inj e); exact this.b.2.2.1 e; exact this.b.2.2.2.1 e)); have A5 := Lib.hid (A4.out.chg hc5 (by rintro (e | e | e); exact hAM (Option.some.inj e).symm; exact hAB e; exact hAQ e)); have E5 := Lib.hid (E4.out.chg hc5 (by rintro (e | e | e); exact hXM (Option.some.inj e).symm; exact hXB e; exact hXQ e)); obtain ⟨e50, e51, e52⟩ := cells3 E5.out; have zE5 := E5.out.lt; obtain ⟨v50, v51⟩ := V5.out.cells hx; have zVB5 := V5.out.b.lt; have zVU5 := V5.out.u.lt; have vf50 := V5.out.b.frozen x; have vf51 := V5.out.u.frozen x; clear hs5)); refine hK.out _ _ ?_; clear hK K
                    try simp only [Act.put, List.setIfInBounds_toArray, List.set_cons_zero, List.set_cons_succ]
                    refine seq_calc (by simp only [List.getElem?_toArray, List.getElem?_cons_succ, List.getElem?_cons_zero]; rfl) (by rfl) (fun u => by go_simp <;> with_reducible rfl) ?_
                    try simp only [Act.put, List.setIfInBounds_toArray, List.set_cons_zero, List.set_cons_succ]
                    refine seq_calc (by simp only [List.getElem?_toArray, List.getElem?_cons_succ, List.getElem?_cons_zero]; rfl) (by rfl) (fun u => by go_simp <;> with_reducible rfl) ?_
                    try simp only [Act.put, List.setIfInBounds_toArray, List.set_cons_zero, List.set_cons_succ]
                    refine seq_calc (by simp only [List.getElem?_toArray, List.getElem?_cons_succ, List.getElem?_cons_zero]; rfl) (by rfl) (fun u => by go_simp <;> with_reducible rfl) ?_
                    try simp only [Act.put, List.setIfInBounds_toArray, List.set_cons_zero, List.set_cons_succ]
                    refine seq_calc (by simp only [List.getElem?_toArray, List.getElem?_cons_succ, List.getElem?_cons_zero]; rfl) (by rfl) (fun u => by go_simp <;> with_reducible rfl) ?_
                    try simp only [Act.put, List.setIfInBounds_toArray, List.set_cons_zero, List.set_cons_succ]
                    refine seq_calc (by simp only [List.getElem?_toArray, List.getElem?_cons_succ, List.getElem?_cons_zero]; rfl) (by rfl) (fun u => by go_simp <;> with_reducible rfl) ?_
                    try simp only [Act.put, List.setIfInBounds_toArray, List.set_cons_zero, List.set_cons_succ]
                    refine seq_nil ?_
                    go_wp2
                    refine wp_region_seq (fun _ => False) #[⟨0, 0, 38685626227668133590597632, 65536, 0⟩, ⟨0, 0, 77371252455336267181195264, 512, 0⟩, ⟨0, 0, 154742504910672534362390528, 16384, 0⟩, ⟨4, 4, 309485009821345068724781056, 154742504910672534362390528, 1⟩, ⟨10, 14, 618970019642690137449562112, 386856262276681335905976320, 0⟩, ⟨16, 30, 1237940039285380274899124224, 618970019642690137449562112, 1⟩, ⟨32, 62, 2475880078570760549798248448, 1237940039285380274899124224, 0⟩, ⟨64, 126, 4951760157141521099596496896, 2475880078570760549798248448, 0⟩, ⟨128, 254, 9903520314283042199192993792, 4951760157141521099596529664, 0⟩, ⟨384, 510, 19807040628566084398385987584, 14855280471424563298789490688, 0⟩, ⟨640, 1022, 39614081257132168796771975168, 24758800785707605497982484480, 0⟩, ⟨1025, 2047, 79228162514264337593543950336, 39652766883359836930362572800, 0⟩, ⟨2176, 4095, 158456325028528675187087900672, 79228162514264337593543950336, 0⟩, ⟨4096, 8191, 316912650057057350374175801344, 158456325028528675187088031744, 0⟩, ⟨12288, 16383, 633825300114114700748351602688, 475368975085586025561263702016, 0⟩, ⟨4096, 8191, 1267650600228229401496703205376, 158456325028528675187087901184, 0⟩, ⟨4096, 8191, 2535301200456458802993406410752, 158456325028528675187087917056, 0⟩, ⟨69632, 73727, 5070602400912917605986812821504, 2693757525484987478180494311424, 1⟩, ⟨167936, 237567, 10141204801825835211973625643008, 6496709326169675682670603927552, 0⟩, ⟨266240, 499711, 20282409603651670423947251286016, 10299661126854363887160713543680, 1⟩, ⟨528384, 1023999, 40564819207303340847894502572032, 20440865928680199099134339186688, 0⟩, ⟨1048576, 2072575, 81129638414606681695789005144064, 40564819207303340847894502604800, 0⟩, ⟨3145728, 4169727, 162259276829213363391578010288128, 121694457621910022543683507716096, 0⟩, ⟨5246976, 8364031, 324518553658426726783156020576256, 202982552361545232914659600760832, 0⟩, ⟨8409088, 16777215, 649037107316853453566312041152512, 325310835283569370159091460079616, 0⟩, ⟨16781312, 33554431, 1298074214633706907132624082305024, 649195563641881982241499129053184, 0⟩] 655400 [(0, 0), (1, 0), (2, 0), (3, 1), (4, 0), (5, 1), (6, 0), (7, 0), (8, 0), (9, 0), (10, 0), (11, 0), (12, 0), (13, 0), (14, 0), (15, 0), (16, 0), (17, 1), (18, 0), (19, 1), (20, 0), (21, 0), (22, 0), (23, 0), (24, 0), (25, 0)] (by kernel_rfl) (by kernel_rfl) (by kernel_rfl) (by kernel_rfl) (by kernel_rfl) (by kernel_rfl) (fun c a d v w h => by cases d <;> exact h) ?_
                    refine seq_calc (by simp only [List.getElem?_toArray, List.getElem?_cons_succ, List.getElem?_cons_zero]; rfl) (by rfl) (fun u => by go_simp <;> with_reducible rfl) ?_
                    try simp only [Act.put, List.setIfInBounds_toArray, List.set_cons_zero, List.set_cons_succ]
                    refine seq_calc (by simp only [List.getElem?_toArray, List.getElem?_cons_succ, List.getElem?_cons_zero]; rfl) (by rfl) (fun u => by go_simp <;> with_reducible rfl) ?_
                    try simp only [Act.put, List.setIfInBounds_toArray, List.set_cons_zero, List.set_cons_succ]
                    refine seq_calc (by simp only [List.getElem?_toArray, List.getElem?_cons_succ, List.getElem?_cons_zero]; rfl) (by rfl) (fun u => by go_simp <;> with_reducible rfl) ?_
                    try simp only [Act.put, List.setIfInBounds_toArray, List.set_cons_zero, List.set_cons_succ]
                    refine seq_load1 (by simp only [List.getElem?_toArray, List.getElem?_cons_succ, List.getElem?_cons_zero]; rfl) (by rfl) rfl rfl Tryd.underlying38 rfl (by go_simp <;> with_reducible rfl) (by first | exact id | assumption | (simp; done) | (simp; omega)) ?_
                    try simp only [Act.put, List.setIfInBounds_toArray, List.set_cons_zero, List.set_cons_succ]
                    refine seq_calc (by simp only [List.getElem?_toArray, List.getElem?_cons_succ, List.getElem?_cons_zero]; rfl) (by rfl) (fun u => by go_simp <;> with_reducible rfl) ?_
                    try simp only [Act.put, List.setIfInBounds_toArray, List.set_cons_zero, List.set_cons_succ]
                    refine seq_load1 (by simp only [List.getElem?_toArray, List.getElem?_cons_succ, List.getElem?_cons_zero]; rfl) (by rfl) rfl rfl Tryd.underlying4 rfl (by go_simp <;> with_reducible rfl) (by first | exact id | assumption | (simp; done) | (simp; omega)) ?_
                    try simp only [Act.put, List.setIfInBounds_toArray, List.set_cons_zero, List.set_cons_succ]
                    refine seq_calc (by simp only [List.getElem?_toArray, List.getElem?_cons_succ, List.getElem?_cons_zero]; rfl) (by rfl) (fun u => by go_simp <;> with_reducible rfl) ?_
                    try simp only [Act.put, List.setIfInBounds_toArray, List.set_cons_zero, List.set_cons_succ]
                    refine seq_calc (by simp only [List.getElem?_toArray, List.getElem?_cons_succ, List.getElem?_cons_zero]; rfl) (by rfl) (fun u => by go_simp <;> with_reducible rfl) ?_
                    try simp only [Act.put, List.setIfInBounds_toArray, List.set_cons_zero, List.set_cons_succ]
                    first
                      | (refine seq_skip (by simp only [List.getElem?_toArray, List.getElem?_cons_succ, List.getElem?_cons_zero]; rfl) (by rfl) ?_)
                      | (refine seq_calc (by simp only [List.getElem?_toArray, List.getElem?_cons_succ, List.getElem?_cons_zero]; rfl) (by rfl) (fun u => by go_simp <;> with_reducible rfl) ?_)
                    try simp only [Act.put, List.setIfInBounds_toArray, List.set_cons_zero, List.set_cons_succ]
                    first
                      | (refine seq_skip (by simp only [List.getElem?_toArray, List.getElem?_cons_succ, List.getElem?_cons_zero]; rfl) (by rfl) ?_)
                      | (refine seq_calc (by simp only [List.getElem?_toArray, List.getElem?_cons_succ, List.getElem?_cons_zero]; rfl) (by rfl) (fun u => by go_simp <;> with_reducible rfl) ?_)
                    try simp only [Act.put, List.setIfInBounds_toArray, List.set_cons_zero, List.set_cons_succ]
                    refine seq_calc (by simp only [List.getElem?_toArray, List.getElem?_cons_succ, List.getElem?_cons_zero]; rfl) (by rfl) (fun u => by go_simp <;> with_reducible rfl) ?_
                    try simp only [Act.put, List.setIfInBounds_toArray, List.set_cons_zero, List.set_cons_succ]
                    refine seq_calc (by simp only [List.getElem?_toArray, List.getElem?_cons_succ, List.getElem?_cons_zero]; rfl) (by rfl) (fun u => by go_simp <;> with_reducible rfl) ?_
                    try simp only [Act.put, List.setIfInBounds_toArray, List.set_cons_zero, List.set_cons_succ]
                    refine seq_calc (by simp only [List.getElem?_toArray, List.getElem?_cons_succ, List.getElem?_cons_zero]; rfl) (by rfl) (fun u => by go_simp <;> with_reducible rfl) ?_
                    try simp only [Act.put, List.setIfInBounds_toArray, List.set_cons_zero, List.set_cons_succ]
                    first
                      | (refine seq_skip (by simp only [List.getElem?_toArray, List.getElem?_cons_succ, List.getElem?_cons_zero]; rfl) (by rfl) ?_)
                      | (refine seq_calc (by simp only [List.getElem?_toArray, List.getElem?_cons_succ, List.getElem?_cons_zero]; rfl) (by rfl) (fun u => by go_simp <;> with_reducible rfl) ?_)
                    try simp only [Act.put, List.setIfInBounds_toArray, List.set_cons_zero, List.set_cons_succ]
                    first
                      | (refine seq_skip (by simp only [List.getElem?_toArray, List.getElem?_cons_succ, List.getElem?_cons_zero]; rfl) (by rfl) ?_)
                      | (refine seq_calc (by simp only [List.getElem?_toArray, List.getElem?_cons_succ, List.getElem?_cons_zero]; rfl) (by rfl) (fun u => by go_simp <;> with_reducible rfl) ?_)
                    try simp only [Act.put, List.setIfInBounds_toArray, List.set_cons_zero, List.set_cons_succ]
                    first
                      | (refine seq_skip (by simp only [List.getElem?_toArray, List.getElem?_cons_succ, List.getElem?_cons_zero]; rfl) (by rfl) ?_)
                      | (refine seq_calc (by simp only [List.getElem?_toArray, List.getElem?_cons_succ, List.getElem?_cons_zero]; rfl) (by rfl) (fun u => by go_simp <;> with_reducible rfl) ?_)
                    try simp only [Act.put, List.setIfInBounds_toArray, List.set_cons_zero, List.set_cons_succ]
                    first
                      | (refine seq_skip (by simp only [List.getElem?_toArray, List.getElem?_cons_succ, List.getElem?_cons_zero]; rfl) (by rfl) ?_)
                      | (refine seq_calc (by simp only [List.getElem?_toArray, List.getElem?_cons_succ, List.getElem?_cons_zero]; rfl) (by rfl) (fun u => by go_simp <;> with_reducible rfl) ?_)
                    try simp only [Act.put, List.setIfInBounds_toArray, List.set_cons_zero, List.set_cons_succ]
                    first
                      | (refine seq_skip (by simp only [List.getElem?_toArray, List.getElem?_cons_succ, List.getElem?_cons_zero]; rfl) (by rfl) ?_)
                      | (refine seq_load1 (by simp only [List.getElem?_toArray, List.getElem?_cons_succ, List.getElem?_cons_zero]; rfl) (by rfl) rfl rfl Tryd.underlying38 rfl (by go_simp <;> with_reducible rfl) (by first | exact id | assumption | (simp; done) | (simp; omega)) ?_)
                    try simp only [Act.put, List.setIfInBounds_toArray, List.set_cons_zero, List.set_cons_succ]
                    first
                      | (refine seq_skip (by simp only [List.getElem?_toArray, List.getElem?_cons_succ, List.getElem?_cons_zero]; rfl) (by rfl) ?_)
                      | (refine seq_calc (by simp only [List.getElem?_toArray, List.getElem?_cons_succ, List.getElem?_cons_zero]; rfl) (by rfl) (fun u => by go_simp <;> with_reducible rfl) ?_)
                    try simp only [Act.put, List.setIfInBounds_toArray, List.set_cons_zero, List.set_cons_succ]
                    first
                      | (refine seq_skip (by simp only [List.getElem?_toArray, List.getElem?_cons_succ, List.getElem?_cons_zero]; rfl) (by rfl) ?_)
                      | (refine seq_load1 (by simp only [List.getElem?_toArray, List.getElem?_cons_succ, List.getElem?_cons_zero]; rfl) (by rfl) rfl rfl Tryd.underlying4 rfl (by go_simp <;> with_reducible rfl) (by first | exact id | assumption | (simp; done) | (simp; omega)) ?_)
                    try simp only [Act.put, List.setIfInBounds_toArray, List.set_cons_zero, List.set_cons_succ]
                    first
                      | (refine seq_skip (by simp only [List.getElem?_toArray, List.getElem?_cons_succ, List.getElem?_cons_zero]; rfl) (by rfl) ?_)
                      | (refine seq_calc (by simp only [List.getElem?_toArray, List.getElem?_cons_succ, List.getElem?_cons_zero]; rfl) (by rfl) (fun u => by go_simp <;> with_reducible rfl) ?_)
                    try simp only [Act.put, List.setIfInBounds_toArray, List.set_cons_zero, List.set_cons_succ]
                    first
                      | (refine seq_skip (by simp only [List.getElem?_toArray, List.getElem?_cons_succ, List.getElem?_cons_zero]; rfl) (by rfl) ?_)
                      | (refine seq_calc (by simp only [List.getElem?_toArray, List.getElem?_cons_succ, List.getElem?_cons_zero]; rfl) (by rfl) (fun u => by go_simp <;> with_reducible rfl) ?_)
                    try simp only [Act.put, List.setIfInBounds_toArray, List.set_cons_zero, List.set_cons_succ]
                    first
                      | (refine seq_skip (by simp only [List.getElem?_toArray, List.getElem?_cons_succ, List.getElem?_cons_zero]; rfl) (by rfl) ?_)
                      | (refine seq_calc (by simp only [List.getElem?_toArray, List.getElem?_cons_succ, List.getElem?_cons_zero]; rfl) (by rfl) (fun u => by go_simp <;> with_reducible rfl) ?_)
                    try simp only [Act.put, List.setIfInBounds_toArray, List.set_cons_zero, List.set_cons_succ]
                    first
                      | (refine seq_skip (by simp only [List.getElem?_toArray, List.getElem?_cons_succ, List.getElem?_cons_zero]; rfl) (by rfl) ?_)
                      | (refine seq_calc (by simp only [List.getElem?_toArray, List.getElem?_cons_succ, List.getElem?_cons_zero]; rfl) (by rfl) (fun u => by go_simp <;> with_reducible rfl) ?_)
                    try simp only [Act.put, List.setIfInBounds_toArray, List.set_cons_zero, List.set_cons_succ]
                    first
                      | (refine seq_skip (by simp only [List.getElem?_toArray, List.getElem?_cons_succ, List.getElem?_cons_zero]; rfl) (by rfl) ?_)
                      | (refine seq_calc (by simp only [List.getElem?_toArray, List.getElem?_cons_succ, List.getElem?_cons_zero]; rfl) (by rfl) (fun u => by go_simp <;> with_reducible rfl) ?_)
                    try simp only [Act.put, List.setIfInBounds_toArray, List.set_cons_zero, List.set_cons_succ]
                    refine seq_calc (by simp only [List.getElem?_toArray, List.getElem?_cons_succ, List.getElem?_cons_zero]; rfl) (by rfl) (fun u => by go_simp <;> with_reducible rfl) ?_
                    try simp only [Act.put, List.setIfInBounds_toArray, List.set_cons_zero, List.set_cons_succ]
                    refine seq_nil ?_
                    go_wp2
                    refine wp_region_seq (fun b => b = VB ∨ b = VU) #[⟨0, 0, 10384593717069655257060992658440192, 512, 0⟩, ⟨0, 0, 20769187434139310514121985316880384, 16384, 0⟩, ⟨2, 2, 41538374868278621028243970633760768, 20769187434139310514121985316880384, 1⟩, ⟨0, 0, 83076749736557242056487941267521536, 1024, 0⟩, ⟨0, 0, 166153499473114484112975882535043072, 16384, 0⟩, ⟨16, 16, 332306998946228968225951765070086144, 166153499473114484112975882535043072, 1⟩, ⟨0, 0, 664613997892457936451903530140172288, 16384, 0⟩, ⟨64, 64, 1329227995784915872903807060280344576, 664613997892457936451903530140172288, 1⟩, ⟨7, 7, 2658455991569831745807614120560689152, 51922968585348276285304963292200960, 0⟩, ⟨263, 263, 0, 2658455991569831745807614120560689152, 2⟩, ⟨1023, 1023, 5316911983139663491615228241121378304, 415383748682786210282439706337607680, 0⟩, ⟨2047, 2047, 0, 6646139978924579364519035301401722880, 3⟩] 164 [(0, 0), (1, 0), (2, 1), (3, 0), (4, 0), (5, 1), (6, 0), (7, 1), (8, 0), (9, 2), (10, 0), (11, 3)] (by kernel_rfl) (by kernel_rfl) (by kernel_rfl) (by kernel_rfl) (by kernel_rfl) (by kernel_rfl) (fun c a d v w h => by cases d <;> exact h) ?_
                    refine seq_calc (by simp only [List.getElem?_toArray, List.getElem?_cons_succ, List.getElem?_cons_zero]; rfl) (by rfl) (fun u => by go_simp <;> with_reducible rfl) ?_
                    try simp only [Act.put, List.setIfInBounds_toArray, List.set_cons_zero, List.set_cons_succ]
                    refine seq_calc (by simp only [List.getElem?_toArray, List.getElem?_cons_succ, List.getElem?_cons_zero]; rfl) (by rfl) (fun u => by go_simp <;> with_reducible rfl) ?_
                    try simp only [Act.put, List.setIfInBounds_toArray, List.set_cons_zero, List.set_cons_succ]
                    refine seq_load1 (by simp only [List.getElem?_toArray, List.getElem?_cons_succ, List.getElem?_cons_zero]; rfl) (by rfl) rfl rfl Tryd.underlying38 rfl (by go_simp <;> with_reducible rfl) (by first | exact id | assumption | (simp; done) | (simp; omega)) ?_
                    try simp only [Act.put, List.setIfInBounds_toArray, List.set_cons_zero, List.set_cons_succ]
                    refine seq_calc (by simp only [List.getElem?_toArray, List.getElem?_cons_succ, List.getElem?_cons_zero]; rfl) (by rfl) (fun u => by go_simp <;> with_reducible rfl) ?_
                    try simp only [Act.put, List.setIfInBounds_toArray, List.set_cons_zero, List.set_cons_succ]
                    refine seq_calc (by simp only [List.getElem?_toArray, List.getElem?_cons_succ, List.getElem?_cons_zero]; rfl) (by rfl) (fun u => by go_simp <;> with_reducible rfl) ?_
                    try simp only [Act.put, List.setIfInBounds_toArray, List.set_cons_zero, List.set_cons_succ]
                    refine seq_load1 (by simp only [List.getElem?_toArray, List.getElem?_cons_succ, List.getElem?_cons_zero]; rfl) (by rfl) rfl rfl Tryd.underlying38 rfl (by go_simp <;> with_reducible rfl) (by first | exact id | assumption | (simp; done) | (simp; omega)) ?_
                    try simp only [Act.put, List.setIfInBounds_toArray, List.set_cons_zero, List.set_cons_succ]
                    refine seq_calc (by simp only [List.getElem?_toArray, List.getElem?_cons_succ, List.getElem?_cons_zero]; rfl) (by rfl) (fun u => by go_simp <;> with_reducible rfl) ?_
                    try simp only [Act.put, List.setIfInBounds_toArray, List.set_cons_zero, List.set_cons_succ]
                    refine seq_load1 (by simp only [List.getElem?_toArray, List.getElem?_cons_succ, List.getElem?_cons_zero]; rfl) (by rfl) rfl rfl Tryd.underlying38 rfl (by go_simp <;> with_reducible rfl) (by first | exact id | assumption | (simp; done) | (simp; omega)) ?_
                    try simp only [Act.put, List.setIfInBounds_toArray, List.set_cons_zero, List.set_cons_succ]
                    refine seq_calc (by simp only [List.getElem?_toArray, List.getElem?_cons_succ, List.getElem?_cons_zero]; rfl) (by rfl) (fun u => by go_simp <;> with_reducible rfl) ?_
                    try simp only [Act.put, List.setIfInBounds_toArray, List.set_cons_zero, List.set_cons_succ]
                    refine seq_do (by simp only [List.getElem?_toArray, List.getElem?_cons_succ, List.getElem?_cons_zero]; rfl) (by rfl) (fun K hK => ?_); go_wp2_with (fail); refine hK.out _ _ (by first | (with_reducible exact Chg.refl _ _) | (with_reducible assumption) | (refine Chg.of_below ?_; with_reducible assumption) | (with_reducible exact (Chg.refl _ _).alloc _) | (with_reducible exact (Chg.refl _ _).drewN _) | (with_reducible exact (Chg.refl _ _).drew) | exact ⟨rfl, rfl, rfl, Nat.le_refl _, fun _ _ _ => rfl⟩ | exact (Chg.refl _ _).setCell (.inl (.inl rfl)) _ | exact (Chg.refl _ _).setCell (.inl (.inr rfl)) _ | exact Chg.drew (Chg.setCell ⟨rfl, rfl, rfl, Nat.le_refl _, fun _ _ _ => rfl⟩ (.inl (.inl rfl)) _) | exact Chg.drew (Chg.setCell ⟨rfl, rfl, rfl, Nat.le_refl _, fun _ _ _ => rfl⟩ (.inl (.inr rfl)) _)) ?_; clear hK K
                    try simp only [Act.put, List.setIfInBounds_toArray, List.set_cons_zero, List.set_cons_succ]
                    refine seq_calc (by simp only [List.getElem?_toArray, List.getElem?_cons_succ, List.getElem?_cons_zero]; rfl) (by rfl) (fun u => by go_simp <;> with_reducible rfl) ?_
                    try simp only [Act.put, List.setIfInBounds_toArray, List.set_cons_zero, List.set_cons_succ]
                    refine seq_last (by simp only [List.getElem?_toArray, List.getElem?_cons_succ, List.getElem?_cons_zero]; rfl) (by rfl) (fun K hK => ?_); go_wp2_with (fail); refine hK.out _ _ ?_; clear hK K
                    try simp only [Act.put, List.setIfInBounds_toArray, List.set_cons_zero, List.set_cons_succ]
                    refine seq_nil ?_
                    go_wp2
                    go_meet
                    have hSp := HSP.out
                    have hC : Chg (fun b => b = VB ∨ b = VU) w5 (((w5.setCell ⟨VB, x, none⟩ (.bool true)).setCell ⟨VU, x, none⟩ (.int .u64 vv)).drew.drew) := (((Chg.refl _ _).setCell (.inl (.inl rfl)) _).setCell (.inl (.inr rfl)) _).drew.drew
                    have hV9 := (V5.out.setB hx true).setU hx vv
                    have hGH : hashH n1 G x < 18446744073709551616 := by rw [← HH.out]; exact hGx
                    refine ⟨T.putT x vv h, upd th x true, upd va x vv, _, ⟨S5.out.chg hC ?_ ?_ ?_ ?_, ⟨hV9.b, hV9.u, hV9.ne⟩, ?_, ?_, ?_, ?_⟩, A5.out.chg hC ?_, HL0.out, fun _ => ?_⟩
                    · rintro b (rfl | rfl); exact hSp.o.2.2.2.1; exact hSp.o.2.2.2.2
                    · rintro (e | e); exact hSp.b.1 e.symm; exact hSp.b.2.2.1 e.symm
                    · rintro (e | e); exact hSp.b.2.1 e.symm; exact hSp.b.2.2.2.1 e.symm
                    · rintro b e (rfl | rfl); exact hSp.m.2.2.1 (Option.some.inj e); exact hSp.m.2.2.2 (Option.some.inj e)
                    · rw [HH.out]; exact D3.out.f.putT x vv hGH
                    · rw [HH.out]; exact D3.out.c.put D3.out.f hx vv hGH
                    · rw [HH.out]; exact D3.out.y.put D3.out.f hx vv hGH (by rw [← HH.out, HOK.out, HOR.out])
                    · rw [putT_n]; exact D3.out.g
                    · rintro (e | e); exact hAVB e; exact hAVU e
                    · rw [HH.out]; exact (D3.out.f.put_lv x vv).2
                  | false =>
                    have hsame : T.putT (x : Int) vv h = T := by rw [HH.out]; exact D3.out.y.putNo D3.out.f vv (by rw [← HH.out]; exact hGx) (by rw [← HH.out, HOK.out, hh, hd]; rfl)
                    rw [hd, hsame] at PU
                    rw [hd] at hdl
                    simp only [Bool.false_eq_true, if_false, errN_nz E 2 (by decide)] at PU
                    unfold errAt at PU
                    clear hpB hpN hok hh hd hsame
                    have NP := Lib.hid (fun (w' : World) => probing_any (some ⟨M, 0, none⟩) w')
                    go_wp2
                    refine wp_region_seq (fun b => some M = some b ∨ b = B ∨ b = Q) #[⟨0, 0, 302231454903657293676544, 128, 0⟩, ⟨0, 0, 604462909807314587353088, 2048, 0⟩, ⟨2, 2, 1208925819614629174706176, 604462909807314587353088, 2⟩, ⟨0, 0, 2417851639229258349412352, 16384, 1⟩, ⟨13, 15, 4835703278458516698824704, 3929008913747544817795072, 3⟩, ⟨16, 31, 151115727451828646838272, 4835703278458516698824704, 0⟩, ⟨32, 63, 9671406556917033397649408, 151115727451828646838272, 0⟩, ⟨32, 63, 19342813113834066795298816, 151115727451828646838272, 0⟩, ⟨127, 127, 65536, 9671406556917033397649408, 0⟩, ⟨511, 511, 131072, 19342813113834066795298816, 0⟩] 8 [(0, 0), (1, 0), (3, 1), (2, 2), (4, 3), (5, 0), (6, 0), (7, 0), (8, 0), (9, 0)] (by kernel_rfl) (by kernel_rfl) (by kernel_rfl) (by kernel_rfl) (by kernel_rfl) (by kernel_rfl) (fun c a d v w h => by cases d <;> exact h) ?_
                    refine seq_calc (by simp only [List.getElem?_toArray, List.getElem?_cons_succ, List.getElem?_cons_zero]; rfl) (by rfl) (fun u => by go_simp <;> with_reducible rfl) ?_
                    try simp only [Act.put, List.setIfInBounds_toArray, List.set_cons_zero, List.set_cons_succ]
                    refine seq_calc (by simp only [List.getElem?_toArray, List.getElem?_cons_succ, List.getElem?_cons_zero]; rfl) (by rfl) (fun u => by go_simp <;> with_reducible rfl) ?_
                    try simp only [Act.put, List.setIfInBounds_toArray, List.set_cons_zero, List.set_cons_succ]
                    refine seq_loads [_, _, _] (by simp only [List.getElem?_toArray, List.getElem?_cons_succ, List.getElem?_cons_zero]; rfl) (by rfl) rfl rfl Tryd.underlying40 rfl (by kernel_rfl) (by first | (with_reducible assumption) | (refine cellsAre_range ?_; simp only [cellsAre]; (repeat' (first | exact True.intro | apply And.intro)); all_goals (go_simp <;> with_reducible rfl))) (by first | exact id | assumption | (simp; done) | (simp; omega)) ?_
                    try simp only [Act.put, List.setIfInBounds_toArray, List.set_cons_zero, List.set_cons_succ]
                    refine seq_do (by simp only [List.getElem?_toArray, List.getElem?_cons_succ, List.getElem?_cons_zero]; rfl) (by rfl) (fun K hK => ?_); go_wp2_with (first | (go_at_call 13; refine (NP.out _).mono ?_; rintro e w4 ⟨rfl, hb4⟩; have D4 := Lib.hid (D3.out.drew.later hb4); have A4 := Lib.hid (A3.out.drew.below hb4 A3.out.lt); have E4 := Lib.hid (E3.out.drew.below hb4 E3.out.lt); obtain ⟨e40, e41, e42⟩ := cells3 E4.out; have zE4 := E4.out.lt) | (go_at_call 12; refine (PU.out _ D4.out.s).mono ?_; rintro e w5 ⟨rfl, hs5, hc5⟩; have S5 := Lib.hid hs5; have V5 := Lib.hid (D4.out.v.chg hc5 (by have := HSP.out; rintro (e | e | e); exact this.m.2.2.1 (Option.some.inj e); exact this.b.1 e; exact this.b.2.1 e) (by have := HSP.out; rintro (e | e | e); exact this.m.2.2.2 (Option.some.inj e); exact this.b.2.2.1 e; exact this.b.2.2.2.1 e)); have A5 := Lib.hid (A4.out.chg hc5 (by rintro (e | e | e); exact hAM (Option.some.inj e).symm; exact hAB e; exact hAQ e)); have E5 := Lib.hid (E4.out.chg hc5 (by rintro (e | e | e); exact hXM (Option.some.inj e).symm; exact hXB e; exact hXQ e)); obtain ⟨e50, e51, e52⟩ := cells3 E5.out; have zE5 := E5.out.lt; obtain ⟨v50, v51⟩ := V5.out.cells hx; have zVB5 := V5.out.b.lt; have zVU5 := V5.out.u.lt; have vf50 := V5.out.b.frozen x; have vf51 := V5.out.u.frozen x; clear hs5)); refine hK.out _ _ (by first | (with_reducible exact Chg.refl _ _) | (with_reducible assumption) | (refine Chg.of_below ?_; with_reducible assumption) | (with_reducible exact (Chg.refl _ _).alloc _) | (with_reducible exact (Chg.refl _ _).drewN _) | (with_reducible exact (Chg.refl _ _).drew) | exact ⟨rfl, rfl, rfl, Nat.le_refl _, fun _ _ _ => rfl⟩ | exact (Chg.refl _ _).setCell (.inl (.inl rfl)) _ | exact (Chg.refl _ _).setCell (.inl (.inr rfl)) _ | exact Chg.drew (Chg.setCell ⟨rfl, rfl, rfl, Nat.le_refl _, fun _ _ _ => rfl⟩ (.inl (.inl rfl)) _) | exact Chg.drew (Chg.setCell ⟨rfl, rfl, rfl, Nat.le_refl _, fun _ _ _ => rfl⟩ (.inl (.inr rfl)) _)) ?_; clear hK K
                    try simp only [Act.put, List.setIfInBounds_toArray, List.set_cons_zero, List.set_cons_succ]
                    refine seq_last (by simp only [List.getElem?_toArray, List.getElem?_cons_succ, List.getElem?_cons_zero]; rfl) (by rfl) (fun K hK => ?_); go_wp2_with (first | (go_at_call 13; refine (NP.out _).mono ?_; rintro e w4 ⟨rfl, hb4⟩; have D4 := Lib.hid (D3.out.drew.later hb4); have A4 := Lib.hid (A3.out.drew.below hb4 A3.out.lt); have E4 := Lib.hid (E3.out.drew.below hb4 E3.out.lt); obtain ⟨e40, e41, e42⟩ := cells3 E4.out; have zE4 := E4.out.lt) | (go_at_call 12; refine (PU.out _ D4.out.s).mono ?_; rintro e w5 ⟨rfl, hs5, hc5⟩; have S5 := Lib.hid hs5; have V5 := Lib.hid (D4.out.v.chg hc5 (by have := HSP.out; rintro (e | e | e); exact this.m.2.2.1 (Option.some.inj e); exact this.b.1 e; exact this.b.2.1 e) (by have := HSP.out; rintro (e | e | e); exact this.m.2.2.2 (Option.some.inj e); exact this.b.2.2.1 e; exact this.b.2.2.2.1 e)); have A5 := Lib.hid (A4.out.chg hc5 (by rintro (e | e | e); exact hAM (Option.some.inj e).symm; exact hAB e; exact hAQ e)); have E5 := Lib.hid (E4.out.chg hc5 (by rintro (e | e | e); exact hXM (Option.some.inj e).symm; exact hXB e; exact hXQ e)); obtain ⟨e50, e51, e52⟩ := cells3 E5.out; have zE5 := E5.out.lt; obtain ⟨v50, v51⟩ := V5.out.cells hx; have zVB5 := V5.out.b.lt; have zVU5 := V5.out.u.lt; have vf50 := V5.out.b.frozen x; have vf51 := V5.out.u.frozen x; clear hs5)); refine hK.out _ _ ?_; clear hK K
                    try simp only [Act.put, List.setIfInBounds_toArray, List.set_cons_zero, List.set_cons_succ]
                    refine seq_calc (by simp only [List.getElem?_toArray, List.getElem?_cons_succ, List.getElem?_cons_zero]; rfl) (by rfl) (fun u => by go_simp <;> with_reducible rfl) ?_
                    try simp only [Act.put, List.setIfInBounds_toArray, List.set_cons_zero, List.set_cons_succ]
                    refine seq_calc (by simp only [List.getElem?_toArray, List.getElem?_cons_succ, List.getElem?_cons_zero]; rfl) (by rfl) (fun u => by go_simp <;> with_reducible rfl) ?_
                    try simp only [Act.put, List.setIfInBounds_toArray, List.set_cons_zero, List.set_cons_succ]
                    refine seq_calc (by simp only [List.getElem?_toArray, List.getElem?_cons_succ, List.getElem?_cons_zero]; rfl) (by rfl) (fun u => by go_simp <;> with_reducible rfl) ?_
                    try simp only [Act.put, List.setIfInBounds_toArray, List.set_cons_zero, List.set_cons_succ]
                    refine seq_calc (by simp only [List.getElem?_toArray, List.getElem?_cons_succ, List.getElem?_cons_zero]; rfl) (by rfl) (fun u => by go_simp <;> with_reducible rfl) ?_
                    try simp only [Act.put, List.setIfInBounds_toArray, List.set_cons_zero, List.set_cons_succ]
                    refine seq_calc (by simp only [List.getElem?_toArray, List.getElem?_cons_succ, List.getElem?_cons_zero]; rfl) (by rfl) (fun u => by go_simp <;> with_reducible rfl) ?_
                    try simp only [Act.put, List.setIfInBounds_toArray, List.set_cons_zero, List.set_cons_succ]
                    refine seq_nil ?_
                    go_wp2
                    refine wp_region_seq (fun _ => False) #[⟨0, 0, 38685626227668133590597632, 65536, 0⟩, ⟨0, 0, 77371252455336267181195264, 512, 0⟩, ⟨0, 0, 154742504910672534362390528, 16384, 0⟩, ⟨4, 4, 309485009821345068724781056, 154742504910672534362390528, 1⟩, ⟨10, 14, 618970019642690137449562112, 386856262276681335905976320, 0⟩, ⟨16, 30, 1237940039285380274899124224, 618970019642690137449562112, 1⟩, ⟨32, 62, 2475880078570760549798248448, 1237940039285380274899124224, 0⟩, ⟨64, 126, 4951760157141521099596496896, 2475880078570760549798248448, 0⟩, ⟨128, 254, 9903520314283042199192993792, 4951760157141521099596529664, 0⟩, ⟨384, 510, 19807040628566084398385987584, 14855280471424563298789490688, 0⟩, ⟨640, 1022, 39614081257132168796771975168, 24758800785707605497982484480, 0⟩, ⟨1025, 2047, 79228162514264337593543950336, 39652766883359836930362572800, 0⟩, ⟨2176, 4095, 158456325028528675187087900672, 79228162514264337593543950336, 0⟩, ⟨4096, 8191, 316912650057057350374175801344, 158456325028528675187088031744, 0⟩, ⟨12288, 16383, 633825300114114700748351602688, 475368975085586025561263702016, 0⟩, ⟨4096, 8191, 1267650600228229401496703205376, 158456325028528675187087901184, 0⟩, ⟨4096, 8191, 2535301200456458802993406410752, 158456325028528675187087917056, 0⟩, ⟨69632, 73727, 5070602400912917605986812821504, 2693757525484987478180494311424, 1⟩, ⟨167936, 237567, 10141204801825835211973625643008, 6496709326169675682670603927552, 0⟩, ⟨266240, 499711, 20282409603651670423947251286016, 10299661126854363887160713543680, 1⟩, ⟨528384, 1023999, 40564819207303340847894502572032, 20440865928680199099134339186688, 0⟩, ⟨1048576, 2072575, 81129638414606681695789005144064, 40564819207303340847894502604800, 0⟩, ⟨3145728, 4169727, 162259276829213363391578010288128, 121694457621910022543683507716096, 0⟩, ⟨5246976, 8364031, 324518553658426726783156020576256, 202982552361545232914659600760832, 0⟩, ⟨8409088, 16777215, 649037107316853453566312041152512, 325310835283569370159091460079616, 0⟩, ⟨16781312, 33554431, 1298074214633706907132624082305024, 649195563641881982241499129053184, 0⟩] 655400 [(0, 0), (1, 0), (2, 0), (3, 1), (4, 0), (5, 1), (6, 0), (7, 0), (8, 0), (9, 0), (10, 0), (11, 0), (12, 0), (13, 0), (14, 0), (15, 0), (16, 0), (17, 1), (18, 0), (19, 1), (20, 0), (21, 0), (22, 0), (23, 0), (24, 0), (25, 0)] (by kernel_rfl) (by kernel_rfl) (by kernel_rfl) (by kernel_rfl) (by kernel_rfl) (by kernel_rfl) (fun c a d v w h => by cases d <;> exact h) ?_
                    refine seq_calc (by simp only [List.getElem?_toArray, List.getElem?_cons_succ, List.getElem?_cons_zero]; rfl) (by rfl) (fun u => by go_simp <;> with_reducible rfl) ?_
                    try simp only [Act.put, List.setIfInBounds_toArray, List.set_cons_zero, List.set_cons_succ]
                    refine seq_calc (by simp only [List.getElem?_toArray, List.getElem?_cons_succ, List.getElem?_cons_zero]; rfl) (by rfl) (fun u => by go_simp <;> with_reducible rfl) ?_
                    try simp only [Act.put, List.setIfInBounds_toArray, List.set_cons_zero, List.set_cons_succ]
                    refine seq_calc (by simp only [List.getElem?_toArray, List.getElem?_cons_succ, List.getElem?_cons_zero]; rfl) (by rfl) (fun u => by go_simp <;> with_reducible rfl) ?_
                    try simp only [Act.put, List.setIfInBounds_toArray, List.set_cons_zero, List.set_cons_succ]
                    refine seq_load1 (by simp only [List.getElem?_toArray, List.getElem?_cons_succ, List.getElem?_cons_zero]; rfl) (by rfl) rfl rfl Tryd.underlying38 rfl (by go_simp <;> with_reducible rfl) (by first | exact id | assumption | (simp; done) | (simp; omega)) ?_
                    try simp only [Act.put, List.setIfInBounds_toArray, List.set_cons_zero, List.set_cons_succ]
                    refine seq_calc (by simp only [List.getElem?_toArray, List.getElem?_cons_succ, List.getElem?_cons_zero]; rfl) (by rfl) (fun u => by go_simp <;> with_reducible rfl) ?_
                    try simp only [Act.put, List.setIfInBounds_toArray, List.set_cons_zero, List.set_cons_succ]
                    refine seq_load1 (by simp only [List.getElem?_toArray, List.getElem?_cons_succ, List.getElem?_cons_zero]; rfl) (by rfl) rfl rfl Tryd.underlying4 rfl (by go_simp <;> with_reducible rfl) (by first | exact id | assumption | (simp; done) | (simp; omega)) ?_
                    try simp only [Act.put, List.setIfInBounds_toArray, List.set_cons_zero, List.set_cons_succ]
                    refine seq_calc (by simp only [List.getElem?_toArray, List.getElem?_cons_succ, List.getElem?_cons_zero]; rfl) (by rfl) (fun u => by go_simp <;> with_reducible rfl) ?_
                    try simp only [Act.put, List.setIfInBounds_toArray, List.set_cons_zero, List.set_cons_succ]
                    refine seq_calc (by simp only [List.getElem?_toArray, List.getElem?_cons_succ, List.getElem?_cons_zero]; rfl) (by rfl) (fun u => by go_simp <;> with_reducible rfl) ?_
                    try simp only [Act.put, List.setIfInBounds_toArray, List.set_cons_zero, List.set_cons_succ]
                    first
                      | (refine seq_skip (by simp only [List.getElem?_toArray, List.getElem?_cons_succ, List.getElem?_cons_zero]; rfl) (by rfl) ?_)
                      | (refine seq_calc (by simp only [List.getElem?_toArray, List.getElem?_cons_succ, List.getElem?_cons_zero]; rfl) (by rfl) (fun u => by go_simp <;> with_reducible rfl) ?_)
                    try simp only [Act.put, List.setIfInBounds_toArray, List.set_cons_zero, List.set_cons_succ]
                    first
                      | (refine seq_skip (by simp only [List.getElem?_toArray, List.getElem?_cons_succ, List.getElem?_cons_zero]; rfl) (by rfl) ?_)
                      | (refine seq_calc (by simp only [List.getElem?_toArray, List.getElem?_cons_succ, List.getElem?_cons_zero]; rfl) (by rfl) (fun u => by go_simp <;> with_reducible rfl) ?_)
                    try simp only [Act.put, List.setIfInBounds_toArray, List.set_cons_zero, List.set_cons_succ]
                    refine seq_calc (by simp only [List.getElem?_toArray, List.getElem?_cons_succ, List.getElem?_cons_zero]; rfl) (by rfl) (fun u => by go_simp <;> with_reducible rfl) ?_
                    try simp only [Act.put, List.setIfInBounds_toArray, List.set_cons_zero, List.set_cons_succ]
                    refine seq_calc (by simp only [List.getElem?_toArray, List.getElem?_cons_succ, List.getElem?_cons_zero]; rfl) (by rfl) (fun u => by go_simp <;> with_reducible rfl) ?_
                    try simp only [Act.put, List.setIfInBounds_toArray, List.set_cons_zero, List.set_cons_succ]
                    refine seq_calc (by simp only [List.getElem?_toArray, List.getElem?_cons_succ, List.getElem?_cons_zero]; rfl) (by rfl) (fun u => by go_simp <;> with_reducible rfl) ?_
                    try simp only [Act.put, List.setIfInBounds_toArray, List.set_cons_zero, List.set_cons_succ]
                    first
                      | (refine seq_skip (by simp only [List.getElem?_toArray, List.getElem?_cons_succ, List.getElem?_cons_zero]; rfl) (by rfl) ?_)
                      | (refine seq_calc (by simp only [List.getElem?_toArray, List.getElem?_cons_succ, List.getElem?_cons_zero]; rfl) (by rfl) (fun u => by go_simp <;> with_reducible rfl) ?_)
                    try simp only [Act.put, List.setIfInBounds_toArray, List.set_cons_zero, List.set_cons_succ]
                    first
                      | (refine seq_skip (by simp only [List.getElem?_toArray, List.getElem?_cons_succ, List.getElem?_cons_zero]; rfl) (by rfl) ?_)
                      | (refine seq_calc (by simp only [List.getElem?_toArray, List.getElem?_cons_succ, List.getElem?_cons_zero]; rfl) (by rfl) (fun u => by go_simp <;> with_reducible rfl) ?_)
                    try simp only [Act.put, List.setIfInBounds_toArray, List.set_cons_zero, List.set_cons_succ]
                    first
                      | (refine seq_skip (by simp only [List.getElem?_toArray, List.getElem?_cons_succ, List.getElem?_cons_zero]; rfl) (by rfl) ?_)
                      | (refine seq_calc (by simp only [List.getElem?_toArray, List.getElem?_cons_succ, List.getElem?_cons_zero]; rfl) (by rfl) (fun u => by go_simp <;> with_reducible rfl) ?_)
                    try simp only [Act.put, List.setIfInBounds_toArray, List.set_cons_zero, List.set_cons_succ]
                    first
                      | (refine seq_skip (by simp only [List.getElem?_toArray, List.getElem?_cons_succ, List.getElem?_cons_zero]; rfl) (by rfl) ?_)
                      | (refine seq_calc (by simp only [List.getElem?_toArray, List.getElem?_cons_succ, List.getElem?_cons_zero]; rfl) (by rfl) (fun u => by go_simp <;> with_reducible rfl) ?_)
                    try simp only [Act.put, List.setIfInBounds_toArray, List.set_cons_zero, List.set_cons_succ]
                    first
                      | (refine seq_skip (by simp only [List.getElem?_toArray, List.getElem?_cons_succ, List.getElem?_cons_zero]; rfl) (by rfl) ?_)
                      | (refine seq_load1 (by simp only [List.getElem?_toArray, List.getElem?_cons_succ, List.getElem?_cons_zero]; rfl) (by rfl) rfl rfl Tryd.underlying38 rfl (by go_simp <;> with_reducible rfl) (by first | exact id | assumption | (simp; done) | (simp; omega)) ?_)
                    try simp only [Act.put, List.setIfInBounds_toArray, List.set_cons_zero, List.set_cons_succ]
                    first
                      | (refine seq_skip (by simp only [List.getElem?_toArray, List.getElem?_cons_succ, List.getElem?_cons_zero]; rfl) (by rfl) ?_)
                      | (refine seq_calc (by simp only [List.getElem?_toArray, List.getElem?_cons_succ, List.getElem?_cons_zero]; rfl) (by rfl) (fun u => by go_simp <;> with_reducible rfl) ?_)
                    try simp only [Act.put, List.setIfInBounds_toArray, List.set_cons_zero, List.set_cons_succ]
                    first
                      | (refine seq_skip (by simp only [List.getElem?_toArray, List.getElem?_cons_succ, List.getElem?_cons_zero]; rfl) (by rfl) ?_)
                      | (refine seq_load1 (by simp only [List.getElem?_toArray, List.getElem?_cons_succ, List.getElem?_cons_zero]; rfl) (by rfl) rfl rfl Tryd.underlying4 rfl (by go_simp <;> with_reducible rfl) (by first | exact id | assumption | (simp; done) | (simp; omega)) ?_)
                    try simp only [Act.put, List.setIfInBounds_toArray, List.set_cons_zero, List.set_cons_succ]
                    first
                      | (refine seq_skip (by simp only [List.getElem?_toArray, List.getElem?_cons_succ, List.getElem?_cons_zero]; rfl) (by rfl) ?_)
                      | (refine seq_calc (by simp only [List.getElem?_toArray, List.getElem?_cons_succ, List.getElem?_cons_zero]; rfl) (by rfl) (fun u => by go_simp <;> with_reducible rfl) ?_)
                    try simp only [Act.put, List.setIfInBounds_toArray, List.set_cons_zero, List.set_cons_succ]
                    first
                      | (refine seq_skip (by simp only [List.getElem?_toArray, List.getElem?_cons_succ, List.getElem?_cons_zero]; rfl) (by rfl) ?_)
                      | (refine seq_calc (by simp only [List.getElem?_toArray, List.getElem?_cons_succ, List.getElem?_cons_zero]; rfl) (by rfl) (fun u => by go_simp <;> with_reducible rfl) ?_)
                    try simp only [Act.put, List.setIfInBounds_toArray, List.set_cons_zero, List.set_cons_succ]
                    first
                      | (refine seq_skip (by simp only [List.getElem?_toArray, List.getElem?_cons_succ, List.getElem?_cons_zero]; rfl) (by rfl) ?_)
                      | (refine seq_calc (by simp only [List.getElem?_toArray, List.getElem?_cons_succ, List.getElem?_cons_zero]; rfl) (by rfl) (fun u => by go_simp <;> with_reducible rfl) ?_)
                    try simp only [Act.put, List.setIfInBounds_toArray, List.set_cons_zero, List.set_cons_succ]
                    first
                      | (refine seq_skip (by simp only [List.getElem?_toArray, List.getElem?_cons_succ, List.getElem?_cons_zero]; rfl) (by rfl) ?_)
                      | (refine seq_calc (by simp only [List.getElem?_toArray, List.getElem?_cons_succ, List.getElem?_cons_zero]; rfl) (by rfl) (fun u => by go_simp <;> with_reducible rfl) ?_)
                    try simp only [Act.put, List.setIfInBounds_toArray, List.set_cons_zero, List.set_cons_succ]
                    first
                      | (refine seq_skip (by simp only [List.getElem?_toArray, List.getElem?_cons_succ, List.getElem?_cons_zero]; rfl) (by rfl) ?_)
                      | (refine seq_calc (by simp only [List.getElem?_toArray, List.getElem?_cons_succ, List.getElem?_cons_zero]; rfl) (by rfl) (fun u => by go_simp <;> with_reducible rfl) ?_)
                    try simp only [Act.put, List.setIfInBounds_toArray, List.set_cons_zero, List.set_cons_succ]
                    refine seq_calc (by simp only [List.getElem?_toArray, List.getElem?_cons_succ, List.getElem?_cons_zero]; rfl) (by rfl) (fun u => by go_simp <;> with_reducible rfl) ?_
                    try simp only [Act.put, List.setIfInBounds_toArray, List.set_cons_zero, List.set_cons_succ]
                    refine seq_nil ?_
                    go_wp2
                    go_meet
                    exact ⟨T, th, va, _, ⟨S5.out.drew, V5.out.later (Below.refl _ _).drew, D3.out.f, D3.out.c, D3.out.y, D3.out.g⟩, A5.out.drew, HL0.out, fun _ => by omega⟩
            have n0' : (q == 0) = false := by simpa using q0
            by_cases q1 : q = 1
            · subst q1
              as_aux_lemma =>
                have hth := (D3.out.y x hx).1
                have hva := (D3.out.y x hx).2
                rw [← HH.out] at hth hva
                have DE := Lib.hid (fun (w' : World) (hs : TMW w' B Q (some M) T mt0 E w0) => TMW.del hs (x : Int) h hGx _ (LensAt.m M) 1 0 0)
                have hlk := looks_le D3.out.s.good (x : Int) h
                have HL0 : Hid ((addN mt0 1 0 0 (T.looks (x : Int) h)).l0 ≤ g) := Lib.hid (by rw [probe_l0 mt0 HM0.out _ (by have := D3.out.g; omega)]; have := D3.out.g; omega)
                have hxI : (x : Int) < (n1 : Int) := by omega
                obtain ⟨en, hen⟩ : ∃ en, en = T.ent (x : Int) h := ⟨_, rfl⟩
                rw [← hen] at hva
                simp only [← hen] at DE
                have NP := Lib.hid (fun (w' : World) => probing_any (some ⟨M, 0, none⟩) w')
                have hSp := HSP.out
                have yB : B < w3.heap.size := D3.out.s.ltB
                have yQ : Q < w3.heap.size := D3.out.s.ltQ
                have yM : M < w3.heap.size := (D3.out.s.m M rfl).lt
                have yVB : VB < w3.heap.size := D3.out.v.b.lt
                have yVU : VU < w3.heap.size := D3.out.v.u.lt
                have yw : w0.heap.size ≤ w3.heap.size := D3.out.s.bel.size
                have nN : ∀ b, w3.heap.size ≤ b → ¬ (some M = some b ∨ b = B ∨ b = Q) := by rintro b hb (e | e | e); exact absurd (Option.some.inj e) (by omega); omega; omega
                have nVB : ¬ (some M = some VB ∨ VB = B ∨ VB = Q) := by rintro (e | e | e); exact hSp.m.2.2.1 (Option.some.inj e); exact hSp.b.1 e; exact hSp.b.2.1 e
                have nVU : ¬ (some M = some VU ∨ VU = B ∨ VU = Q) := by rintro (e | e | e); exact hSp.m.2.2.2 (Option.some.inj e); exact hSp.b.2.2.1 e; exact hSp.b.2.2.2.1 e
                have nA : ¬ (some M = some A ∨ A = B ∨ A = Q) := by rintro (e | e | e); exact hAM (Option.some.inj e).symm; exact hAB e; exact hAQ e
                have nX : ¬ (some M = some X ∨ X = B ∨ X = Q) := by rintro (e | e | e); exact hXM (Option.some.inj e).symm; exact hXB e; exact hXQ e
                clear hen hlk hSp
                go_upto_region 24 with (fail)
                go_cut [18, 19] (fun v18 v19 wx => ∃ P, v18 = .pointer (some ⟨P, 0, none⟩) ∧ v19 = .bool (T.has (x : Int) h) ∧ w3.heap.size ≤ P ∧ Blk wx P 40 #[.int .u64 en.key, .int .u64 en.val, .int .u64 en.hash] ∧ TMW wx B Q (some M) (T.delT (x : Int) h) (addN mt0 1 0 0 (T.looks (x : Int) h)) E w0 ∧ TV wx VB VU n1 th va ∧ Blk wx A 37 #[.int .i64 1, .int .i64 ky, .int .i64 vN] ∧ Blk wx X 40 #[.int .u64 (x : Int), .int .u64 vv, .int .u64 (h : Int)])
                case first =>
                  refine wp_region_T (fun b => some M = some b ∨ b = B ∨ b = Q) #[⟨0, 0, 85070591730234615865843651857942052864, 128, 0⟩, ⟨0, 0, 170141183460469231731687303715884105728, 2048, 0⟩, ⟨2, 2, 340282366920938463463374607431768211456, 170141183460469231731687303715884105728, 2⟩, ⟨0, 0, 680564733841876926926749214863536422912, 16384, 0⟩, ⟨8, 8, 1361129467683753853853498429727072845824, 680564733841876926926749214863536422912, 1⟩, ⟨0, 0, 2722258935367507707706996859454145691648, 16384, 0⟩, ⟨32, 32, 5444517870735015415413993718908291383296, 2722258935367507707706996859454145691648, 1⟩, ⟨85, 127, 10889035741470030830827987437816582766592, 7231000297069942348596710407925074493440, 3⟩, ⟨128, 255, 42535295865117307932921825928971026432, 10889035741470030830827987437816582766592, 0⟩, ⟨256, 511, 21778071482940061661655974875633165533184, 42535295865117307932921825928971026432, 0⟩, ⟨256, 511, 43556142965880123323311949751266331066368, 42535295865117307932921825928971026432, 0⟩, ⟨0, 0, 262144, 0, 2⟩, ⟨3071, 3071, 0, 21778071482940061661655974875633165795328, 3⟩, ⟨8191, 8191, 524288, 43556142965880123323311949751266331066368, 0⟩] 80 (.step 0 0 (.step 1 0 (.step 3 0 (.step 4 1 (.step 5 0 (.step 6 1 (.fork (.alt 2 (.fork (.alt 7 (.step 8 0 (.step 9 0 (.step 10 0 (.step 11 2 (.step 12 3 (.step 13 0 Plan.done)))))) (.alt 11 (.step 7 3 (.step 8 0 (.step 9 0 (.step 10 0 (.step 12 3 (.step 13 0 Plan.done)))))) Plan.none))) (.alt 11 (.step 2 2 (.step 7 3 (.step 8 0 (.step 9 0 (.step 10 0 (.step 12 3 (.step 13 0 Plan.done))))))) Plan.none))))))))) (by kernel_rfl) (by kernel_rfl) (by kernel_rfl) (by kernel_rfl) (by kernel_rfl) (by kernel_rfl) (fun c a d v w h => by cases d <;> exact h) ?_
                  refine T_calc (by simp only [List.getElem?_toArray, List.getElem?_cons_succ, List.getElem?_cons_zero]; rfl) (by rfl) (fun u => by go_simp <;> with_reducible rfl) ?_
                  try simp only [Act.put, List.setIfInBounds_toArray, List.set_cons_zero, List.set_cons_succ]
                  refine T_calc (by simp only [List.getElem?_toArray, List.getElem?_cons_succ, List.getElem?_cons_zero]; rfl) (by rfl) (fun u => by go_simp <;> with_reducible rfl) ?_
                  try simp only [Act.put, List.setIfInBounds_toArray, List.set_cons_zero, List.set_cons_succ]
                  refine T_calc (by simp only [List.getElem?_toArray, List.getElem?_cons_succ, List.getElem?_cons_zero]; rfl) (by rfl) (fun u => by go_simp <;> with_reducible rfl) ?_
                  try simp only [Act.put, List.setIfInBounds_toArray, List.set_cons_zero, List.set_cons_succ]
                  refine T_load1 (by simp only [List.getElem?_toArray, List.getElem?_cons_succ, List.getElem?_cons_zero]; rfl) (by rfl) rfl rfl Tryd.underlying38 rfl (by go_simp <;> with_reducible rfl) (by first | exact id | assumption | (simp; done) | (simp; omega)) ?_
                  try simp only [Act.put, List.setIfInBounds_toArray, List.set_cons_zero, List.set_cons_succ]
                  refine T_calc (by simp only [List.getElem?_toArray, List.getElem?_cons_succ, List.getElem?_cons_zero]; rfl) (by rfl) (fun u => by go_simp <;> with_reducible rfl) ?_
                  try simp only [Act.put, List.setIfInBounds_toArray, List.set_cons_zero, List.set_cons_succ]
                  refine T_load1 (by simp only [List.getElem?_toArray, List.getElem?_cons_succ, List.getElem?_cons_zero]; rfl) (by rfl) rfl rfl Tryd.underlying38 rfl (by go_simp <;> with_reducible rfl) (by first | exact id | assumption | (simp; done) | (simp; omega)) ?_
                  try simp only [Act.put, List.setIfInBounds_toArray, List.set_cons_zero, List.set_cons_succ]
                  refine T_fork (T_alt (by simp only [List.getElem?_toArray, List.getElem?_cons_succ, List.getElem?_cons_zero]; rfl) (by rfl) (fun K hK => ?_) (T_alt (by simp only [List.getElem?_toArray, List.getElem?_cons_succ, List.getElem?_cons_zero]; rfl) (by rfl) (fun K hK => ?_) T_none))
                  (go_wp2_with (first | (go_at_call 13; refine (NP.out _).mono ?_; rintro e w4 ⟨rfl, hb4⟩; have D4 : Hid (FN w4 B Q M VB VU n1 T mt0 th va (hashH n1 G) g E w0) := Lib.hid (by first | exact D3.out.drew.later hb4 | exact (D3.out.drew.alloc _).later hb4); have A4 : Hid (Blk w4 A 37 #[.int .i64 1, .int .i64 ky, .int .i64 vN]) := Lib.hid (by first | exact A3.out.drew.below hb4 A3.out.lt | exact (A3.out.drew.alloc _).below hb4 (A3.out.drew.alloc _).lt); have E4 : Hid (Blk w4 X 40 #[.int .u64 (x : Int), .int .u64 vv, .int .u64 (h : Int)]) := Lib.hid (by first | exact E3.out.drew.below hb4 E3.out.lt | exact (E3.out.drew.alloc _).below hb4 (E3.out.drew.alloc _).lt); have z4 : w3.heap.size ≤ w4.heap.size := (by first | exact hb4.size | (have := hb4.size; simp at this; omega)); (try have P4 : Hid (Blk w4 w3.heap.size 40 #[.int .u64 0, .int .u64 0, .int .u64 0]) := Lib.hid (Blk.below (Blk.new w3.drew _ _) hb4 (by simp))); obtain ⟨e40, e41, e42⟩ := cells3 E4.out; have zE4 := E4.out.lt) | (go_at_call 14; (with_reducible refine (DE.out _ (by first | exact D4.out.s | exact (D4.out.alloc _).s)).mono ?_); rintro e w5 ⟨rfl, hs5, hc5⟩; have S5 : Hid (TMW w5 B Q (some M) (T.delT (x : Int) h) (addN mt0 1 0 0 (T.looks (x : Int) h)) E w0) := Lib.hid hs5; have V5 : Hid (TV w5 VB VU n1 th va) := Lib.hid ((show TV _ VB VU n1 th va by first | exact D4.out.v | exact (D4.out.alloc _).v).chg hc5 nVB nVU); have A5 : Hid (Blk w5 A 37 #[.int .i64 1, .int .i64 ky, .int .i64 vN]) := Lib.hid ((show Blk _ A 37 #[.int .i64 1, .int .i64 ky, .int .i64 vN] by first | exact A4.out | exact A4.out.alloc _).chg hc5 nA); have E5 : Hid (Blk w5 X 40 #[.int .u64 (x : Int), .int .u64 vv, .int .u64 (h : Int)]) := Lib.hid ((show Blk _ X 40 #[.int .u64 (x : Int), .int .u64 vv, .int .u64 (h : Int)] by first | exact E4.out | exact E4.out.alloc _).chg hc5 nX); have z5 : w4.heap.size ≤ w5.heap.size := (by first | exact hc5.size | (have := hc5.size; simp at this; omega)); (first | (have P5 : Hid (Blk w5 w3.heap.size 40 #[.int .u64 0, .int .u64 0, .int .u64 0]) := Lib.hid (P4.out.chg hc5 (nN _ (Nat.le_refl _))); have q5 := cells3 P5.out; have p50 := q5.1; have p51 := q5.2.1; have p52 := q5.2.2; clear q5; have pf5 := fun j => P5.out.frozen j; have zP5 := P5.out.lt) | (have P5 : Hid (Blk w5 w4.heap.size 40 #[.int .u64 0, .int .u64 0, .int .u64 0]) := Lib.hid ((Blk.new w4 _ _).chg hc5 (nN _ z4)); have q5 := cells3 P5.out; have p50 := q5.1; have p51 := q5.2.1; have p52 := q5.2.2; clear q5; have pf5 := fun j => P5.out.frozen j; have zP5 := P5.out.lt) | skip))); refine hK.out _ _ (by first | exact Chg.drewAlloc _ _ _ | (with_reducible exact Chg.refl _ _) | (with_reducible assumption) | (refine Chg.of_below ?_; with_reducible assumption) | (with_reducible exact (Chg.refl _ _).alloc _) | (with_reducible exact (Chg.refl _ _).drewN _) | (with_reducible exact (Chg.refl _ _).drew) | exact ⟨rfl, rfl, rfl, Nat.le_refl _, fun _ _ _ => rfl⟩ | exact (Chg.refl _ _).setCell (.inl (.inl rfl)) _ | exact (Chg.refl _ _).setCell (.inl (.inr rfl)) _ | exact Chg.drew (Chg.setCell ⟨rfl, rfl, rfl, Nat.le_refl _, fun _ _ _ => rfl⟩ (.inl (.inl rfl)) _) | exact Chg.drew (Chg.setCell ⟨rfl, rfl, rfl, Nat.le_refl _, fun _ _ _ => rfl⟩ (.inl (.inr rfl)) _)) ?_; clear hK K)
                  try simp only [Act.put, List.setIfInBounds_toArray, List.set_cons_zero, List.set_cons_succ]
                  refine T_fork (T_alt (by simp only [List.getElem?_toArray, List.getElem?_cons_succ, List.getElem?_cons_zero]; rfl) (by rfl) (fun K hK => ?_) (T_alt (by simp only [List.getElem?_toArray, List.getElem?_cons_succ, List.getElem?_cons_zero]; rfl) (by rfl) (fun K hK => ?_) T_none))
                  (go_wp2_with (first | (go_at_call 13; refine (NP.out _).mono ?_; rintro e w4 ⟨rfl, hb4⟩; have D4 : Hid (FN w4 B Q M VB VU n1 T mt0 th va (hashH n1 G) g E w0) := Lib.hid (by first | exact D3.out.drew.later hb4 | exact (D3.out.drew.alloc _).later hb4); have A4 : Hid (Blk w4 A 37 #[.int .i64 1, .int .i64 ky, .int .i64 vN]) := Lib.hid (by first | exact A3.out.drew.below hb4 A3.out.lt | exact (A3.out.drew.alloc _).below hb4 (A3.out.drew.alloc _).lt); have E4 : Hid (Blk w4 X 40 #[.int .u64 (x : Int), .int .u64 vv, .int .u64 (h : Int)]) := Lib.hid (by first | exact E3.out.drew.below hb4 E3.out.lt | exact (E3.out.drew.alloc _).below hb4 (E3.out.drew.alloc _).lt); have z4 : w3.heap.size ≤ w4.heap.size := (by first | exact hb4.size | (have := hb4.size; simp at this; omega)); (try have P4 : Hid (Blk w4 w3.heap.size 40 #[.int .u64 0, .int .u64 0, .int .u64 0]) := Lib.hid (Blk.below (Blk.new w3.drew _ _) hb4 (by simp))); obtain ⟨e40, e41, e42⟩ := cells3 E4.out; have zE4 := E4.out.lt) | (go_at_call 14; (with_reducible refine (DE.out _ (by first | exact D4.out.s | exact (D4.out.alloc _).s)).mono ?_); rintro e w5 ⟨rfl, hs5, hc5⟩; have S5 : Hid (TMW w5 B Q (some M) (T.delT (x : Int) h) (addN mt0 1 0 0 (T.looks (x : Int) h)) E w0) := Lib.hid hs5; have V5 : Hid (TV w5 VB VU n1 th va) := Lib.hid ((show TV _ VB VU n1 th va by first | exact D4.out.v | exact (D4.out.alloc _).v).chg hc5 nVB nVU); have A5 : Hid (Blk w5 A 37 #[.int .i64 1, .int .i64 ky, .int .i64 vN]) := Lib.hid ((show Blk _ A 37 #[.int .i64 1, .int .i64 ky, .int .i64 vN] by first | exact A4.out | exact A4.out.alloc _).chg hc5 nA); have E5 : Hid (Blk w5 X 40 #[.int .u64 (x : Int), .int .u64 vv, .int .u64 (h : Int)]) := Lib.hid ((show Blk _ X 40 #[.int .u64 (x : Int), .int .u64 vv, .int .u64 (h : Int)] by first | exact E4.out | exact E4.out.alloc _).chg hc5 nX); have z5 : w4.heap.size ≤ w5.heap.size := (by first | exact hc5.size | (have := hc5.size; simp at this; omega)); (first | (have P5 : Hid (Blk w5 w3.heap.size 40 #[.int .u64 0, .int .u64 0, .int .u64 0]) := Lib.hid (P4.out.chg hc5 (nN _ (Nat.le_refl _))); have q5 := cells3 P5.out; have p50 := q5.1; have p51 := q5.2.1; have p52 := q5.2.2; clear q5; have pf5 := fun j => P5.out.frozen j; have zP5 := P5.out.lt) | (have P5 : Hid (Blk w5 w4.heap.size 40 #[.int .u64 0, .int .u64 0, .int .u64 0]) := Lib.hid ((Blk.new w4 _ _).chg hc5 (nN _ z4)); have q5 := cells3 P5.out; have p50 := q5.1; have p51 := q5.2.1; have p52 := q5.2.2; clear q5; have pf5 := fun j => P5.out.frozen j; have zP5 := P5.out.lt) | skip))); refine hK.out _ _ (by first | exact Chg.drewAlloc _ _ _ | (with_reducible exact Chg.refl _ _) | (with_reducible assumption) | (refine Chg.of_below ?_; with_reducible assumption) | (with_reducible exact (Chg.refl _ _).alloc _) | (with_reducible exact (Chg.refl _ _).drewN _) | (with_reducible exact (Chg.refl _ _).drew) | exact ⟨rfl, rfl, rfl, Nat.le_refl _, fun _ _ _ => rfl⟩ | exact (Chg.refl _ _).setCell (.inl (.inl rfl)) _ | exact (Chg.refl _ _).setCell (.inl (.inr rfl)) _ | exact Chg.drew (Chg.setCell ⟨rfl, rfl, rfl, Nat.le_refl _, fun _ _ _ => rfl⟩ (.inl (.inl rfl)) _) | exact Chg.drew (Chg.setCell ⟨rfl, rfl, rfl, Nat.le_refl _, fun _ _ _ => rfl⟩ (.inl (.inr rfl)) _)) ?_; clear hK K)
                  try simp only [Act.put, List.setIfInBounds_toArray, List.set_cons_zero, List.set_cons_succ]
                  refine T_calc (by simp only [List.getElem?_toArray, List.getElem?_cons_succ, List.getElem?_cons_zero]; rfl) (by rfl) (fun u => by go_simp <;> with_reducible rfl) ?_
                  try simp only [Act.put, List.setIfInBounds_toArray, List.set_cons_zero, List.set_cons_succ]
                  refine T_calc (by simp only [List.getElem?_toArray, List.getElem?_cons_succ, List.getElem?_cons_zero]; rfl) (by rfl) (fun u => by go_simp <;> with_reducible rfl) ?_
                  try simp only [Act.put, List.setIfInBounds_toArray, List.set_cons_zero, List.set_cons_succ]
                  refine T_calc (by simp only [List.getElem?_toArray, List.getElem?_cons_succ, List.getElem?_cons_zero]; rfl) (by rfl) (fun u => by go_simp <;> with_reducible rfl) ?_
                  try simp only [Act.put, List.setIfInBounds_toArray, List.set_cons_zero, List.set_cons_succ]
                  refine T_do (by simp only [List.getElem?_toArray, List.getElem?_cons_succ, List.getElem?_cons_zero]; rfl) (by rfl) (fun K hK => ?_); go_wp2_with (fail); refine hK.out _ _ (by first | exact Chg.drewAlloc _ _ _ | (with_reducible exact Chg.refl _ _) | (with_reducible assumption) | (refine Chg.of_below ?_; with_reducible assumption) | (with_reducible exact (Chg.refl _ _).alloc _) | (with_reducible exact (Chg.refl _ _).drewN _) | (with_reducible exact (Chg.refl _ _).drew) | exact ⟨rfl, rfl, rfl, Nat.le_refl _, fun _ _ _ => rfl⟩ | exact (Chg.refl _ _).setCell (.inl (.inl rfl)) _ | exact (Chg.refl _ _).setCell (.inl (.inr rfl)) _ | exact Chg.drew (Chg.setCell ⟨rfl, rfl, rfl, Nat.le_refl _, fun _ _ _ => rfl⟩ (.inl (.inl rfl)) _) | exact Chg.drew (Chg.setCell ⟨rfl, rfl, rfl, Nat.le_refl _, fun _ _ _ => rfl⟩ (.inl (.inr rfl)) _)) ?_; clear hK K
                  try simp only [Act.put, List.setIfInBounds_toArray, List.set_cons_zero, List.set_cons_succ]
                  refine T_last (by simp only [List.getElem?_toArray, List.getElem?_cons_succ, List.getElem?_cons_zero]; rfl) (by rfl) (fun K hK => ?_); go_wp2_with (fail); refine hK.out _ _ ?_; clear hK K
                  try simp only [Act.put, List.setIfInBounds_toArray, List.set_cons_zero, List.set_cons_succ]
                  refine T_calc (by simp only [List.getElem?_toArray, List.getElem?_cons_succ, List.getElem?_cons_zero]; rfl) (by rfl) (fun u => by go_simp <;> with_reducible rfl) ?_
                  try simp only [Act.put, List.setIfInBounds_toArray, List.set_cons_zero, List.set_cons_succ]
                  refine T_done ?_
                  rotate_left 1
                  (go_wp2_with (fail); refine hK.out _ _ (by first | exact Chg.drewAlloc _ _ _ | (with_reducible exact Chg.refl _ _) | (with_reducible assumption) | (refine Chg.of_below ?_; with_reducible assumption) | (with_reducible exact (Chg.refl _ _).alloc _) | (with_reducible exact (Chg.refl _ _).drewN _) | (with_reducible exact (Chg.refl _ _).drew) | exact ⟨rfl, rfl, rfl, Nat.le_refl _, fun _ _ _ => rfl⟩ | exact (Chg.refl _ _).setCell (.inl (.inl rfl)) _ | exact (Chg.refl _ _).setCell (.inl (.inr rfl)) _ | exact Chg.drew (Chg.setCell ⟨rfl, rfl, rfl, Nat.le_refl _, fun _ _ _ => rfl⟩ (.inl (.inl rfl)) _) | exact Chg.drew (Chg.setCell ⟨rfl, rfl, rfl, Nat.le_refl _, fun _ _ _ => rfl⟩ (.inl (.inr rfl)) _)) ?_; clear hK K)
                  try simp only [Act.put, List.setIfInBounds_toArray, List.set_cons_zero, List.set_cons_succ]
                  refine T_last (by simp only [List.getElem?_toArray, List.getElem?_cons_succ, List.getElem?_cons_zero]; rfl) (by rfl) (fun K hK => ?_); go_wp2_with (first | (go_at_call 13; refine (NP.out _).mono ?_; rintro e w4 ⟨rfl, hb4⟩; have D4 : Hid (FN w4 B Q M VB VU n1 T mt0 th va (hashH n1 G) g E w0) := Lib.hid (by first | exact D3.out.drew.later hb4 | exact (D3.out.drew.alloc _).later hb4); have A4 : Hid (Blk w4 A 37 #[.int .i64 1, .int .i64 ky, .int .i64 vN]) := Lib.hid (by first | exact A3.out.drew.below hb4 A3.out.lt | exact (A3.out.drew.alloc _).below hb4 (A3.out.drew.alloc _).lt); have E4 : Hid (Blk w4 X 40 #[.int .u64 (x : Int), .int .u64 vv, .int .u64 (h : Int)]) := Lib.hid (by first | exact E3.out.drew.below hb4 E3.out.lt | exact (E3.out.drew.alloc _).below hb4 (E3.out.drew.alloc _).lt); have z4 : w3.heap.size ≤ w4.heap.size := (by first | exact hb4.size | (have := hb4.size; simp at this; omega)); (try have P4 : Hid (Blk w4 w3.heap.size 40 #[.int .u64 0, .int .u64 0, .int .u64 0]) := Lib.hid (Blk.below (Blk.new w3.drew _ _) hb4 (by simp))); obtain ⟨e40, e41, e42⟩ := cells3 E4.out; have zE4 := E4.out.lt) | (go_at_call 14; (with_reducible refine (DE.out _ (by first | exact D4.out.s | exact (D4.out.alloc _).s)).mono ?_); rintro e w5 ⟨rfl, hs5, hc5⟩; have S5 : Hid (TMW w5 B Q (some M) (T.delT (x : Int) h) (addN mt0 1 0 0 (T.looks (x : Int) h)) E w0) := Lib.hid hs5; have V5 : Hid (TV w5 VB VU n1 th va) := Lib.hid ((show TV _ VB VU n1 th va by first | exact D4.out.v | exact (D4.out.alloc _).v).chg hc5 nVB nVU); have A5 : Hid (Blk w5 A 37 #[.int .i64 1, .int .i64 ky, .int .i64 vN]) := Lib.hid ((show Blk _ A 37 #[.int .i64 1, .int .i64 ky, .int .i64 vN] by first | exact A4.out | exact A4.out.alloc _).chg hc5 nA); have E5 : Hid (Blk w5 X 40 #[.int .u64 (x : Int), .int .u64 vv, .int .u64 (h : Int)]) := Lib.hid ((show Blk _ X 40 #[.int .u64 (x : Int), .int .u64 vv, .int .u64 (h : Int)] by first | exact E4.out | exact E4.out.alloc _).chg hc5 nX); have z5 : w4.heap.size ≤ w5.heap.size := (by first | exact hc5.size | (have := hc5.size; simp at this; omega)); (first | (have P5 : Hid (Blk w5 w3.heap.size 40 #[.int .u64 0, .int .u64 0, .int .u64 0]) := Lib.hid (P4.out.chg hc5 (nN _ (Nat.le_refl _))); have q5 := cells3 P5.out; have p50 := q5.1; have p51 := q5.2.1; have p52 := q5.2.2; clear q5; have pf5 := fun j => P5.out.frozen j; have zP5 := P5.out.lt) | (have P5 : Hid (Blk w5 w4.heap.size 40 #[.int .u64 0, .int .u64 0, .int .u64 0]) := Lib.hid ((Blk.new w4 _ _).chg hc5 (nN _ z4)); have q5 := cells3 P5.out; have p50 := q5.1; have p51 := q5.2.1; have p52 := q5.2.2; clear q5; have pf5 := fun j => P5.out.frozen j; have zP5 := P5.out.lt) | skip))); refine hK.out _ _ ?_; clear hK K
                  try simp only [Act.put, List.setIfInBounds_toArray, List.set_cons_zero, List.set_cons_succ]
                  refine T_calc (by simp only [List.getElem?_toArray, List.getElem?_cons_succ, List.getElem?_cons_zero]; rfl) (by rfl) (fun u => by go_simp <;> with_reducible rfl) ?_
                  try simp only [Act.put, List.setIfInBounds_toArray, List.set_cons_zero, List.set_cons_succ]
                  refine T_calc (by simp only [List.getElem?_toArray, List.getElem?_cons_succ, List.getElem?_cons_zero]; rfl) (by rfl) (fun u => by go_simp <;> with_reducible rfl) ?_
                  try simp only [Act.put, List.setIfInBounds_toArray, List.set_cons_zero, List.set_cons_succ]
                  refine T_calc (by simp only [List.getElem?_toArray, List.getElem?_cons_succ, List.getElem?_cons_zero]; rfl) (by rfl) (fun u => by go_simp <;> with_reducible rfl) ?_
                  try simp only [Act.put, List.setIfInBounds_toArray, List.set_cons_zero, List.set_cons_succ]
                  refine T_last (by simp only [List.getElem?_toArray, List.getElem?_cons_succ, List.getElem?_cons_zero]; rfl) (by rfl) (fun K hK => ?_); go_wp2_with (fail); refine hK.out _ _ ?_; clear hK K
                  try simp only [Act.put, List.setIfInBounds_toArray, List.set_cons_zero, List.set_cons_succ]
                  refine T_calc (by simp only [List.getElem?_toArray, List.getElem?_cons_succ, List.getElem?_cons_zero]; rfl) (by rfl) (fun u => by go_simp <;> with_reducible rfl) ?_
                  try simp only [Act.put, List.setIfInBounds_toArray, List.set_cons_zero, List.set_cons_succ]
                  refine T_done ?_
                  rotate_left 1
                  rotate_right 2
                  rotate_left 2
                  (go_wp2_with (fail); refine hK.out _ _ (by first | exact Chg.drewAlloc _ _ _ | (with_reducible exact Chg.refl _ _) | (with_reducible assumption) | (refine Chg.of_below ?_; with_reducible assumption) | (with_reducible exact (Chg.refl _ _).alloc _) | (with_reducible exact (Chg.refl _ _).drewN _) | (with_reducible exact (Chg.refl _ _).drew) | exact ⟨rfl, rfl, rfl, Nat.le_refl _, fun _ _ _ => rfl⟩ | exact (Chg.refl _ _).setCell (.inl (.inl rfl)) _ | exact (Chg.refl _ _).setCell (.inl (.inr rfl)) _ | exact Chg.drew (Chg.setCell ⟨rfl, rfl, rfl, Nat.le_refl _, fun _ _ _ => rfl⟩ (.inl (.inl rfl)) _) | exact Chg.drew (Chg.setCell ⟨rfl, rfl, rfl, Nat.le_refl _, fun _ _ _ => rfl⟩ (.inl (.inr rfl)) _)) ?_; clear hK K)
                  try simp only [Act.put, List.setIfInBounds_toArray, List.set_cons_zero, List.set_cons_succ]
                  refine T_do (by simp only [List.getElem?_toArray, List.getElem?_cons_succ, List.getElem?_cons_zero]; rfl) (by rfl) (fun K hK => ?_); go_wp2_with (first | (go_at_call 13; refine (NP.out _).mono ?_; rintro e w4 ⟨rfl, hb4⟩; have D4 : Hid (FN w4 B Q M VB VU n1 T mt0 th va (hashH n1 G) g E w0) := Lib.hid (by first | exact D3.out.drew.later hb4 | exact (D3.out.drew.alloc _).later hb4); have A4 : Hid (Blk w4 A 37 #[.int .i64 1, .int .i64 ky, .int .i64 vN]) := Lib.hid (by first | exact A3.out.drew.below hb4 A3.out.lt | exact (A3.out.drew.alloc _).below hb4 (A3.out.drew.alloc _).lt); have E4 : Hid (Blk w4 X 40 #[.int .u64 (x : Int), .int .u64 vv, .int .u64 (h : Int)]) := Lib.hid (by first | exact E3.out.drew.below hb4 E3.out.lt | exact (E3.out.drew.alloc _).below hb4 (E3.out.drew.alloc _).lt); have z4 : w3.heap.size ≤ w4.heap.size := (by first | exact hb4.size | (have := hb4.size; simp at this; omega)); (try have P4 : Hid (Blk w4 w3.heap.size 40 #[.int .u64 0, .int .u64 0, .int .u64 0]) := Lib.hid (Blk.below (Blk.new w3.drew _ _) hb4 (by simp))); obtain ⟨e40, e41, e42⟩ := cells3 E4.out; have zE4 := E4.out.lt) | (go_at_call 14; (with_reducible refine (DE.out _ (by first | exact D4.out.s | exact (D4.out.alloc _).s)).mono ?_); rintro e w5 ⟨rfl, hs5, hc5⟩; have S5 : Hid (TMW w5 B Q (some M) (T.delT (x : Int) h) (addN mt0 1 0 0 (T.looks (x : Int) h)) E w0) := Lib.hid hs5; have V5 : Hid (TV w5 VB VU n1 th va) := Lib.hid ((show TV _ VB VU n1 th va by first | exact D4.out.v | exact (D4.out.alloc _).v).chg hc5 nVB nVU); have A5 : Hid (Blk w5 A 37 #[.int .i64 1, .int .i64 ky, .int .i64 vN]) := Lib.hid ((show Blk _ A 37 #[.int .i64 1, .int .i64 ky, .int .i64 vN] by first | exact A4.out | exact A4.out.alloc _).chg hc5 nA); have E5 : Hid (Blk w5 X 40 #[.int .u64 (x : Int), .int .u64 vv, .int .u64 (h : Int)]) := Lib.hid ((show Blk _ X 40 #[.int .u64 (x : Int), .int .u64 vv, .int .u64 (h : Int)] by first | exact E4.out | exact E4.out.alloc _).chg hc5 nX); have z5 : w4.heap.size ≤ w5.heap.size := (by first | exact hc5.size | (have := hc5.size; simp at this; omega)); (first | (have P5 : Hid (Blk w5 w3.heap.size 40 #[.int .u64 0, .int .u64 0, .int .u64 0]) := Lib.hid (P4.out.chg hc5 (nN _ (Nat.le_refl _))); have q5 := cells3 P5.out; have p50 := q5.1; have p51 := q5.2.1; have p52 := q5.2.2; clear q5; have pf5 := fun j => P5.out.frozen j; have zP5 := P5.out.lt) | (have P5 : Hid (Blk w5 w4.heap.size 40 #[.int .u64 0, .int .u64 0, .int .u64 0]) := Lib.hid ((Blk.new w4 _ _).chg hc5 (nN _ z4)); have q5 := cells3 P5.out; have p50 := q5.1; have p51 := q5.2.1; have p52 := q5.2.2; clear q5; have pf5 := fun j => P5.out.frozen j; have zP5 := P5.out.lt) | skip))); refine hK.out _ _ (by first | exact Chg.drewAlloc _ _ _ | (with_reducible exact Chg.refl _ _) | (with_reducible assumption) | (refine Chg.of_below ?_; with_reducible assumption) | (with_reducible exact (Chg.refl _ _).alloc _) | (with_reducible exact (Chg.refl _ _).drewN _) | (with_reducible exact (Chg.refl _ _).drew) | exact ⟨rfl, rfl, rfl, Nat.le_refl _, fun _ _ _ => rfl⟩ | exact (Chg.refl _ _).setCell (.inl (.inl rfl)) _ | exact (Chg.refl _ _).setCell (.inl (.inr rfl)) _ | exact Chg.drew (Chg.setCell ⟨rfl, rfl, rfl, Nat.le_refl _, fun _ _ _ => rfl⟩ (.inl (.inl rfl)) _) | exact Chg.drew (Chg.setCell ⟨rfl, rfl, rfl, Nat.le_refl _, fun _ _ _ => rfl⟩ (.inl (.inr rfl)) _)) ?_; clear hK K
                  try simp only [Act.put, List.setIfInBounds_toArray, List.set_cons_zero, List.set_cons_succ]
                  refine T_last (by simp only [List.getElem?_toArray, List.getElem?_cons_succ, List.getElem?_cons_zero]; rfl) (by rfl) (fun K hK => ?_); go_wp2_with (first | (go_at_call 13; refine (NP.out _).mono ?_; rintro e w4 ⟨rfl, hb4⟩; have D4 : Hid (FN w4 B Q M VB VU n1 T mt0 th va (hashH n1 G) g E w0) := Lib.hid (by first | exact D3.out.drew.later hb4 | exact (D3.out.drew.alloc _).later hb4); have A4 : Hid (Blk w4 A 37 #[.int .i64 1, .int .i64 ky, .int .i64 vN]) := Lib.hid (by first | exact A3.out.drew.below hb4 A3.out.lt | exact (A3.out.drew.alloc _).below hb4 (A3.out.drew.alloc _).lt); have E4 : Hid (Blk w4 X 40 #[.int .u64 (x : Int), .int .u64 vv, .int .u64 (h : Int)]) := Lib.hid (by first | exact E3.out.drew.below hb4 E3.out.lt | exact (E3.out.drew.alloc _).below hb4 (E3.out.drew.alloc _).lt); have z4 : w3.heap.size ≤ w4.heap.size := (by first | exact hb4.size | (have := hb4.size; simp at this; omega)); (try have P4 : Hid (Blk w4 w3.heap.size 40 #[.int .u64 0, .int .u64 0, .int .u64 0]) := Lib.hid (Blk.below (Blk.new w3.drew _ _) hb4 (by simp))); obtain ⟨e40, e41, e42⟩ := cells3 E4.out; have zE4 := E4.out.lt) | (go_at_call 14; (with_reducible refine (DE.out _ (by first | exact D4.out.s | exact (D4.out.alloc _).s)).mono ?_); rintro e w5 ⟨rfl, hs5, hc5⟩; have S5 : Hid (TMW w5 B Q (some M) (T.delT (x : Int) h) (addN mt0 1 0 0 (T.looks (x : Int) h)) E w0) := Lib.hid hs5; have V5 : Hid (TV w5 VB VU n1 th va) := Lib.hid ((show TV _ VB VU n1 th va by first | exact D4.out.v | exact (D4.out.alloc _).v).chg hc5 nVB nVU); have A5 : Hid (Blk w5 A 37 #[.int .i64 1, .int .i64 ky, .int .i64 vN]) := Lib.hid ((show Blk _ A 37 #[.int .i64 1, .int .i64 ky, .int .i64 vN] by first | exact A4.out | exact A4.out.alloc _).chg hc5 nA); have E5 : Hid (Blk w5 X 40 #[.int .u64 (x : Int), .int .u64 vv, .int .u64 (h : Int)]) := Lib.hid ((show Blk _ X 40 #[.int .u64 (x : Int), .int .u64 vv, .int .u64 (h : Int)] by first | exact E4.out | exact E4.out.alloc _).chg hc5 nX); have z5 : w4.heap.size ≤ w5.heap.size := (by first | exact hc5.size | (have := hc5.size; simp at this; omega)); (first | (have P5 : Hid (Blk w5 w3.heap.size 40 #[.int .u64 0, .int .u64 0, .int .u64 0]) := Lib.hid (P4.out.chg hc5 (nN _ (Nat.le_refl _))); have q5 := cells3 P5.out; have p50 := q5.1; have p51 := q5.2.1; have p52 := q5.2.2; clear q5; have pf5 := fun j => P5.out.frozen j; have zP5 := P5.out.lt) | (have P5 : Hid (Blk w5 w4.heap.size 40 #[.int .u64 0, .int .u64 0, .int .u64 0]) := Lib.hid ((Blk.new w4 _ _).chg hc5 (nN _ z4)); have q5 := cells3 P5.out; have p50 := q5.1; have p51 := q5.2.1; have p52 := q5.2.2; clear q5; have pf5 := fun j => P5.out.frozen j; have zP5 := P5.out.lt) | skip))); refine hK.out _ _ ?_; clear hK K
                  try simp only [Act.put, List.setIfInBounds_toArray, List.set_cons_zero, List.set_cons_succ]
                  refine T_calc (by simp only [List.getElem?_toArray, List.getElem?_cons_succ, List.getElem?_cons_zero]; rfl) (by rfl) (fun u => by go_simp <;> with_reducible rfl) ?_
                  try simp only [Act.put, List.setIfInBounds_toArray, List.set_cons_zero, List.set_cons_succ]
                  refine T_calc (by simp only [List.getElem?_toArray, List.getElem?_cons_succ, List.getElem?_cons_zero]; rfl) (by rfl) (fun u => by go_simp <;> with_reducible rfl) ?_
                  try simp only [Act.put, List.setIfInBounds_toArray, List.set_cons_zero, List.set_cons_succ]
                  refine T_calc (by simp only [List.getElem?_toArray, List.getElem?_cons_succ, List.getElem?_cons_zero]; rfl) (by rfl) (fun u => by go_simp <;> with_reducible rfl) ?_
                  try simp only [Act.put, List.setIfInBounds_toArray, List.set_cons_zero, List.set_cons_succ]
                  refine T_last (by simp only [List.getElem?_toArray, List.getElem?_cons_succ, List.getElem?_cons_zero]; rfl) (by rfl) (fun K hK => ?_); go_wp2_with (fail); refine hK.out _ _ ?_; clear hK K
                  try simp only [Act.put, List.setIfInBounds_toArray, List.set_cons_zero, List.set_cons_succ]
                  refine T_calc (by simp only [List.getElem?_toArray, List.getElem?_cons_succ, List.getElem?_cons_zero]; rfl) (by rfl) (fun u => by go_simp <;> with_reducible rfl) ?_
                  try simp only [Act.put, List.setIfInBounds_toArray, List.set_cons_zero, List.set_cons_succ]
                  refine T_done ?_
                  rotate_left 1
                  rotate_right 3
                  all_goals (go_wp2; go_meet; refine ⟨_, rfl, rfl, ?_, ?_, ?_, ?_, ?_, ?_⟩)
                  all_goals
                    first
                      | exact Nat.le_refl _
                      | assumption
                      | exact Nat.le_trans z4 z5
                      | with_reducible exact S5.out.chg (((Chg.refl _ _).set1 _ _).set1 _ _ |>.set1 _ _) (fun b e => by subst e; omega) (by omega) (by omega) (fun b e => by cases e; omega)
                      | with_reducible exact (S5.out.alloc _).chg (((Chg.refl _ _).set1 _ _).set1 _ _ |>.set1 _ _) (fun b e => by subst e; omega) (by omega) (by omega) (fun b e => by cases e; omega)
                      | with_reducible exact V5.out.chg (((Chg.refl _ _).set1 _ _).set1 _ _ |>.set1 _ _) (by omega) (by omega)
                      | with_reducible exact (V5.out.later ((Below.refl _ _).alloc (Nat.le_refl _) _)).chg (((Chg.refl _ _).set1 _ _).set1 _ _ |>.set1 _ _) (by omega) (by omega)
                      | with_reducible exact A5.out.chg (((Chg.refl _ _).set1 _ _).set1 _ _ |>.set1 _ _) (by omega)
                      | with_reducible exact (A5.out.alloc _).chg (((Chg.refl _ _).set1 _ _).set1 _ _ |>.set1 _ _) (by omega)
                      | with_reducible exact E5.out.chg (((Chg.refl _ _).set1 _ _).set1 _ _ |>.set1 _ _) (by omega)
                      | with_reducible exact (E5.out.alloc _).chg (((Chg.refl _ _).set1 _ _).set1 _ _ |>.set1 _ _) (by omega)
                      | with_reducible exact Blk.new _ _ _
                      | with_reducible exact S5.out.alloc _
                      | with_reducible exact V5.out.later ((Below.refl _ _).alloc (Nat.le_refl _) _)
                      | with_reducible exact A5.out.alloc _
                      | with_reducible exact E5.out.alloc _
                      | exact ((P5.out.set 0 _).set 1 _).set 2 _
                case rest =>
                  obtain ⟨P, rfl, rfl, hP, hPb, hS, hV, hA, hE⟩ := hcut
                  have hSp := HSP.out
                  have SC := Lib.hid hS
                  have VC := Lib.hid hV
                  have AC := Lib.hid hA
                  obtain ⟨p0, p1, p2⟩ := cells3 hPb
                  obtain ⟨f0, f1, f2⟩ := cells3 hE
                  have zP := hPb.lt
                  have zf := hE.lt
                  obtain ⟨v0, v1⟩ := hV.cells hx
                  have zV0 := hV.b.lt
                  have zV1 := hV.u.lt
                  have vf0 := hV.b.frozen x
                  clear hS hV hA hE hPb
                  cases hh : T.has (x : Int) h with
                  | true =>
                    have hv := hva (hth.trans hh)
                    rw [hh] at hth
                    rw [hv] at v1
                    clear hv hva hh
                    go_wp2
                    refine wp_region_seq (fun _ => False) #[⟨0, 0, 87112285931760246646623899502532662132736, 524288, 0⟩, ⟨0, 0, 174224571863520493293247799005065324265472, 512, 0⟩, ⟨0, 0, 348449143727040986586495598010130648530944, 16384, 0⟩, ⟨4, 4, 696898287454081973172991196020261297061888, 348449143727040986586495598010130648530944, 1⟩, ⟨10, 14, 1393796574908163946345982392040522594123776, 871122859317602466466238995025326621327360, 0⟩, ⟨16, 30, 2787593149816327892691964784081045188247552, 1393796574908163946345982392040522594123776, 1⟩, ⟨33, 63, 5575186299632655785383929568162090376495104, 2874705435748088139338588683583577850380288, 0⟩, ⟨64, 127, 11150372599265311570767859136324180752990208, 5575186299632655785383929568162090376495104, 0⟩, ⟨128, 255, 22300745198530623141535718272648361505980416, 11150372599265311570767859136324180753514496, 0⟩, ⟨384, 511, 44601490397061246283071436545296723011960832, 33451117797795934712303577408972542258970624, 0⟩, ⟨512, 1023, 89202980794122492566142873090593446023921664, 44601490397061246283071436545296723012222976, 0⟩, ⟨1536, 2047, 178405961588244985132285746181186892047843328, 133804471191183738849214309635890169035882496, 1⟩, ⟨512, 1023, 356811923176489970264571492362373784095686656, 44601490397061246283071436545296723011961856, 0⟩, ⟨512, 1023, 713623846352979940529142984724747568191373312, 44601490397061246283071436545296723011977216, 0⟩, ⟨8704, 9215, 1427247692705959881058285969449495136382746624, 758225336750041186812214421270044291203334144, 1⟩, ⟨20992, 29695, 2854495385411919762116571938898990272765493248, 1828661106279511097605928898357165643490394112, 0⟩, ⟨33280, 62463, 5708990770823839524233143877797980545530986496, 2899096875808981008399643375444286995777454080, 1⟩, ⟨68096, 131071, 11417981541647679048466287755595961091061972992, 5931998222809145755648501060524464160590790656, 0⟩, ⟨131712, 262143, 22835963083295358096932575511191922182123945984, 11473733404644005606320127051277581994826924032, 0⟩, ⟨262272, 524287, 45671926166590716193865151022383844364247891968, 22847113455894623408503343370328246362876936192, 0⟩] 84008 [(0, 0), (1, 0), (2, 0), (3, 1), (4, 0), (5, 1), (6, 0), (7, 0), (8, 0), (9, 0), (10, 0), (11, 1), (12, 0), (13, 0), (14, 1), (15, 0), (16, 1), (17, 0), (18, 0), (19, 0)] (by kernel_rfl) (by kernel_rfl) (by kernel_rfl) (by kernel_rfl) (by kernel_rfl) (by kernel_rfl) (fun c a d v w h => by cases d <;> exact h) ?_
                    refine seq_calc (by simp only [List.getElem?_toArray, List.getElem?_cons_succ, List.getElem?_cons_zero]; rfl) (by rfl) (fun u => by go_simp <;> with_reducible rfl) ?_
                    try simp only [Act.put, List.setIfInBounds_toArray, List.set_cons_zero, List.set_cons_succ]
                    refine seq_calc (by simp only [List.getElem?_toArray, List.getElem?_cons_succ, List.getElem?_cons_zero]; rfl) (by rfl) (fun u => by go_simp <;> with_reducible rfl) ?_
                    try simp only [Act.put, List.setIfInBounds_toArray, List.set_cons_zero, List.set_cons_succ]
                    refine seq_calc (by simp only [List.getElem?_toArray, List.getElem?_cons_succ, List.getElem?_cons_zero]; rfl) (by rfl) (fun u => by go_simp <;> with_reducible rfl) ?_
                    try simp only [Act.put, List.setIfInBounds_toArray, List.set_cons_zero, List.set_cons_succ]
                    refine seq_load1 (by simp only [List.getElem?_toArray, List.getElem?_cons_succ, List.getElem?_cons_zero]; rfl) (by rfl) rfl rfl Tryd.underlying38 rfl (by go_simp <;> with_reducible rfl) (by first | exact id | assumption | (simp; done) | (simp; omega)) ?_
                    try simp only [Act.put, List.setIfInBounds_toArray, List.set_cons_zero, List.set_cons_succ]
                    refine seq_calc (by simp only [List.getElem?_toArray, List.getElem?_cons_succ, List.getElem?_cons_zero]; rfl) (by rfl) (fun u => by go_simp <;> with_reducible rfl) ?_
                    try simp only [Act.put, List.setIfInBounds_toArray, List.set_cons_zero, List.set_cons_succ]
                    refine seq_load1 (by simp only [List.getElem?_toArray, List.getElem?_cons_succ, List.getElem?_cons_zero]; rfl) (by rfl) rfl rfl Tryd.underlying4 rfl (by go_simp <;> with_reducible rfl) (by first | exact id | assumption | (simp; done) | (simp; omega)) ?_
                    try simp only [Act.put, List.setIfInBounds_toArray, List.set_cons_zero, List.set_cons_succ]
                    refine seq_calc (by simp only [List.getElem?_toArray, List.getElem?_cons_succ, List.getElem?_cons_zero]; rfl) (by rfl) (fun u => by go_simp <;> with_reducible rfl) ?_
                    try simp only [Act.put, List.setIfInBounds_toArray, List.set_cons_zero, List.set_cons_succ]
                    refine seq_calc (by simp only [List.getElem?_toArray, List.getElem?_cons_succ, List.getElem?_cons_zero]; rfl) (by rfl) (fun u => by go_simp <;> with_reducible rfl) ?_
                    try simp only [Act.put, List.setIfInBounds_toArray, List.set_cons_zero, List.set_cons_succ]
                    first
                      | (refine seq_skip (by simp only [List.getElem?_toArray, List.getElem?_cons_succ, List.getElem?_cons_zero]; rfl) (by rfl) ?_)
                      | (refine seq_calc (by simp only [List.getElem?_toArray, List.getElem?_cons_succ, List.getElem?_cons_zero]; rfl) (by rfl) (fun u => by go_simp <;> with_reducible rfl) ?_)
                    try simp only [Act.put, List.setIfInBounds_toArray, List.set_cons_zero, List.set_cons_succ]
                    first
                      | (refine seq_skip (by simp only [List.getElem?_toArray, List.getElem?_cons_succ, List.getElem?_cons_zero]; rfl) (by rfl) ?_)
                      | (refine seq_calc (by simp only [List.getElem?_toArray, List.getElem?_cons_succ, List.getElem?_cons_zero]; rfl) (by rfl) (fun u => by go_simp <;> with_reducible rfl) ?_)
                    try simp only [Act.put, List.setIfInBounds_toArray, List.set_cons_zero, List.set_cons_succ]
                    first
                      | (refine seq_skip (by simp only [List.getElem?_toArray, List.getElem?_cons_succ, List.getElem?_cons_zero]; rfl) (by rfl) ?_)
                      | (refine seq_calc (by simp only [List.getElem?_toArray, List.getElem?_cons_succ, List.getElem?_cons_zero]; rfl) (by rfl) (fun u => by go_simp <;> with_reducible rfl) ?_)
                    try simp only [Act.put, List.setIfInBounds_toArray, List.set_cons_zero, List.set_cons_succ]
                    first
                      | (refine seq_skip (by simp only [List.getElem?_toArray, List.getElem?_cons_succ, List.getElem?_cons_zero]; rfl) (by rfl) ?_)
                      | (refine seq_load1 (by simp only [List.getElem?_toArray, List.getElem?_cons_succ, List.getElem?_cons_zero]; rfl) (by rfl) rfl rfl Tryd.underlying38 rfl (by go_simp <;> with_reducible rfl) (by first | exact id | assumption | (simp; done) | (simp; omega)) ?_)
                    try simp only [Act.put, List.setIfInBounds_toArray, List.set_cons_zero, List.set_cons_succ]
                    first
                      | (refine seq_skip (by simp only [List.getElem?_toArray, List.getElem?_cons_succ, List.getElem?_cons_zero]; rfl) (by rfl) ?_)
                      | (refine seq_calc (by simp only [List.getElem?_toArray, List.getElem?_cons_succ, List.getElem?_cons_zero]; rfl) (by rfl) (fun u => by go_simp <;> with_reducible rfl) ?_)
                    try simp only [Act.put, List.setIfInBounds_toArray, List.set_cons_zero, List.set_cons_succ]
                    first
                      | (refine seq_skip (by simp only [List.getElem?_toArray, List.getElem?_cons_succ, List.getElem?_cons_zero]; rfl) (by rfl) ?_)
                      | (refine seq_calc (by simp only [List.getElem?_toArray, List.getElem?_cons_succ, List.getElem?_cons_zero]; rfl) (by rfl) (fun u => by go_simp <;> with_reducible rfl) ?_)
                    try simp only [Act.put, List.setIfInBounds_toArray, List.set_cons_zero, List.set_cons_succ]
                    first
                      | (refine seq_skip (by simp only [List.getElem?_toArray, List.getElem?_cons_succ, List.getElem?_cons_zero]; rfl) (by rfl) ?_)
                      | (refine seq_load1 (by simp only [List.getElem?_toArray, List.getElem?_cons_succ, List.getElem?_cons_zero]; rfl) (by rfl) rfl rfl Tryd.underlying38 rfl (by go_simp <;> with_reducible rfl) (by first | exact id | assumption | (simp; done) | (simp; omega)) ?_)
                    try simp only [Act.put, List.setIfInBounds_toArray, List.set_cons_zero, List.set_cons_succ]
                    first
                      | (refine seq_skip (by simp only [List.getElem?_toArray, List.getElem?_cons_succ, List.getElem?_cons_zero]; rfl) (by rfl) ?_)
                      | (refine seq_calc (by simp only [List.getElem?_toArray, List.getElem?_cons_succ, List.getElem?_cons_zero]; rfl) (by rfl) (fun u => by go_simp <;> with_reducible rfl) ?_)
                    try simp only [Act.put, List.setIfInBounds_toArray, List.set_cons_zero, List.set_cons_succ]
                    first
                      | (refine seq_skip (by simp only [List.getElem?_toArray, List.getElem?_cons_succ, List.getElem?_cons_zero]; rfl) (by rfl) ?_)
                      | (refine seq_load1 (by simp only [List.getElem?_toArray, List.getElem?_cons_succ, List.getElem?_cons_zero]; rfl) (by rfl) rfl rfl Tryd.underlying38 rfl (by go_simp <;> with_reducible rfl) (by first | exact id | assumption | (simp; done) | (simp; omega)) ?_)
                    try simp only [Act.put, List.setIfInBounds_toArray, List.set_cons_zero, List.set_cons_succ]
                    first
                      | (refine seq_skip (by simp only [List.getElem?_toArray, List.getElem?_cons_succ, List.getElem?_cons_zero]; rfl) (by rfl) ?_)
                      | (refine seq_calc (by simp only [List.getElem?_toArray, List.getElem?_cons_succ, List.getElem?_cons_zero]; rfl) (by rfl) (fun u => by go_simp <;> with_reducible rfl) ?_)
                    try simp only [Act.put, List.setIfInBounds_toArray, List.set_cons_zero, List.set_cons_succ]
                    first
                      | (refine seq_skip (by simp only [List.getElem?_toArray, List.getElem?_cons_succ, List.getElem?_cons_zero]; rfl) (by rfl) ?_)
                      | (refine seq_calc (by simp only [List.getElem?_toArray, List.getElem?_cons_succ, List.getElem?_cons_zero]; rfl) (by rfl) (fun u => by go_simp <;> with_reducible rfl) ?_)
                    try simp only [Act.put, List.setIfInBounds_toArray, List.set_cons_zero, List.set_cons_succ]
                    refine seq_calc (by simp only [List.getElem?_toArray, List.getElem?_cons_succ, List.getElem?_cons_zero]; rfl) (by rfl) (fun u => by go_simp <;> with_reducible rfl) ?_
                    try simp only [Act.put, List.setIfInBounds_toArray, List.set_cons_zero, List.set_cons_succ]
                    refine seq_nil ?_
                    go_wp2
                    go_meet
                    have hC : Chg (fun b => b = VB) wc (wc.drew.setCell ⟨VB, x, none⟩ (.bool false)) := (Chg.refl _ wc).drew.set1 _ _
                    have hV9 := (VC.out.later (Below.refl _ _).drew).setB hx false
                    refine ⟨T.delT x h, upd th x false, va, _, ⟨SC.out.chg hC ?_ ?_ ?_ ?_, ⟨hV9.b, hV9.u, hV9.ne⟩, ?_, ?_, ?_, ?_⟩, AC.out.chg hC ?_, HL0.out, fun h => absurd rfl h⟩
                    · rintro b rfl; exact hSp.o.2.2.2.1
                    · exact fun e => hSp.b.1 e.symm
                    · exact fun e => hSp.b.2.1 e.symm
                    · rintro b e rfl; exact hSp.m.2.2.1 (Option.some.inj e)
                    · exact D3.out.f.delT x h
                    · rw [HH.out]; exact D3.out.c.del D3.out.f hx
                    · rw [HH.out]; exact D3.out.y.del D3.out.f
                    · rw [delT_n]; exact D3.out.g
                    · exact hAVB
                  | false =>
                    rw [hh] at hth
                    clear hva hh
                    go_wp2
                    refine wp_region_seq (fun _ => False) #[⟨0, 0, 87112285931760246646623899502532662132736, 524288, 0⟩, ⟨0, 0, 174224571863520493293247799005065324265472, 512, 0⟩, ⟨0, 0, 348449143727040986586495598010130648530944, 16384, 0⟩, ⟨4, 4, 696898287454081973172991196020261297061888, 348449143727040986586495598010130648530944, 1⟩, ⟨10, 14, 1393796574908163946345982392040522594123776, 871122859317602466466238995025326621327360, 0⟩, ⟨16, 30, 2787593149816327892691964784081045188247552, 1393796574908163946345982392040522594123776, 1⟩, ⟨33, 63, 5575186299632655785383929568162090376495104, 2874705435748088139338588683583577850380288, 0⟩, ⟨64, 127, 11150372599265311570767859136324180752990208, 5575186299632655785383929568162090376495104, 0⟩, ⟨128, 255, 22300745198530623141535718272648361505980416, 11150372599265311570767859136324180753514496, 0⟩, ⟨384, 511, 44601490397061246283071436545296723011960832, 33451117797795934712303577408972542258970624, 0⟩, ⟨512, 1023, 89202980794122492566142873090593446023921664, 44601490397061246283071436545296723012222976, 0⟩, ⟨1536, 2047, 178405961588244985132285746181186892047843328, 133804471191183738849214309635890169035882496, 1⟩, ⟨512, 1023, 356811923176489970264571492362373784095686656, 44601490397061246283071436545296723011961856, 0⟩, ⟨512, 1023, 713623846352979940529142984724747568191373312, 44601490397061246283071436545296723011977216, 0⟩, ⟨8704, 9215, 1427247692705959881058285969449495136382746624, 758225336750041186812214421270044291203334144, 1⟩, ⟨20992, 29695, 2854495385411919762116571938898990272765493248, 1828661106279511097605928898357165643490394112, 0⟩, ⟨33280, 62463, 5708990770823839524233143877797980545530986496, 2899096875808981008399643375444286995777454080, 1⟩, ⟨68096, 131071, 11417981541647679048466287755595961091061972992, 5931998222809145755648501060524464160590790656, 0⟩, ⟨131712, 262143, 22835963083295358096932575511191922182123945984, 11473733404644005606320127051277581994826924032, 0⟩, ⟨262272, 524287, 45671926166590716193865151022383844364247891968, 22847113455894623408503343370328246362876936192, 0⟩] 84008 [(0, 0), (1, 0), (2, 0), (3, 1), (4, 0), (5, 1), (6, 0), (7, 0), (8, 0), (9, 0), (10, 0), (11, 1), (12, 0), (13, 0), (14, 1), (15, 0), (16, 1), (17, 0), (18, 0), (19, 0)] (by kernel_rfl) (by kernel_rfl) (by kernel_rfl) (by kernel_rfl) (by kernel_rfl) (by kernel_rfl) (fun c a d v w h => by cases d <;> exact h) ?_
                    refine seq_calc (by simp only [List.getElem?_toArray, List.getElem?_cons_succ, List.getElem?_cons_zero]; rfl) (by rfl) (fun u => by go_simp <;> with_reducible rfl) ?_
                    try simp only [Act.put, List.setIfInBounds_toArray, List.set_cons_zero, List.set_cons_succ]
                    refine seq_calc (by simp only [List.getElem?_toArray, List.getElem?_cons_succ, List.getElem?_cons_zero]; rfl) (by rfl) (fun u => by go_simp <;> with_reducible rfl) ?_
                    try simp only [Act.put, List.setIfInBounds_toArray, List.set_cons_zero, List.set_cons_succ]
                    refine seq_calc (by simp only [List.getElem?_toArray, List.getElem?_cons_succ, List.getElem?_cons_zero]; rfl) (by rfl) (fun u => by go_simp <;> with_reducible rfl) ?_
                    try simp only [Act.put, List.setIfInBounds_toArray, List.set_cons_zero, List.set_cons_succ]
                    refine seq_load1 (by simp only [List.getElem?_toArray, List.getElem?_cons_succ, List.getElem?_cons_zero]; rfl) (by rfl) rfl rfl Tryd.underlying38 rfl (by go_simp <;> with_reducible rfl) (by first | exact id | assumption | (simp; done) | (simp; omega)) ?_
                    try simp only [Act.put, List.setIfInBounds_toArray, List.set_cons_zero, List.set_cons_succ]
                    refine seq_calc (by simp only [List.getElem?_toArray, List.getElem?_cons_succ, List.getElem?_cons_zero]; rfl) (by rfl) (fun u => by go_simp <;> with_reducible rfl) ?_
                    try simp only [Act.put, List.setIfInBounds_toArray, List.set_cons_zero, List.set_cons_succ]
                    refine seq_load1 (by simp only [List.getElem?_toArray, List.getElem?_cons_succ, List.getElem?_cons_zero]; rfl) (by rfl) rfl rfl Tryd.underlying4 rfl (by go_simp <;> with_reducible rfl) (by first | exact id | assumption | (simp; done) | (simp; omega)) ?_
                    try simp only [Act.put, List.setIfInBounds_toArray, List.set_cons_zero, List.set_cons_succ]
                    refine seq_calc (by simp only [List.getElem?_toArray, List.getElem?_cons_succ, List.getElem?_cons_zero]; rfl) (by rfl) (fun u => by go_simp <;> with_reducible rfl) ?_
                    try simp only [Act.put, List.setIfInBounds_toArray, List.set_cons_zero, List.set_cons_succ]
                    refine seq_calc (by simp only [List.getElem?_toArray, List.getElem?_cons_succ, List.getElem?_cons_zero]; rfl) (by rfl) (fun u => by go_simp <;> with_reducible rfl) ?_
                    try simp only [Act.put, List.setIfInBounds_toArray, List.set_cons_zero, List.set_cons_succ]
                    first
                      | (refine seq_skip (by simp only [List.getElem?_toArray, List.getElem?_cons_succ, List.getElem?_cons_zero]; rfl) (by rfl) ?_)
                      | (refine seq_calc (by simp only [List.getElem?_toArray, List.getElem?_cons_succ, List.getElem?_cons_zero]; rfl) (by rfl) (fun u => by go_simp <;> with_reducible rfl) ?_)
                    try simp only [Act.put, List.setIfInBounds_toArray, List.set_cons_zero, List.set_cons_succ]
                    first
                      | (refine seq_skip (by simp only [List.getElem?_toArray, List.getElem?_cons_succ, List.getElem?_cons_zero]; rfl) (by rfl) ?_)
                      | (refine seq_calc (by simp only [List.getElem?_toArray, List.getElem?_cons_succ, List.getElem?_cons_zero]; rfl) (by rfl) (fun u => by go_simp <;> with_reducible rfl) ?_)
                    try simp only [Act.put, List.setIfInBounds_toArray, List.set_cons_zero, List.set_cons_succ]
                    first
                      | (refine seq_skip (by simp only [List.getElem?_toArray, List.getElem?_cons_succ, List.getElem?_cons_zero]; rfl) (by rfl) ?_)
                      | (refine seq_calc (by simp only [List.getElem?_toArray, List.getElem?_cons_succ, List.getElem?_cons_zero]; rfl) (by rfl) (fun u => by go_simp <;> with_reducible rfl) ?_)
                    try simp only [Act.put, List.setIfInBounds_toArray, List.set_cons_zero, List.set_cons_succ]
                    first
                      | (refine seq_skip (by simp only [List.getElem?_toArray, List.getElem?_cons_succ, List.getElem?_cons_zero]; rfl) (by rfl) ?_)
                      | (refine seq_load1 (by simp only [List.getElem?_toArray, List.getElem?_cons_succ, List.getElem?_cons_zero]; rfl) (by rfl) rfl rfl Tryd.underlying38 rfl (by go_simp <;> with_reducible rfl) (by first | exact id | assumption | (simp; done) | (simp; omega)) ?_)
                    try simp only [Act.put, List.setIfInBounds_toArray, List.set_cons_zero, List.set_cons_succ]
                    first
                      | (refine seq_skip (by simp only [List.getElem?_toArray, List.getElem?_cons_succ, List.getElem?_cons_zero]; rfl) (by rfl) ?_)
                      | (refine seq_calc (by simp only [List.getElem?_toArray, List.getElem?_cons_succ, List.getElem?_cons_zero]; rfl) (by rfl) (fun u => by go_simp <;> with_reducible rfl) ?_)
                    try simp only [Act.put, List.setIfInBounds_toArray, List.set_cons_zero, List.set_cons_succ]
                    first
                      | (refine seq_skip (by simp only [List.getElem?_toArray, List.getElem?_cons_succ, List.getElem?_cons_zero]; rfl) (by rfl) ?_)
                      | (refine seq_calc (by simp only [List.getElem?_toArray, List.getElem?_cons_succ, List.getElem?_cons_zero]; rfl) (by rfl) (fun u => by go_simp <;> with_reducible rfl) ?_)
                    try simp only [Act.put, List.setIfInBounds_toArray, List.set_cons_zero, List.set_cons_succ]
                    first
                      | (refine seq_skip (by simp only [List.getElem?_toArray, List.getElem?_cons_succ, List.getElem?_cons_zero]; rfl) (by rfl) ?_)
                      | (refine seq_load1 (by simp only [List.getElem?_toArray, List.getElem?_cons_succ, List.getElem?_cons_zero]; rfl) (by rfl) rfl rfl Tryd.underlying38 rfl (by go_simp <;> with_reducible rfl) (by first | exact id | assumption | (simp; done) | (simp; omega)) ?_)
                    try simp only [Act.put, List.setIfInBounds_toArray, List.set_cons_zero, List.set_cons_succ]
                    first
                      | (refine seq_skip (by simp only [List.getElem?_toArray, List.getElem?_cons_succ, List.getElem?_cons_zero]; rfl) (by rfl) ?_)
                      | (refine seq_calc (by simp only [List.getElem?_toArray, List.getElem?_cons_succ, List.getElem?_cons_zero]; rfl) (by rfl) (fun u => by go_simp <;> with_reducible rfl) ?_)
                    try simp only [Act.put, List.setIfInBounds_toArray, List.set_cons_zero, List.set_cons_succ]
                    first
                      | (refine seq_skip (by simp only [List.getElem?_toArray, List.getElem?_cons_succ, List.getElem?_cons_zero]; rfl) (by rfl) ?_)
                      | (refine seq_load1 (by simp only [List.getElem?_toArray, List.getElem?_cons_succ, List.getElem?_cons_zero]; rfl) (by rfl) rfl rfl Tryd.underlying38 rfl (by go_simp <;> with_reducible rfl) (by first | exact id | assumption | (simp; done) | (simp; omega)) ?_)
                    try simp only [Act.put, List.setIfInBounds_toArray, List.set_cons_zero, List.set_cons_succ]
                    first
                      | (refine seq_skip (by simp only [List.getElem?_toArray, List.getElem?_cons_succ, List.getElem?_cons_zero]; rfl) (by rfl) ?_)
                      | (refine seq_calc (by simp only [List.getElem?_toArray, List.getElem?_cons_succ, List.getElem?_cons_zero]; rfl) (by rfl) (fun u => by go_simp <;> with_reducible rfl) ?_)
                    try simp only [Act.put, List.setIfInBounds_toArray, List.set_cons_zero, List.set_cons_succ]
                    first
                      | (refine seq_skip (by simp only [List.getElem?_toArray, List.getElem?_cons_succ, List.getElem?_cons_zero]; rfl) (by rfl) ?_)
                      | (refine seq_calc (by simp only [List.getElem?_toArray, List.getElem?_cons_succ, List.getElem?_cons_zero]; rfl) (by rfl) (fun u => by go_simp <;> with_reducible rfl) ?_)
                    try simp only [Act.put, List.setIfInBounds_toArray, List.set_cons_zero, List.set_cons_succ]
                    refine seq_calc (by simp only [List.getElem?_toArray, List.getElem?_cons_succ, List.getElem?_cons_zero]; rfl) (by rfl) (fun u => by go_simp <;> with_reducible rfl) ?_
                    try simp only [Act.put, List.setIfInBounds_toArray, List.set_cons_zero, List.set_cons_succ]
                    refine seq_nil ?_
                    go_wp2
                    go_meet
                    have hC : Chg (fun b => b = VB) wc (wc.drew.setCell ⟨VB, x, none⟩ (.bool false)) := (Chg.refl _ wc).drew.set1 _ _
                    have hV9 := (VC.out.later (Below.refl _ _).drew).setB hx false
                    refine ⟨T.delT x h, upd th x false, va, _, ⟨SC.out.chg hC ?_ ?_ ?_ ?_, ⟨hV9.b, hV9.u, hV9.ne⟩, ?_, ?_, ?_, ?_⟩, AC.out.chg hC ?_, HL0.out, fun h => absurd rfl h⟩
                    · rintro b rfl; exact hSp.o.2.2.2.1
                    · exact fun e => hSp.b.1 e.symm
                    · exact fun e => hSp.b.2.1 e.symm
                    · rintro b e rfl; exact hSp.m.2.2.1 (Option.some.inj e)
                    · exact D3.out.f.delT x h
                    · rw [HH.out]; exact D3.out.c.del D3.out.f hx
                    · rw [HH.out]; exact D3.out.y.del D3.out.f
                    · rw [delT_n]; exact D3.out.g
                    · exact hAVB
            have n1' : (q == 1) = false := by simpa using q1
            go_wp2
            go_meet
            exact ⟨T, th, va, mt0, D3.out, A3.out, by rw [HM0.out]; omega, fun _ => by omega⟩
          case rest =>
            obtain ⟨T', th', va', mt', hD, hA3, hl0, hleft⟩ := hcut
            as_aux_lemma =>
              have DC := Lib.hid hD
              have AC := Lib.hid hA3
              have DM : Hid (Blk wc M 35 mt'.cells) := Lib.hid (hD.s.m M rfl)
              have LA := Lib.hid (fun (w' : World) hm => meterLast_any mt' M 35 w' hm)
              have hdl : decide (mt'.l0 > (g : Int)) = false := by simpa using hl0
              have HLE := Lib.hid hleft
              have LN := Lib.hid (fun (w' : World) (m2 : MeterS) (hs : TMW w' B Q (some M) T' m2 E w0) => TMW.len hs)
              have LF := Lib.hid (fun (w' : World) (m2 : MeterS) (hs : TMW w' B Q (some M) T' m2 E w0) => TMW.left hs)
              have hlen : T'.lv = ((cntB th' n1 : Nat) : Int) := by
                rw [hD.c]; congr 1
                exact sumN_congr fun i hi => by rw [(hD.y i hi).1]
              rw [hlen] at LN
              have hng : ¬ ((g : Int) < mt'.l0) := by omega
              clear hD hA3 hleft hlen e0 e1 e2 c0 c1 c2 zA zX D3 A3 E3 yB yQ yM yVB yVU
              have hfu := field_probes
              go_wp2_with (go_at_call 15; (with_reducible refine (LA.out _ DM.out).mono ?_); rintro e w6 ⟨rfl, hb6⟩; have D6 := Lib.hid (DC.out.later hb6); have A6 := Lib.hid (AC.out.below hb6 AC.out.lt); clear DC AC LA)
              clear hfu
              go_loopw [167, 20] (fun v167 v20 wr => ∃ (j : Nat) (m2 : MeterS), j ≤ n1 ∧ v167 = .int .i64 (j : Int) ∧ v20 = .int .i64 ((cntB th' j : Nat) : Int) ∧ FN wr B Q M VB VU n1 T' m2 th' va' (hashH n1 G) g E w0 ∧ Blk wr A 37 #[.int .i64 q, .int .i64 ky, .int .i64 vN]) (fun v167 _ _ => n1 - (intOf v167).toNat)
              case atStart => exact ⟨0, _, Nat.zero_le _, rfl, rfl, D6.out, A6.out⟩
              case round =>
                clear D6 A6
                obtain ⟨j, m2, hj, rfl, rfl, hD, hA⟩ := hrel
                have KD := Lib.hid hD
                have KA := Lib.hid hA
                clear hD hA
                by_cases hjl : j < n1
                · have hjI : (j : Int) < (n1 : Int) := by omega
                  have gj := HC.out wr KD.out.s.bel j hjl
                  have hGj := HG.out j hjl
                  have zb1 := Nat.lt_of_lt_of_le hb1z KD.out.s.bel.size
                  obtain ⟨hh, hhj⟩ : ∃ hh, hh = G j := ⟨_, rfl⟩
                  rw [← hhj] at gj hGj
                  have hyj := KD.out.y j hjl
                  rw [hashH_in hjl, ← hhj] at hyj
                  have HYJ := Lib.hid hyj
                  have FI := Lib.hid (fun (w' : World) (hs : TMW w' B Q (some M) T' m2 E w0) => TMW.find hs (j : Int) hh hGj _ (LensAt.m M) 0 1 0)
                  obtain ⟨en, hen⟩ : ∃ en, en = T'.ent (j : Int) hh := ⟨_, rfl⟩
                  rw [← hen] at HYJ
                  simp only [← hen] at FI
                  rw [← hyj.1] at FI
                  have WK := Lib.hid (fun (w' : World) => working_any (some ⟨M, 0, none⟩) w')
                  have yM : M < wr.heap.size := (KD.out.s.m M rfl).lt
                  have yB : B < wr.heap.size := KD.out.s.ltB
                  have yQ : Q < wr.heap.size := KD.out.s.ltQ
                  have yVB : VB < wr.heap.size := KD.out.v.b.lt
                  have yVU : VU < wr.heap.size := KD.out.v.u.lt
                  have yA : A < wr.heap.size := KA.out.lt
                  have yw : w0.heap.size ≤ wr.heap.size := KD.out.s.bel.size
                  have nN : ∀ b, wr.heap.size ≤ b → ¬ some M = some b := by rintro b hb e; exact absurd (Option.some.inj e) (by omega)
                  have hSp := HSP.out
                  have hws : IntKind.u64.wrap (j : Int) = (j : Int) := by rw [IntKind.wrap_u64]; omega
                  have hM0 : w0.heap.size ≤ M := hSp.o.2.2.1
                  clear hhj hen hyj
                  go_upto_region 34 with (fail)
                  go_cut [22, 23] (fun v22 v23 wx => ∃ P, v22 = .pointer (some ⟨P, 0, none⟩) ∧ v23 = .bool (th' j) ∧ wr.heap.size ≤ P ∧ Blk wx P 40 #[.int .u64 en.key, .int .u64 en.val, .int .u64 en.hash] ∧ FN wx B Q M VB VU n1 T' (addN m2 0 1 0 (T'.looks (j : Int) hh)) th' va' (hashH n1 G) g E w0 ∧ Blk wx A 37 #[.int .i64 q, .int .i64 ky, .int .i64 vN])
                  case first =>
                    refine wp_region_T (fun b => some M = some b) #[⟨0, 0, 2993155353253689176481146537402947624255349848014848, 128, 0⟩, ⟨0, 0, 5986310706507378352962293074805895248510699696029696, 2048, 0⟩, ⟨2, 2, 11972621413014756705924586149611790497021399392059392, 5986310706507378352962293074805895248510699696029696, 2⟩, ⟨0, 0, 23945242826029513411849172299223580994042798784118784, 2097152, 0⟩, ⟨8, 8, 47890485652059026823698344598447161988085597568237568, 23945242826029513411849172299223580994042798784118784, 0⟩, ⟨0, 0, 95780971304118053647396689196894323976171195136475136, 2, 0⟩, ⟨0, 0, 191561942608236107294793378393788647952342390272950272, 2097152, 0⟩, ⟨96, 96, 383123885216472214589586756787577295904684780545900544, 287342913912354160942190067590682971928513585409425408, 0⟩, ⟨128, 224, 766247770432944429179173513575154591809369561091801088, 383123885216472214589586756787577295904684780545900544, 1⟩, ⟨277, 511, 1532495540865888858358347027150309183618739122183602176, 829104032851271901885277590860616491918731907900112896, 3⟩, ⟨512, 1023, 1496577676626844588240573268701473812127674924007424, 1532495540865888858358347027150309183618739122183602176, 0⟩, ⟨1024, 2047, 3064991081731777716716694054300618367237478244367204352, 1496577676626844588240573268701473812127674924007424, 0⟩, ⟨1024, 2047, 6129982163463555433433388108601236734474956488734408704, 1496577676626844588240573268701473812127674924007424, 0⟩, ⟨0, 0, 4194304, 0, 2⟩, ⟨12287, 12287, 0, 3064991081731777716716694054300618367237478244371398656, 3⟩, ⟨32767, 32767, 8388608, 6129982163463555433433388108601236734474956488734408704, 0⟩] 256 (.step 0 0 (.step 1 0 (.step 3 0 (.step 4 0 (.step 5 0 (.step 6 0 (.step 7 0 (.step 8 1 (.fork (.alt 2 (.fork (.alt 9 (.step 10 0 (.step 11 0 (.step 12 0 (.step 13 2 (.step 14 3 (.step 15 0 Plan.done)))))) (.alt 13 (.step 9 3 (.step 10 0 (.step 11 0 (.step 12 0 (.step 14 3 (.step 15 0 Plan.done)))))) Plan.none))) (.alt 13 (.step 2 2 (.step 9 3 (.step 10 0 (.step 11 0 (.step 12 0 (.step 14 3 (.step 15 0 Plan.done))))))) Plan.none))))))))))) (by kernel_rfl) (by kernel_rfl) (by kernel_rfl) (by kernel_rfl) (by kernel_rfl) (by kernel_rfl) (fun c a d v w h => by cases d <;> exact h) ?_
                    refine T_calc (by simp only [List.getElem?_toArray, List.getElem?_cons_succ, List.getElem?_cons_zero]; rfl) (by rfl) (fun u => by go_simp <;> with_reducible rfl) ?_
                    try simp only [Act.put, List.setIfInBounds_toArray, List.set_cons_zero, List.set_cons_succ]
                    refine T_calc (by simp only [List.getElem?_toArray, List.getElem?_cons_succ, List.getElem?_cons_zero]; rfl) (by rfl) (fun u => by go_simp <;> with_reducible rfl) ?_
                    try simp only [Act.put, List.setIfInBounds_toArray, List.set_cons_zero, List.set_cons_succ]
                    refine T_calc (by simp only [List.getElem?_toArray, List.getElem?_cons_succ, List.getElem?_cons_zero]; rfl) (by rfl) (fun u => by go_simp <;> with_reducible rfl) ?_
                    try simp only [Act.put, List.setIfInBounds_toArray, List.set_cons_zero, List.set_cons_succ]
                    refine T_calc (by simp only [List.getElem?_toArray, List.getElem?_cons_succ, List.getElem?_cons_zero]; rfl) (by rfl) (fun u => by go_simp <;> with_reducible rfl) ?_
                    try simp only [Act.put, List.setIfInBounds_toArray, List.set_cons_zero, List.set_cons_succ]
                    refine T_calc (by simp only [List.getElem?_toArray, List.getElem?_cons_succ, List.getElem?_cons_zero]; rfl) (by rfl) (fun u => by go_simp <;> with_reducible rfl) ?_
                    try simp only [Act.put, List.setIfInBounds_toArray, List.set_cons_zero, List.set_cons_succ]
                    refine T_calc (by simp only [List.getElem?_toArray, List.getElem?_cons_succ, List.getElem?_cons_zero]; rfl) (by rfl) (fun u => by go_simp <;> with_reducible rfl) ?_
                    try simp only [Act.put, List.setIfInBounds_toArray, List.set_cons_zero, List.set_cons_succ]
                    refine T_calc (by simp only [List.getElem?_toArray, List.getElem?_cons_succ, List.getElem?_cons_zero]; rfl) (by rfl) (fun u => by go_simp <;> with_reducible rfl) ?_
                    try simp only [Act.put, List.setIfInBounds_toArray, List.set_cons_zero, List.set_cons_succ]
                    refine T_load1 (by simp only [List.getElem?_toArray, List.getElem?_cons_succ, List.getElem?_cons_zero]; rfl) (by rfl) rfl rfl Tryd.underlying38 rfl (by go_simp <;> with_reducible rfl) (by first | exact id | assumption | (simp; done) | (simp; omega)) ?_
                    try simp only [Act.put, List.setIfInBounds_toArray, List.set_cons_zero, List.set_cons_succ]
                    refine T_fork (T_alt (by simp only [List.getElem?_toArray, List.getElem?_cons_succ, List.getElem?_cons_zero]; rfl) (by rfl) (fun K hK => ?_) (T_alt (by simp only [List.getElem?_toArray, List.getElem?_cons_succ, List.getElem?_cons_zero]; rfl) (by rfl) (fun K hK => ?_) T_none))
                    (go_wp2_with (first | (go_at_call 17; refine (WK.out _).mono ?_; rintro e w4 ⟨rfl, hb4⟩; have D4 : Hid (FN w4 B Q M VB VU n1 T' m2 th' va' (hashH n1 G) g E w0) := Lib.hid (by first | exact KD.out.drew.later hb4 | exact (KD.out.drew.alloc _).later hb4); have A4 : Hid (Blk w4 A 37 #[.int .i64 q, .int .i64 ky, .int .i64 vN]) := Lib.hid (by first | exact KA.out.drew.below hb4 KA.out.lt | exact (KA.out.drew.alloc _).below hb4 (KA.out.drew.alloc _).lt); have z4 : wr.heap.size ≤ w4.heap.size := (by first | exact hb4.size | (have := hb4.size; simp at this; omega)); (try have P4 : Hid (Blk w4 wr.heap.size 40 #[.int .u64 0, .int .u64 0, .int .u64 0]) := Lib.hid (Blk.below (Blk.new wr.drew _ _) hb4 (by simp))); have gj4 := HC.out w4 D4.out.s.bel j hjl; have zb4 := Nat.lt_of_lt_of_le hb1z D4.out.s.bel.size) | (go_at_call 16; go_loud ((with_reducible refine (FI.out _ (by first | exact D4.out.s | exact (D4.out.alloc _).s)).mono ?_); rintro e w5 ⟨rfl, hs5, hc5⟩; have D5 : Hid (FN w5 B Q M VB VU n1 T' (addN m2 0 1 0 (T'.looks (j : Int) hh)) th' va' (hashH n1 G) g E w0) := Lib.hid ((show FN _ B Q M VB VU n1 T' m2 th' va' (hashH n1 G) g E w0 by first | exact D4.out | exact D4.out.alloc _).turn hSp hs5 hc5); have A5 : Hid (Blk w5 A 37 #[.int .i64 q, .int .i64 ky, .int .i64 vN]) := Lib.hid ((show Blk _ A 37 #[.int .i64 q, .int .i64 ky, .int .i64 vN] by first | exact A4.out | exact A4.out.alloc _).chg hc5 (fun e => hAM (Option.some.inj e).symm)); have z5 : w4.heap.size ≤ w5.heap.size := (by first | exact hc5.size | (have := hc5.size; simp at this; omega)); (first | (have P5 : Hid (Blk w5 wr.heap.size 40 #[.int .u64 0, .int .u64 0, .int .u64 0]) := Lib.hid (P4.out.chg hc5 (nN _ (Nat.le_refl _))); have q5 := cells3 P5.out; have p50 := q5.1; have p51 := q5.2.1; have p52 := q5.2.2; clear q5; have pf5 := fun j => P5.out.frozen j; have zP5 := P5.out.lt) | (have P5 : Hid (Blk w5 w4.heap.size 40 #[.int .u64 0, .int .u64 0, .int .u64 0]) := Lib.hid ((Blk.new w4 _ _).chg hc5 (nN _ z4)); have q5 := cells3 P5.out; have p50 := q5.1; have p51 := q5.2.1; have p52 := q5.2.2; clear q5; have pf5 := fun j => P5.out.frozen j; have zP5 := P5.out.lt) | skip)))); refine hK.out _ _ (by first | exact Chg.drewAlloc _ _ _ | (with_reducible exact Chg.refl _ _) | (with_reducible assumption) | (refine Chg.of_below ?_; with_reducible assumption) | (with_reducible exact (Chg.refl _ _).alloc _) | (with_reducible exact (Chg.refl _ _).drewN _) | (with_reducible exact (Chg.refl _ _).drew) | exact ⟨rfl, rfl, rfl, Nat.le_refl _, fun _ _ _ => rfl⟩ | exact (Chg.refl _ _).setCell (.inl (.inl rfl)) _ | exact (Chg.refl _ _).setCell (.inl (.inr rfl)) _ | exact Chg.drew (Chg.setCell ⟨rfl, rfl, rfl, Nat.le_refl _, fun _ _ _ => rfl⟩ (.inl (.inl rfl)) _) | exact Chg.drew (Chg.setCell ⟨rfl, rfl, rfl, Nat.le_refl _, fun _ _ _ => rfl⟩ (.inl (.inr rfl)) _)) ?_; clear hK K)
                    try simp only [Act.put, List.setIfInBounds_toArray, List.set_cons_zero, List.set_cons_succ]
                    refine T_fork (T_alt (by simp only [List.getElem?_toArray, List.getElem?_cons_succ, List.getElem?_cons_zero]; rfl) (by rfl) (fun K hK => ?_) (T_alt (by simp only [List.getElem?_toArray, List.getElem?_cons_succ, List.getElem?_cons_zero]; rfl) (by rfl) (fun K hK => ?_) T_none))
                    (go_wp2_with (first | (go_at_call 17; refine (WK.out _).mono ?_; rintro e w4 ⟨rfl, hb4⟩; have D4 : Hid (FN w4 B Q M VB VU n1 T' m2 th' va' (hashH n1 G) g E w0) := Lib.hid (by first | exact KD.out.drew.later hb4 | exact (KD.out.drew.alloc _).later hb4); have A4 : Hid (Blk w4 A 37 #[.int .i64 q, .int .i64 ky, .int .i64 vN]) := Lib.hid (by first | exact KA.out.drew.below hb4 KA.out.lt | exact (KA.out.drew.alloc _).below hb4 (KA.out.drew.alloc _).lt); have z4 : wr.heap.size ≤ w4.heap.size := (by first | exact hb4.size | (have := hb4.size; simp at this; omega)); (try have P4 : Hid (Blk w4 wr.heap.size 40 #[.int .u64 0, .int .u64 0, .int .u64 0]) := Lib.hid (Blk.below (Blk.new wr.drew _ _) hb4 (by simp))); have gj4 := HC.out w4 D4.out.s.bel j hjl; have zb4 := Nat.lt_of_lt_of_le hb1z D4.out.s.bel.size) | (go_at_call 16; go_loud ((with_reducible refine (FI.out _ (by first | exact D4.out.s | exact (D4.out.alloc _).s)).mono ?_); rintro e w5 ⟨rfl, hs5, hc5⟩; have D5 : Hid (FN w5 B Q M VB VU n1 T' (addN m2 0 1 0 (T'.looks (j : Int) hh)) th' va' (hashH n1 G) g E w0) := Lib.hid ((show FN _ B Q M VB VU n1 T' m2 th' va' (hashH n1 G) g E w0 by first | exact D4.out | exact D4.out.alloc _).turn hSp hs5 hc5); have A5 : Hid (Blk w5 A 37 #[.int .i64 q, .int .i64 ky, .int .i64 vN]) := Lib.hid ((show Blk _ A 37 #[.int .i64 q, .int .i64 ky, .int .i64 vN] by first | exact A4.out | exact A4.out.alloc _).chg hc5 (fun e => hAM (Option.some.inj e).symm)); have z5 : w4.heap.size ≤ w5.heap.size := (by first | exact hc5.size | (have := hc5.size; simp at this; omega)); (first | (have P5 : Hid (Blk w5 wr.heap.size 40 #[.int .u64 0, .int .u64 0, .int .u64 0]) := Lib.hid (P4.out.chg hc5 (nN _ (Nat.le_refl _))); have q5 := cells3 P5.out; have p50 := q5.1; have p51 := q5.2.1; have p52 := q5.2.2; clear q5; have pf5 := fun j => P5.out.frozen j; have zP5 := P5.out.lt) | (have P5 : Hid (Blk w5 w4.heap.size 40 #[.int .u64 0, .int .u64 0, .int .u64 0]) := Lib.hid ((Blk.new w4 _ _).chg hc5 (nN _ z4)); have q5 := cells3 P5.out; have p50 := q5.1; have p51 := q5.2.1; have p52 := q5.2.2; clear q5; have pf5 := fun j => P5.out.frozen j; have zP5 := P5.out.lt) | skip)))); refine hK.out _ _ (by first | exact Chg.drewAlloc _ _ _ | (with_reducible exact Chg.refl _ _) | (with_reducible assumption) | (refine Chg.of_below ?_; with_reducible assumption) | (with_reducible exact (Chg.refl _ _).alloc _) | (with_reducible exact (Chg.refl _ _).drewN _) | (with_reducible exact (Chg.refl _ _).drew) | exact ⟨rfl, rfl, rfl, Nat.le_refl _, fun _ _ _ => rfl⟩ | exact (Chg.refl _ _).setCell (.inl (.inl rfl)) _ | exact (Chg.refl _ _).setCell (.inl (.inr rfl)) _ | exact Chg.drew (Chg.setCell ⟨rfl, rfl, rfl, Nat.le_refl _, fun _ _ _ => rfl⟩ (.inl (.inl rfl)) _) | exact Chg.drew (Chg.setCell ⟨rfl, rfl, rfl, Nat.le_refl _, fun _ _ _ => rfl⟩ (.inl (.inr rfl)) _)) ?_; clear hK K)
                    try simp only [Act.put, List.setIfInBounds_toArray, List.set_cons_zero, List.set_cons_succ]
                    refine T_calc (by simp only [List.getElem?_toArray, List.getElem?_cons_succ, List.getElem?_cons_zero]; rfl) (by rfl) (fun u => by go_simp <;> with_reducible rfl) ?_
                    try simp only [Act.put, List.setIfInBounds_toArray, List.set_cons_zero, List.set_cons_succ]
                    refine T_calc (by simp only [List.getElem?_toArray, List.getElem?_cons_succ, List.getElem?_cons_zero]; rfl) (by rfl) (fun u => by go_simp <;> with_reducible rfl) ?_
                    try simp only [Act.put, List.setIfInBounds_toArray, List.set_cons_zero, List.set_cons_succ]
                    refine T_calc (by simp only [List.getElem?_toArray, List.getElem?_cons_succ, List.getElem?_cons_zero]; rfl) (by rfl) (fun u => by go_simp <;> with_reducible rfl) ?_
                    try simp only [Act.put, List.setIfInBounds_toArray, List.set_cons_zero, List.set_cons_succ]
                    refine T_do (by simp only [List.getElem?_toArray, List.getElem?_cons_succ, List.getElem?_cons_zero]; rfl) (by rfl) (fun K hK => ?_); go_wp2_with (fail); refine hK.out _ _ (by first | exact Chg.drewAlloc _ _ _ | (with_reducible exact Chg.refl _ _) | (with_reducible assumption) | (refine Chg.of_below ?_; with_reducible assumption) | (with_reducible exact (Chg.refl _ _).alloc _) | (with_reducible exact (Chg.refl _ _).drewN _) | (with_reducible exact (Chg.refl _ _).drew) | exact ⟨rfl, rfl, rfl, Nat.le_refl _, fun _ _ _ => rfl⟩ | exact (Chg.refl _ _).setCell (.inl (.inl rfl)) _ | exact (Chg.refl _ _).setCell (.inl (.inr rfl)) _ | exact Chg.drew (Chg.setCell ⟨rfl, rfl, rfl, Nat.le_refl _, fun _ _ _ => rfl⟩ (.inl (.inl rfl)) _) | exact Chg.drew (Chg.setCell ⟨rfl, rfl, rfl, Nat.le_refl _, fun _ _ _ => rfl⟩ (.inl (.inr rfl)) _)) ?_; clear hK K
                    try simp only [Act.put, List.setIfInBounds_toArray, List.set_cons_zero, List.set_cons_succ]
                    refine T_last (by simp only [List.getElem?_toArray, List.getElem?_cons_succ, List.getElem?_cons_zero]; rfl) (by rfl) (fun K hK => ?_); go_wp2_with (fail); refine hK.out _ _ ?_; clear hK K
                    try simp only [Act.put, List.setIfInBounds_toArray, List.set_cons_zero, List.set_cons_succ]
                    refine T_calc (by simp only [List.getElem?_toArray, List.getElem?_cons_succ, List.getElem?_cons_zero]; rfl) (by rfl) (fun u => by go_simp <;> with_reducible rfl) ?_
                    try simp only [Act.put, List.setIfInBounds_toArray, List.set_cons_zero, List.set_cons_succ]
                    refine T_done ?_
                    rotate_left 1
                    (go_wp2_with (fail); refine hK.out _ _ (by first | exact Chg.drewAlloc _ _ _ | (with_reducible exact Chg.refl _ _) | (with_reducible assumption) | (refine Chg.of_below ?_; with_reducible assumption) | (with_reducible exact (Chg.refl _ _).alloc _) | (with_reducible exact (Chg.refl _ _).drewN _) | (with_reducible exact (Chg.refl _ _).drew) | exact ⟨rfl, rfl, rfl, Nat.le_refl _, fun _ _ _ => rfl⟩ | exact (Chg.refl _ _).setCell (.inl (.inl rfl)) _ | exact (Chg.refl _ _).setCell (.inl (.inr rfl)) _ | exact Chg.drew (Chg.setCell ⟨rfl, rfl, rfl, Nat.le_refl _, fun _ _ _ => rfl⟩ (.inl (.inl rfl)) _) | exact Chg.drew (Chg.setCell ⟨rfl, rfl, rfl, Nat.le_refl _, fun _ _ _ => rfl⟩ (.inl (.inr rfl)) _)) ?_; clear hK K)
                    try simp only [Act.put, List.setIfInBounds_toArray, List.set_cons_zero, List.set_cons_succ]
                    refine T_last (by simp only [List.getElem?_toArray, List.getElem?_cons_succ, List.getElem?_cons_zero]; rfl) (by rfl) (fun K hK => ?_); go_wp2_with (first | (go_at_call 17; refine (WK.out _).mono ?_; rintro e w4 ⟨rfl, hb4⟩; have D4 : Hid (FN w4 B Q M VB VU n1 T' m2 th' va' (hashH n1 G) g E w0) := Lib.hid (by first | exact KD.out.drew.later hb4 | exact (KD.out.drew.alloc _).later hb4); have A4 : Hid (Blk w4 A 37 #[.int .i64 q, .int .i64 ky, .int .i64 vN]) := Lib.hid (by first | exact KA.out.drew.below hb4 KA.out.lt | exact (KA.out.drew.alloc _).below hb4 (KA.out.drew.alloc _).lt); have z4 : wr.heap.size ≤ w4.heap.size := (by first | exact hb4.size | (have := hb4.size; simp at this; omega)); (try have P4 : Hid (Blk w4 wr.heap.size 40 #[.int .u64 0, .int .u64 0, .int .u64 0]) := Lib.hid (Blk.below (Blk.new wr.drew _ _) hb4 (by simp))); have gj4 := HC.out w4 D4.out.s.bel j hjl; have zb4 := Nat.lt_of_lt_of_le hb1z D4.out.s.bel.size) | (go_at_call 16; go_loud ((with_reducible refine (FI.out _ (by first | exact D4.out.s | exact (D4.out.alloc _).s)).mono ?_); rintro e w5 ⟨rfl, hs5, hc5⟩; have D5 : Hid (FN w5 B Q M VB VU n1 T' (addN m2 0 1 0 (T'.looks (j : Int) hh)) th' va' (hashH n1 G) g E w0) := Lib.hid ((show FN _ B Q M VB VU n1 T' m2 th' va' (hashH n1 G) g E w0 by first | exact D4.out | exact D4.out.alloc _).turn hSp hs5 hc5); have A5 : Hid (Blk w5 A 37 #[.int .i64 q, .int .i64 ky, .int .i64 vN]) := Lib.hid ((show Blk _ A 37 #[.int .i64 q, .int .i64 ky, .int .i64 vN] by first | exact A4.out | exact A4.out.alloc _).chg hc5 (fun e => hAM (Option.some.inj e).symm)); have z5 : w4.heap.size ≤ w5.heap.size := (by first | exact hc5.size | (have := hc5.size; simp at this; omega)); (first | (have P5 : Hid (Blk w5 wr.heap.size 40 #[.int .u64 0, .int .u64 0, .int .u64 0]) := Lib.hid (P4.out.chg hc5 (nN _ (Nat.le_refl _))); have q5 := cells3 P5.out; have p50 := q5.1; have p51 := q5.2.1; have p52 := q5.2.2; clear q5; have pf5 := fun j => P5.out.frozen j; have zP5 := P5.out.lt) | (have P5 : Hid (Blk w5 w4.heap.size 40 #[.int .u64 0, .int .u64 0, .int .u64 0]) := Lib.hid ((Blk.new w4 _ _).chg hc5 (nN _ z4)); have q5 := cells3 P5.out; have p50 := q5.1; have p51 := q5.2.1; have p52 := q5.2.2; clear q5; have pf5 := fun j => P5.out.frozen j; have zP5 := P5.out.lt) | skip)))); refine hK.out _ _ ?_; clear hK K
                    try simp only [Act.put, List.setIfInBounds_toArray, List.set_cons_zero, List.set_cons_succ]
                    refine T_calc (by simp only [List.getElem?_toArray, List.getElem?_cons_succ, List.getElem?_cons_zero]; rfl) (by rfl) (fun u => by go_simp <;> with_reducible rfl) ?_
                    try simp only [Act.put, List.setIfInBounds_toArray, List.set_cons_zero, List.set_cons_succ]
                    refine T_calc (by simp only [List.getElem?_toArray, List.getElem?_cons_succ, List.getElem?_cons_zero]; rfl) (by rfl) (fun u => by go_simp <;> with_reducible rfl) ?_
                    try simp only [Act.put, List.setIfInBounds_toArray, List.set_cons_zero, List.set_cons_succ]
                    refine T_calc (by simp only [List.getElem?_toArray, List.getElem?_cons_succ, List.getElem?_cons_zero]; rfl) (by rfl) (fun u => by go_simp <;> with_reducible rfl) ?_
                    try simp only [Act.put, List.setIfInBounds_toArray, List.set_cons_zero, List.set_cons_succ]
                    refine T_last (by simp only [List.getElem?_toArray, List.getElem?_cons_succ, List.getElem?_cons_zero]; rfl) (by rfl) (fun K hK => ?_); go_wp2_with (fail); refine hK.out _ _ ?_; clear hK K
                    try simp only [Act.put, List.setIfInBounds_toArray, List.set_cons_zero, List.set_cons_succ]
                    refine T_calc (by simp only [List.getElem?_toArray, List.getElem?_cons_succ, List.getElem?_cons_zero]; rfl) (by rfl) (fun u => by go_simp <;> with_reducible rfl) ?_
                    try simp only [Act.put, List.setIfInBounds_toArray, List.set_cons_zero, List.set_cons_succ]
                    refine T_done ?_
                    rotate_left 1
                    rotate_right 2
                    rotate_left 2
                    (go_wp2_with (fail); refine hK.out _ _ (by first | exact Chg.drewAlloc _ _ _ | (with_reducible exact Chg.refl _ _) | (with_reducible assumption) | (refine Chg.of_below ?_; with_reducible assumption) | (with_reducible exact (Chg.refl _ _).alloc _) | (with_reducible exact (Chg.refl _ _).drewN _) | (with_reducible exact (Chg.refl _ _).drew) | exact ⟨rfl, rfl, rfl, Nat.le_refl _, fun _ _ _ => rfl⟩ | exact (Chg.refl _ _).setCell (.inl (.inl rfl)) _ | exact (Chg.refl _ _).setCell (.inl (.inr rfl)) _ | exact Chg.drew (Chg.setCell ⟨rfl, rfl, rfl, Nat.le_refl _, fun _ _ _ => rfl⟩ (.inl (.inl rfl)) _) | exact Chg.drew (Chg.setCell ⟨rfl, rfl, rfl, Nat.le_refl _, fun _ _ _ => rfl⟩ (.inl (.inr rfl)) _)) ?_; clear hK K)
                    try simp only [Act.put, List.setIfInBounds_toArray, List.set_cons_zero, List.set_cons_succ]
                    refine T_do (by simp only [List.getElem?_toArray, List.getElem?_cons_succ, List.getElem?_cons_zero]; rfl) (by rfl) (fun K hK => ?_); go_wp2_with (first | (go_at_call 17; refine (WK.out _).mono ?_; rintro e w4 ⟨rfl, hb4⟩; have D4 : Hid (FN w4 B Q M VB VU n1 T' m2 th' va' (hashH n1 G) g E w0) := Lib.hid (by first | exact KD.out.drew.later hb4 | exact (KD.out.drew.alloc _).later hb4); have A4 : Hid (Blk w4 A 37 #[.int .i64 q, .int .i64 ky, .int .i64 vN]) := Lib.hid (by first | exact KA.out.drew.below hb4 KA.out.lt | exact (KA.out.drew.alloc _).below hb4 (KA.out.drew.alloc _).lt); have z4 : wr.heap.size ≤ w4.heap.size := (by first | exact hb4.size | (have := hb4.size; simp at this; omega)); (try have P4 : Hid (Blk w4 wr.heap.size 40 #[.int .u64 0, .int .u64 0, .int .u64 0]) := Lib.hid (Blk.below (Blk.new wr.drew _ _) hb4 (by simp))); have gj4 := HC.out w4 D4.out.s.bel j hjl; have zb4 := Nat.lt_of_lt_of_le hb1z D4.out.s.bel.size) | (go_at_call 16; go_loud ((with_reducible refine (FI.out _ (by first | exact D4.out.s | exact (D4.out.alloc _).s)).mono ?_); rintro e w5 ⟨rfl, hs5, hc5⟩; have D5 : Hid (FN w5 B Q M VB VU n1 T' (addN m2 0 1 0 (T'.looks (j : Int) hh)) th' va' (hashH n1 G) g E w0) := Lib.hid ((show FN _ B Q M VB VU n1 T' m2 th' va' (hashH n1 G) g E w0 by first | exact D4.out | exact D4.out.alloc _).turn hSp hs5 hc5); have A5 : Hid (Blk w5 A 37 #[.int .i64 q, .int .i64 ky, .int .i64 vN]) := Lib.hid ((show Blk _ A 37 #[.int .i64 q, .int .i64 ky, .int .i64 vN] by first | exact A4.out | exact A4.out.alloc _).chg hc5 (fun e => hAM (Option.some.inj e).symm)); have z5 : w4.heap.size ≤ w5.heap.size := (by first | exact hc5.size | (have := hc5.size; simp at this; omega)); (first | (have P5 : Hid (Blk w5 wr.heap.size 40 #[.int .u64 0, .int .u64 0, .int .u64 0]) := Lib.hid (P4.out.chg hc5 (nN _ (Nat.le_refl _))); have q5 := cells3 P5.out; have p50 := q5.1; have p51 := q5.2.1; have p52 := q5.2.2; clear q5; have pf5 := fun j => P5.out.frozen j; have zP5 := P5.out.lt) | (have P5 : Hid (Blk w5 w4.heap.size 40 #[.int .u64 0, .int .u64 0, .int .u64 0]) := Lib.hid ((Blk.new w4 _ _).chg hc5 (nN _ z4)); have q5 := cells3 P5.out; have p50 := q5.1; have p51 := q5.2.1; have p52 := q5.2.2; clear q5; have pf5 := fun j => P5.out.frozen j; have zP5 := P5.out.lt) | skip)))); refine hK.out _ _ (by first | exact Chg.drewAlloc _ _ _ | (with_reducible exact Chg.refl _ _) | (with_reducible assumption) | (refine Chg.of_below ?_; with_reducible assumption) | (with_reducible exact (Chg.refl _ _).alloc _) | (with_reducible exact (Chg.refl _ _).drewN _) | (with_reducible exact (Chg.refl _ _).drew) | exact ⟨rfl, rfl, rfl, Nat.le_refl _, fun _ _ _ => rfl⟩ | exact (Chg.refl _ _).setCell (.inl (.inl rfl)) _ | exact (Chg.refl _ _).setCell (.inl (.inr rfl)) _ | exact Chg.drew (Chg.setCell ⟨rfl, rfl, rfl, Nat.le_refl _, fun _ _ _ => rfl⟩ (.inl (.inl rfl)) _) | exact Chg.drew (Chg.setCell ⟨rfl, rfl, rfl, Nat.le_refl _, fun _ _ _ => rfl⟩ (.inl (.inr rfl)) _)) ?_; clear hK K
                    try simp only [Act.put, List.setIfInBounds_toArray, List.set_cons_zero, List.set_cons_succ]
                    refine T_last (by simp only [List.getElem?_toArray, List.getElem?_cons_succ, List.getElem?_cons_zero]; rfl) (by rfl) (fun K hK => ?_); go_wp2_with (first | (go_at_call 17; refine (WK.out _).mono ?_; rintro e w4 ⟨rfl, hb4⟩; have D4 : Hid (FN w4 B Q M VB VU n1 T' m2 th' va' (hashH n1 G) g E w0) := Lib.hid (by first | exact KD.out.drew.later hb4 | exact (KD.out.drew.alloc _).later hb4); have A4 : Hid (Blk w4 A 37 #[.int .i64 q, .int .i64 ky, .int .i64 vN]) := Lib.hid (by first | exact KA.out.drew.below hb4 KA.out.lt | exact (KA.out.drew.alloc _).below hb4 (KA.out.drew.alloc _).lt); have z4 : wr.heap.size ≤ w4.heap.size := (by first | exact hb4.size | (have := hb4.size; simp at this; omega)); (try have P4 : Hid (Blk w4 wr.heap.size 40 #[.int .u64 0, .int .u64 0, .int .u64 0]) := Lib.hid (Blk.below (Blk.new wr.drew _ _) hb4 (by simp))); have gj4 := HC.out w4 D4.out.s.bel j hjl; have zb4 := Nat.lt_of_lt_of_le hb1z D4.out.s.bel.size) | (go_at_call 16; go_loud ((with_reducible refine (FI.out _ (by first | exact D4.out.s | exact (D4.out.alloc _).s)).mono ?_); rintro e w5 ⟨rfl, hs5, hc5⟩; have D5 : Hid (FN w5 B Q M VB VU n1 T' (addN m2 0 1 0 (T'.looks (j : Int) hh)) th' va' (hashH n1 G) g E w0) := Lib.hid ((show FN _ B Q M VB VU n1 T' m2 th' va' (hashH n1 G) g E w0 by first | exact D4.out | exact D4.out.alloc _).turn hSp hs5 hc5); have A5 : Hid (Blk w5 A 37 #[.int .i64 q, .int .i64 ky, .int .i64 vN]) := Lib.hid ((show Blk _ A 37 #[.int .i64 q, .int .i64 ky, .int .i64 vN] by first | exact A4.out | exact A4.out.alloc _).chg hc5 (fun e => hAM (Option.some.inj e).symm)); have z5 : w4.heap.size ≤ w5.heap.size := (by first | exact hc5.size | (have := hc5.size; simp at this; omega)); (first | (have P5 : Hid (Blk w5 wr.heap.size 40 #[.int .u64 0, .int .u64 0, .int .u64 0]) := Lib.hid (P4.out.chg hc5 (nN _ (Nat.le_refl _))); have q5 := cells3 P5.out; have p50 := q5.1; have p51 := q5.2.1; have p52 := q5.2.2; clear q5; have pf5 := fun j => P5.out.frozen j; have zP5 := P5.out.lt) | (have P5 : Hid (Blk w5 w4.heap.size 40 #[.int .u64 0, .int .u64 0, .int .u64 0]) := Lib.hid ((Blk.new w4 _ _).chg hc5 (nN _ z4)); have q5 := cells3 P5.out; have p50 := q5.1; have p51 := q5.2.1; have p52 := q5.2.2; clear q5; have pf5 := fun j => P5.out.frozen j; have zP5 := P5.out.lt) | skip)))); refine hK.out _ _ ?_; clear hK K
                    try simp only [Act.put, List.setIfInBounds_toArray, List.set_cons_zero, List.set_cons_succ]
                    refine T_calc (by simp only [List.getElem?_toArray, List.getElem?_cons_succ, List.getElem?_cons_zero]; rfl) (by rfl) (fun u => by go_simp <;> with_reducible rfl) ?_
                    try simp only [Act.put, List.setIfInBounds_toArray, List.set_cons_zero, List.set_cons_succ]
                    refine T_calc (by simp only [List.getElem?_toArray, List.getElem?_cons_succ, List.getElem?_cons_zero]; rfl) (by rfl) (fun u => by go_simp <;> with_reducible rfl) ?_
                    try simp only [Act.put, List.setIfInBounds_toArray, List.set_cons_zero, List.set_cons_succ]
                    refine T_calc (by simp only [List.getElem?_toArray, List.getElem?_cons_succ, List.getElem?_cons_zero]; rfl) (by rfl) (fun u => by go_simp <;> with_reducible rfl) ?_
                    try simp only [Act.put, List.setIfInBounds_toArray, List.set_cons_zero, List.set_cons_succ]
                    refine T_last (by simp only [List.getElem?_toArray, List.getElem?_cons_succ, List.getElem?_cons_zero]; rfl) (by rfl) (fun K hK => ?_); go_wp2_with (fail); refine hK.out _ _ ?_; clear hK K
                    try simp only [Act.put, List.setIfInBounds_toArray, List.set_cons_zero, List.set_cons_succ]
                    refine T_calc (by simp only [List.getElem?_toArray, List.getElem?_cons_succ, List.getElem?_cons_zero]; rfl) (by rfl) (fun u => by go_simp <;> with_reducible rfl) ?_
                    try simp only [Act.put, List.setIfInBounds_toArray, List.set_cons_zero, List.set_cons_succ]
                    refine T_done ?_
                    rotate_left 1
                    rotate_right 3
                    all_goals (go_wp2; go_meet; refine ⟨_, rfl, rfl, ?_, ?_, ?_, ?_⟩)
                    all_goals
                      first
                        | exact Nat.le_refl _
                        | assumption
                        | exact Nat.le_trans z4 z5
                        | with_reducible exact D5.out.chgNew (((Chg.refl _ _).set1 _ _).set1 _ _ |>.set1 _ _) ⟨by omega, by omega, by omega, by omega, by omega, by omega⟩
                        | with_reducible exact (D5.out.alloc _).chgNew (((Chg.refl _ _).set1 _ _).set1 _ _ |>.set1 _ _) ⟨by omega, by omega, by omega, by omega, by omega, by omega⟩
                        | with_reducible exact A5.out.chg (((Chg.refl _ _).set1 _ _).set1 _ _ |>.set1 _ _) (by omega)
                        | with_reducible exact (A5.out.alloc _).chg (((Chg.refl _ _).set1 _ _).set1 _ _ |>.set1 _ _) (by omega)
                        | with_reducible exact Blk.new _ _ _
                        | with_reducible exact D5.out.alloc _
                        | with_reducible exact A5.out.alloc _
                        | exact ((P5.out.set 0 _).set 1 _).set 2 _
                  case rest =>
                    obtain ⟨P, rfl, rfl, hP, hPb, hD, hA⟩ := hcut
                    have KD2 := Lib.hid hD
                    have KA2 := Lib.hid hA
                    obtain ⟨p0, p1, p2⟩ := cells3 hPb
                    have zP := hPb.lt
                    obtain ⟨v0, v1⟩ := hD.v.cells hjl
                    have zV0 := hD.v.b.lt
                    have zV1 := hD.v.u.lt
                    clear hD hA hPb KD KA
                    have hcn : cntB th' (j + 1) = cntB th' j + (if th' j = true then 1 else 0) := rfl
                    have HCN := Lib.hid hcn
                    have hle : cntB th' j ≤ 1 * j := sumN_le fun i _ => by split <;> omega
                    cases ht : th' j with
                    | true =>
                      have hv := HYJ.out.2 ht
                      rw [ht] at v0
                      rw [hv] at v1
                      have hcn' : cntB th' (j + 1) = cntB th' j + 1 := by rw [hcn, ht]; rfl
                      have HCN' := Lib.hid hcn'
                      clear hv hcn hcn' ht
                      go_wp2
                      refine wp_region_seq (fun _ => False) #[⟨0, 0, 12259964326927110866866776217202473468949912977468817408, 8388608, 0⟩, ⟨0, 0, 24519928653854221733733552434404946937899825954937634816, 512, 0⟩, ⟨0, 0, 49039857307708443467467104868809893875799651909875269632, 2097152, 0⟩, ⟨6, 6, 98079714615416886934934209737619787751599303819750539264, 73559785961562665201200657303214840813699477864812904448, 0⟩, ⟨8, 14, 196159429230833773869868419475239575503198607639501078528, 98079714615416886934934209737619787751599303819750539264, 1⟩, ⟨17, 31, 392318858461667547739736838950479151006397215279002157056, 208419393557760884736735195692442048972148520616969895936, 0⟩, ⟨32, 63, 784637716923335095479473677900958302012794430558004314112, 392318858461667547739736838950479151006397215279002157056, 0⟩, ⟨64, 127, 1569275433846670190958947355801916604025588861116008628224, 784637716923335095479473677900958302012794430558012702720, 0⟩, ⟨192, 255, 3138550867693340381917894711603833208051177722232017256448, 2353913150770005286438421033702874906038383291674012942336, 0⟩, ⟨256, 511, 6277101735386680763835789423207666416102355444464034512896, 3138550867693340381917894711603833208051177722232021450752, 0⟩, ⟨768, 1023, 12554203470773361527671578846415332832204710888928069025792, 9415652603080021145753684134811499624153533166696051769344, 1⟩, ⟨256, 511, 25108406941546723055343157692830665664409421777856138051584, 3138550867693340381917894711603833208051177722232017257472, 0⟩, ⟨256, 511, 50216813883093446110686315385661331328818843555712276103168, 3138550867693340381917894711603833208051177722232019353600, 0⟩, ⟨6400, 6655, 100433627766186892221372630771322662657637687111424552206336, 78463771692333509547947367790095830201279443055800431411200, 0⟩, ⟨8448, 14847, 200867255532373784442745261542645325315275374222849104412672, 103572178633880232603290525482926495865688864833656569462784, 1⟩, ⟨17664, 32767, 401734511064747568885490523085290650630550748445698208825344, 216560009870840486352334735100664491355531262834009190694912, 0⟩, ⟨33088, 65535, 803469022129495137770981046170581301261101496891396417650688, 405657699649364244362887891474795442140614720598488230395904, 0⟩, ⟨65600, 131071, 1606938044258990275541962092341162602522202993782792835301376, 804253659846418472866460519848482259563114291321954421964800, 0⟩] 17424 [(0, 0), (1, 0), (2, 0), (3, 0), (4, 1), (5, 0), (6, 0), (7, 0), (8, 0), (9, 0), (10, 1), (11, 0), (12, 0), (13, 0), (14, 1), (15, 0), (16, 0), (17, 0)] (by kernel_rfl) (by kernel_rfl) (by kernel_rfl) (by kernel_rfl) (by kernel_rfl) (by kernel_rfl) (fun c a d v w h => by cases d <;> exact h) ?_
                      refine seq_calc (by simp only [List.getElem?_toArray, List.getElem?_cons_succ, List.getElem?_cons_zero]; rfl) (by rfl) (fun u => by go_simp <;> with_reducible rfl) ?_
                      try simp only [Act.put, List.setIfInBounds_toArray, List.set_cons_zero, List.set_cons_succ]
                      refine seq_calc (by simp only [List.getElem?_toArray, List.getElem?_cons_succ, List.getElem?_cons_zero]; rfl) (by rfl) (fun u => by go_simp <;> with_reducible rfl) ?_
                      try simp only [Act.put, List.setIfInBounds_toArray, List.set_cons_zero, List.set_cons_succ]
                      refine seq_calc (by simp only [List.getElem?_toArray, List.getElem?_cons_succ, List.getElem?_cons_zero]; rfl) (by rfl) (fun u => by go_simp <;> with_reducible rfl) ?_
                      try simp only [Act.put, List.setIfInBounds_toArray, List.set_cons_zero, List.set_cons_succ]
                      refine seq_calc (by simp only [List.getElem?_toArray, List.getElem?_cons_succ, List.getElem?_cons_zero]; rfl) (by rfl) (fun u => by go_simp <;> with_reducible rfl) ?_
                      try simp only [Act.put, List.setIfInBounds_toArray, List.set_cons_zero, List.set_cons_succ]
                      refine seq_load1 (by simp only [List.getElem?_toArray, List.getElem?_cons_succ, List.getElem?_cons_zero]; rfl) (by rfl) rfl rfl Tryd.underlying4 rfl (by go_simp <;> with_reducible rfl) (by first | exact id | assumption | (simp; done) | (simp; omega)) ?_
                      try simp only [Act.put, List.setIfInBounds_toArray, List.set_cons_zero, List.set_cons_succ]
                      refine seq_calc (by simp only [List.getElem?_toArray, List.getElem?_cons_succ, List.getElem?_cons_zero]; rfl) (by rfl) (fun u => by go_simp <;> with_reducible rfl) ?_
                      try simp only [Act.put, List.setIfInBounds_toArray, List.set_cons_zero, List.set_cons_succ]
                      refine seq_calc (by simp only [List.getElem?_toArray, List.getElem?_cons_succ, List.getElem?_cons_zero]; rfl) (by rfl) (fun u => by go_simp <;> with_reducible rfl) ?_
                      try simp only [Act.put, List.setIfInBounds_toArray, List.set_cons_zero, List.set_cons_succ]
                      first
                        | (refine seq_skip (by simp only [List.getElem?_toArray, List.getElem?_cons_succ, List.getElem?_cons_zero]; rfl) (by rfl) ?_)
                        | (refine seq_calc (by simp only [List.getElem?_toArray, List.getElem?_cons_succ, List.getElem?_cons_zero]; rfl) (by rfl) (fun u => by go_simp <;> with_reducible rfl) ?_)
                      try simp only [Act.put, List.setIfInBounds_toArray, List.set_cons_zero, List.set_cons_succ]
                      first
                        | (refine seq_skip (by simp only [List.getElem?_toArray, List.getElem?_cons_succ, List.getElem?_cons_zero]; rfl) (by rfl) ?_)
                        | (refine seq_calc (by simp only [List.getElem?_toArray, List.getElem?_cons_succ, List.getElem?_cons_zero]; rfl) (by rfl) (fun u => by go_simp <;> with_reducible rfl) ?_)
                      try simp only [Act.put, List.setIfInBounds_toArray, List.set_cons_zero, List.set_cons_succ]
                      first
                        | (refine seq_skip (by simp only [List.getElem?_toArray, List.getElem?_cons_succ, List.getElem?_cons_zero]; rfl) (by rfl) ?_)
                        | (refine seq_calc (by simp only [List.getElem?_toArray, List.getElem?_cons_succ, List.getElem?_cons_zero]; rfl) (by rfl) (fun u => by go_simp <;> with_reducible rfl) ?_)
                      try simp only [Act.put, List.setIfInBounds_toArray, List.set_cons_zero, List.set_cons_succ]
                      first
                        | (refine seq_skip (by simp only [List.getElem?_toArray, List.getElem?_cons_succ, List.getElem?_cons_zero]; rfl) (by rfl) ?_)
                        | (refine seq_load1 (by simp only [List.getElem?_toArray, List.getElem?_cons_succ, List.getElem?_cons_zero]; rfl) (by rfl) rfl rfl Tryd.underlying38 rfl (by go_simp <;> with_reducible rfl) (by first | exact id | assumption | (simp; done) | (simp; omega)) ?_)
                      try simp only [Act.put, List.setIfInBounds_toArray, List.set_cons_zero, List.set_cons_succ]
                      first
                        | (refine seq_skip (by simp only [List.getElem?_toArray, List.getElem?_cons_succ, List.getElem?_cons_zero]; rfl) (by rfl) ?_)
                        | (refine seq_calc (by simp only [List.getElem?_toArray, List.getElem?_cons_succ, List.getElem?_cons_zero]; rfl) (by rfl) (fun u => by go_simp <;> with_reducible rfl) ?_)
                      try simp only [Act.put, List.setIfInBounds_toArray, List.set_cons_zero, List.set_cons_succ]
                      first
                        | (refine seq_skip (by simp only [List.getElem?_toArray, List.getElem?_cons_succ, List.getElem?_cons_zero]; rfl) (by rfl) ?_)
                        | (refine seq_calc (by simp only [List.getElem?_toArray, List.getElem?_cons_succ, List.getElem?_cons_zero]; rfl) (by rfl) (fun u => by go_simp <;> with_reducible rfl) ?_)
                      try simp only [Act.put, List.setIfInBounds_toArray, List.set_cons_zero, List.set_cons_succ]
                      first
                        | (refine seq_skip (by simp only [List.getElem?_toArray, List.getElem?_cons_succ, List.getElem?_cons_zero]; rfl) (by rfl) ?_)
                        | (refine seq_calc (by simp only [List.getElem?_toArray, List.getElem?_cons_succ, List.getElem?_cons_zero]; rfl) (by rfl) (fun u => by go_simp <;> with_reducible rfl) ?_)
                      try simp only [Act.put, List.setIfInBounds_toArray, List.set_cons_zero, List.set_cons_succ]
                      first
                        | (refine seq_skip (by simp only [List.getElem?_toArray, List.getElem?_cons_succ, List.getElem?_cons_zero]; rfl) (by rfl) ?_)
                        | (refine seq_load1 (by simp only [List.getElem?_toArray, List.getElem?_cons_succ, List.getElem?_cons_zero]; rfl) (by rfl) rfl rfl Tryd.underlying38 rfl (by go_simp <;> with_reducible rfl) (by first | exact id | assumption | (simp; done) | (simp; omega)) ?_)
                      try simp only [Act.put, List.setIfInBounds_toArray, List.set_cons_zero, List.set_cons_succ]
                      first
                        | (refine seq_skip (by simp only [List.getElem?_toArray, List.getElem?_cons_succ, List.getElem?_cons_zero]; rfl) (by rfl) ?_)
                        | (refine seq_calc (by simp only [List.getElem?_toArray, List.getElem?_cons_succ, List.getElem?_cons_zero]; rfl) (by rfl) (fun u => by go_simp <;> with_reducible rfl) ?_)
                      try simp only [Act.put, List.setIfInBounds_toArray, List.set_cons_zero, List.set_cons_succ]
                      first
                        | (refine seq_skip (by simp only [List.getElem?_toArray, List.getElem?_cons_succ, List.getElem?_cons_zero]; rfl) (by rfl) ?_)
                        | (refine seq_calc (by simp only [List.getElem?_toArray, List.getElem?_cons_succ, List.getElem?_cons_zero]; rfl) (by rfl) (fun u => by go_simp <;> with_reducible rfl) ?_)
                      try simp only [Act.put, List.setIfInBounds_toArray, List.set_cons_zero, List.set_cons_succ]
                      refine seq_calc (by simp only [List.getElem?_toArray, List.getElem?_cons_succ, List.getElem?_cons_zero]; rfl) (by rfl) (fun u => by go_simp <;> with_reducible rfl) ?_
                      try simp only [Act.put, List.setIfInBounds_toArray, List.set_cons_zero, List.set_cons_succ]
                      refine seq_nil ?_
                      go_wp2
                      go_roundw
                      case rel => exact ⟨j + 1, _, by omega, by go_num, by rw [HCN'.out]; go_num, KD2.out.drew, KA2.out.drew⟩
                      case measure => simp [intOf]; omega
                    | false =>
                      rw [ht] at v0
                      have hcn' : cntB th' (j + 1) = cntB th' j := by rw [hcn, ht]; rfl
                      have HCN' := Lib.hid hcn'
                      clear hcn hcn' ht
                      go_wp2
                      refine wp_region_seq (fun _ => False) #[⟨0, 0, 12259964326927110866866776217202473468949912977468817408, 8388608, 0⟩, ⟨0, 0, 24519928653854221733733552434404946937899825954937634816, 512, 0⟩, ⟨0, 0, 49039857307708443467467104868809893875799651909875269632, 2097152, 0⟩, ⟨6, 6, 98079714615416886934934209737619787751599303819750539264, 73559785961562665201200657303214840813699477864812904448, 0⟩, ⟨8, 14, 196159429230833773869868419475239575503198607639501078528, 98079714615416886934934209737619787751599303819750539264, 1⟩, ⟨17, 31, 392318858461667547739736838950479151006397215279002157056, 208419393557760884736735195692442048972148520616969895936, 0⟩, ⟨32, 63, 784637716923335095479473677900958302012794430558004314112, 392318858461667547739736838950479151006397215279002157056, 0⟩, ⟨64, 127, 1569275433846670190958947355801916604025588861116008628224, 784637716923335095479473677900958302012794430558012702720, 0⟩, ⟨192, 255, 3138550867693340381917894711603833208051177722232017256448, 2353913150770005286438421033702874906038383291674012942336, 0⟩, ⟨256, 511, 6277101735386680763835789423207666416102355444464034512896, 3138550867693340381917894711603833208051177722232021450752, 0⟩, ⟨768, 1023, 12554203470773361527671578846415332832204710888928069025792, 9415652603080021145753684134811499624153533166696051769344, 1⟩, ⟨256, 511, 25108406941546723055343157692830665664409421777856138051584, 3138550867693340381917894711603833208051177722232017257472, 0⟩, ⟨256, 511, 50216813883093446110686315385661331328818843555712276103168, 3138550867693340381917894711603833208051177722232019353600, 0⟩, ⟨6400, 6655, 100433627766186892221372630771322662657637687111424552206336, 78463771692333509547947367790095830201279443055800431411200, 0⟩, ⟨8448, 14847, 200867255532373784442745261542645325315275374222849104412672, 103572178633880232603290525482926495865688864833656569462784, 1⟩, ⟨17664, 32767, 401734511064747568885490523085290650630550748445698208825344, 216560009870840486352334735100664491355531262834009190694912, 0⟩, ⟨33088, 65535, 803469022129495137770981046170581301261101496891396417650688, 405657699649364244362887891474795442140614720598488230395904, 0⟩, ⟨65600, 131071, 1606938044258990275541962092341162602522202993782792835301376, 804253659846418472866460519848482259563114291321954421964800, 0⟩] 17424 [(0, 0), (1, 0), (2, 0), (3, 0), (4, 1), (5, 0), (6, 0), (7, 0), (8, 0), (9, 0), (10, 1), (11, 0), (12, 0), (13, 0), (14, 1), (15, 0), (16, 0), (17, 0)] (by kernel_rfl) (by kernel_rfl) (by kernel_rfl) (by kernel_rfl) (by kernel_rfl) (by kernel_rfl) (fun c a d v w h => by cases d <;> exact h) ?_
                      refine seq_calc (by simp only [List.getElem?_toArray, List.getElem?_cons_succ, List.getElem?_cons_zero]; rfl) (by rfl) (fun u => by go_simp <;> with_reducible rfl) ?_
                      try simp only [Act.put, List.setIfInBounds_toArray, List.set_cons_zero, List.set_cons_succ]
                      refine seq_calc (by simp only [List.getElem?_toArray, List.getElem?_cons_succ, List.getElem?_cons_zero]; rfl) (by rfl) (fun u => by go_simp <;> with_reducible rfl) ?_
                      try simp only [Act.put, List.setIfInBounds_toArray, List.set_cons_zero, List.set_cons_succ]
                      refine seq_calc (by simp only [List.getElem?_toArray, List.getElem?_cons_succ, List.getElem?_cons_zero]; rfl) (by rfl) (fun u => by go_simp <;> with_reducible rfl) ?_
                      try simp only [Act.put, List.setIfInBounds_toArray, List.set_cons_zero, List.set_cons_succ]
                      refine seq_calc (by simp only [List.getElem?_toArray, List.getElem?_cons_succ, List.getElem?_cons_zero]; rfl) (by rfl) (fun u => by go_simp <;> with_reducible rfl) ?_
                      try simp only [Act.put, List.setIfInBounds_toArray, List.set_cons_zero, List.set_cons_succ]
                      refine seq_load1 (by simp only [List.getElem?_toArray, List.getElem?_cons_succ, List.getElem?_cons_zero]; rfl) (by rfl) rfl rfl Tryd.underlying4 rfl (by go_simp <;> with_reducible rfl) (by first | exact id | assumption | (simp; done) | (simp; omega)) ?_
                      try simp only [Act.put, List.setIfInBounds_toArray, List.set_cons_zero, List.set_cons_succ]
                      refine seq_calc (by simp only [List.getElem?_toArray, List.getElem?_cons_succ, List.getElem?_cons_zero]; rfl) (by rfl) (fun u => by go_simp <;> with_reducible rfl) ?_
                      try simp only [Act.put, List.setIfInBounds_toArray, List.set_cons_zero, List.set_cons_succ]
                      refine seq_calc (by simp only [List.getElem?_toArray, List.getElem?_cons_succ, List.getElem?_cons_zero]; rfl) (by rfl) (fun u => by go_simp <;> with_reducible rfl) ?_
                      try simp only [Act.put, List.setIfInBounds_toArray, List.set_cons_zero, List.set_cons_succ]
                      first
                        | (refine seq_skip (by simp only [List.getElem?_toArray, List.getElem?_cons_succ, List.getElem?_cons_zero]; rfl) (by rfl) ?_)
                        | (refine seq_calc (by simp only [List.getElem?_toArray, List.getElem?_cons_succ, List.getElem?_cons_zero]; rfl) (by rfl) (fun u => by go_simp <;> with_reducible rfl) ?_)
                      try simp only [Act.put, List.setIfInBounds_toArray, List.set_cons_zero, List.set_cons_succ]
                      first
                        | (refine seq_skip (by simp only [List.getElem?_toArray, List.getElem?_cons_succ, List.getElem?_cons_zero]; rfl) (by rfl) ?_)
                        | (refine seq_calc (by simp only [List.getElem?_toArray, List.getElem?_cons_succ, List.getElem?_cons_zero]; rfl) (by rfl) (fun u => by go_simp <;> with_reducible rfl) ?_)
                      try simp only [Act.put, List.setIfInBounds_toArray, List.set_cons_zero, List.set_cons_succ]
                      first
                        | (refine seq_skip (by simp only [List.getElem?_toArray, List.getElem?_cons_succ, List.getElem?_cons_zero]; rfl) (by rfl) ?_)
                        | (refine seq_calc (by simp only [List.getElem?_toArray, List.getElem?_cons_succ, List.getElem?_cons_zero]; rfl) (by rfl) (fun u => by go_simp <;> with_reducible rfl) ?_)
                      try simp only [Act.put, List.setIfInBounds_toArray, List.set_cons_zero, List.set_cons_succ]
                      first
                        | (refine seq_skip (by simp only [List.getElem?_toArray, List.getElem?_cons_succ, List.getElem?_cons_zero]; rfl) (by rfl) ?_)
                        | (refine seq_load1 (by simp only [List.getElem?_toArray, List.getElem?_cons_succ, List.getElem?_cons_zero]; rfl) (by rfl) rfl rfl Tryd.underlying38 rfl (by go_simp <;> with_reducible rfl) (by first | exact id | assumption | (simp; done) | (simp; omega)) ?_)
                      try simp only [Act.put, List.setIfInBounds_toArray, List.set_cons_zero, List.set_cons_succ]
                      first
                        | (refine seq_skip (by simp only [List.getElem?_toArray, List.getElem?_cons_succ, List.getElem?_cons_zero]; rfl) (by rfl) ?_)
                        | (refine seq_calc (by simp only [List.getElem?_toArray, List.getElem?_cons_succ, List.getElem?_cons_zero]; rfl) (by rfl) (fun u => by go_simp <;> with_reducible rfl) ?_)
                      try simp only [Act.put, List.setIfInBounds_toArray, List.set_cons_zero, List.set_cons_succ]
                      first
                        | (refine seq_skip (by simp only [List.getElem?_toArray, List.getElem?_cons_succ, List.getElem?_cons_zero]; rfl) (by rfl) ?_)
                        | (refine seq_calc (by simp only [List.getElem?_toArray, List.getElem?_cons_succ, List.getElem?_cons_zero]; rfl) (by rfl) (fun u => by go_simp <;> with_reducible rfl) ?_)
                      try simp only [Act.put, List.setIfInBounds_toArray, List.set_cons_zero, List.set_cons_succ]
                      first
                        | (refine seq_skip (by simp only [List.getElem?_toArray, List.getElem?_cons_succ, List.getElem?_cons_zero]; rfl) (by rfl) ?_)
                        | (refine seq_calc (by simp only [List.getElem?_toArray, List.getElem?_cons_succ, List.getElem?_cons_zero]; rfl) (by rfl) (fun u => by go_simp <;> with_reducible rfl) ?_)
                      try simp only [Act.put, List.setIfInBounds_toArray, List.set_cons_zero, List.set_cons_succ]
                      first
                        | (refine seq_skip (by simp only [List.getElem?_toArray, List.getElem?_cons_succ, List.getElem?_cons_zero]; rfl) (by rfl) ?_)
                        | (refine seq_load1 (by simp only [List.getElem?_toArray, List.getElem?_cons_succ, List.getElem?_cons_zero]; rfl) (by rfl) rfl rfl Tryd.underlying38 rfl (by go_simp <;> with_reducible rfl) (by first | exact id | assumption | (simp; done) | (simp; omega)) ?_)
                      try simp only [Act.put, List.setIfInBounds_toArray, List.set_cons_zero, List.set_cons_succ]
                      first
                        | (refine seq_skip (by simp only [List.getElem?_toArray, List.getElem?_cons_succ, List.getElem?_cons_zero]; rfl) (by rfl) ?_)
                        | (refine seq_calc (by simp only [List.getElem?_toArray, List.getElem?_cons_succ, List.getElem?_cons_zero]; rfl) (by rfl) (fun u => by go_simp <;> with_reducible rfl) ?_)
                      try simp only [Act.put, List.setIfInBounds_toArray, List.set_cons_zero, List.set_cons_succ]
                      first
                        | (refine seq_skip (by simp only [List.getElem?_toArray, List.getElem?_cons_succ, List.getElem?_cons_zero]; rfl) (by rfl) ?_)
                        | (refine seq_calc (by simp only [List.getElem?_toArray, List.getElem?_cons_succ, List.getElem?_cons_zero]; rfl) (by rfl) (fun u => by go_simp <;> with_reducible rfl) ?_)
                      try simp only [Act.put, List.setIfInBounds_toArray, List.set_cons_zero, List.set_cons_succ]
                      refine seq_calc (by simp only [List.getElem?_toArray, List.getElem?_cons_succ, List.getElem?_cons_zero]; rfl) (by rfl) (fun u => by go_simp <;> with_reducible rfl) ?_
                      try simp only [Act.put, List.setIfInBounds_toArray, List.set_cons_zero, List.set_cons_succ]
                      refine seq_nil ?_
                      go_wp2
                      go_roundw
                      case rel => exact ⟨j + 1, _, by omega, by go_num, by rw [HCN'.out], KD2.out.drew, KA2.out.drew⟩
                      case measure => simp [intOf]; omega
                · obtain rfl : j = n1 := by omega
                  have c0 := KA.out.cell 0
                  have zA := KA.out.lt
                  have hq : (q != 1) = false ∨ decide (T'.left > left + 1) = false := by
                    by_cases e : q = 1
                    · exact .inl (by simp [e])
                    · exact .inr (by have := HLE.out e; have := HLF.out; simp; omega)
                  have eqn : (((cntB th' j : Nat) : Int) != ((cntB th' j : Nat) : Int)) = false := by simp
                  obtain ⟨lb1, lb2⟩ := HLB.out
                  have hlw : IntKind.i64.wrap (left + 1) = left + 1 := by rw [IntKind.wrap_i64]; omega
                  generalize T'.left = left' at *
                  clear HLE
                  rcases hq with hq | hq
                  · cases hgt : decide (left' > left + 1) with
                    | true =>
                      go_wp2_with (first
                        | (go_at_call 18; (with_reducible refine (LN.out _ _ KD.out.s).mono ?_); rintro e w6 ⟨rfl, rfl⟩)
                        | (go_at_call 10; (with_reducible refine (LF.out _ _ KD.out.s).mono ?_); rintro e w7 ⟨rfl, hb7⟩; have D7 := Lib.hid (KD.out.later hb7); have c07 := (KA.out.below hb7 KA.out.lt).cell 0; have zA7 := (KA.out.below hb7 KA.out.lt).lt))
                      go_roundw
                      case rel => exact ⟨k + 1, _, _, _, _, by omega, by go_num, D7.out⟩
                      case measure => simp [intOf]; omega
                    | false =>
                      go_wp2_with (first
                        | (go_at_call 18; (with_reducible refine (LN.out _ _ KD.out.s).mono ?_); rintro e w6 ⟨rfl, rfl⟩)
                        | (go_at_call 10; (with_reducible refine (LF.out _ _ KD.out.s).mono ?_); rintro e w7 ⟨rfl, hb7⟩; have D7 := Lib.hid (KD.out.later hb7); have c07 := (KA.out.below hb7 KA.out.lt).cell 0; have zA7 := (KA.out.below hb7 KA.out.lt).lt))
                      go_roundw
                      case rel => exact ⟨k + 1, _, _, _, _, by omega, by go_num, D7.out⟩
                      case measure => simp [intOf]; omega
                  · go_wp2_with (first
                      | (go_at_call 18; (with_reducible refine (LN.out _ _ KD.out.s).mono ?_); rintro e w6 ⟨rfl, rfl⟩)
                      | (go_at_call 10; (with_reducible refine (LF.out _ _ KD.out.s).mono ?_); rintro e w7 ⟨rfl, hb7⟩; have D7 := Lib.hid (KD.out.later hb7); have c07 := (KA.out.below hb7 KA.out.lt).cell 0; have zA7 := (KA.out.below hb7 KA.out.lt).lt))
                    go_roundw
                    case rel => exact ⟨k + 1, _, _, _, _, by omega, by go_num, D7.out⟩
                    case measure => simp [intOf]; omega
        · obtain rfl : k = n2 := by omega
          go_wp2
          go_ret
          exact ⟨rfl, KD.out.s.bel⟩
  · replace hr : rightB n = false := by simpa using hr
    have NW := Lib.hid (fun (w' : World) he' => tnew_bad n hr E w' he')
    unfold errAt at *
    clear hr
    go_enter Tryd.func3, Tryd.ntmps3
    go_wp2_with (first
      | (go_at_call 7; refine AL.out.mono ?_; rintro e w1 ⟨rfl, hb1⟩)
      | (go_at_call 8; refine (NW.out w1 ((HEC.out.sub (by decide)).below hb1)).mono ?_; rintro e w2 ⟨rfl, hb2⟩; have hB2 := hb1.trans (hb2.mono hb1.size)))
    go_ret
    exact ⟨rfl, hB2⟩
end Go.Proofs.YtcolhncbpbcklaaDoor
