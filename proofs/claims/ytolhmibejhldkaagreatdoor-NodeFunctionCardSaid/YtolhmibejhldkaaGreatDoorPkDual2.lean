/- Texts joined: DualDo DualMore DualLen DualTake EvacBad DualStep DualBegin DualStepA DualNew. No condition but those that stand within. -/
import Derived.Test.YtolhmibejhldkaaGreatDoorPkSwar
import Derived.Test.YtolhmibejhldkaaGreatDoorPkMeter
import Derived.Test.YtolhmibejhldkaaGreatDoorPkErrs
import Derived.Test.YtolhmibejhldkaaGreatDoorPkGroup
import Derived.Test.YtolhmibejhldkaaGreatDoorPkTab
import Derived.Test.YtolhmibejhldkaaGreatDoorPkTab2
import Derived.Test.YtolhmibejhldkaaGreatDoorPkTab3
import Derived.Test.YtolhmibejhldkaaGreatDoorPkTab4
import Derived.Test.YtolhmibejhldkaaGreatDoorPkTake
import Derived.Test.YtolhmibejhldkaaGreatDoorPkTabM
import Derived.Test.YtolhmibejhldkaaGreatDoorPkBuild
import Derived.Test.YtolhmibejhldkaaGreatDoorPkEvac
import Derived.Test.YtolhmibejhldkaaGreatDoorPkRef09
import Derived.Test.YtolhmibejhldkaaGreatDoorPkEvac2
import Derived.Test.YtolhmibejhldkaaGreatDoorPkActs
import Derived.Test.YtolhmibejhldkaaGreatDoorPkDual1
set_option linter.unusedVariables false
set_option linter.unusedSimpArgs false
namespace Go.Proofs.YtolhmibejhldkaaGreatDoor
open Go.RowKit Go.Proofs
attribute [local go_sem] neq_nilG eql_nilG
structure DuV (w : World) (a : Nat → Nat) (s : DuS) (tk : Bool) (E : Nat → Addr) (w0 : World) : Prop where
  ok : DuOK s
  m : (∃ bcap, DuA w a s bcap tk E w0) ∨ ∃ bcap fcap cap5, DuB w a s bcap fcap cap5 tk E w0
def LensV (lp : Option Nat) (a : Nat → Nat) (s : DuS) (n0 : Nat) : Prop := LensD lp a s.k (decide (s.bare = 0)) n0
section
variable {w w' w0 : World} {a : Nat → Nat} {s : DuS} {tk : Bool} {E : Nat → Addr} {lp : Option Nat} {mt : MeterS}
theorem DuV.later (h : DuV w a s tk E w0) (hb : Below w.heap.size w w') : DuV w' a s tk E w0 := by
  refine ⟨h.ok, ?_⟩
  rcases h.m with ⟨b, hA⟩ | ⟨b, f, c, hB⟩
  · exact .inl ⟨b, hA.later hb⟩
  · exact .inr ⟨b, f, c, hB.later hb⟩
theorem DuV.n (h : DuV w a s tk E w0) : DuN a s.k (decide (s.bare = 0)) w0.heap.size := by
  rcases h.m with ⟨b, hA⟩ | ⟨b, f, c, hB⟩
  · rw [decide_eq_false (by have := hA.hb; omega)]; exact hA.n
  · rw [decide_eq_true hB.hb]; exact hB.n
theorem DuV.lt (h : DuV w a s tk E w0) : ∀ x, Used s.k (decide (s.bare = 0)) x → a x < w.heap.size := by
  rcases h.m with ⟨b, hA⟩ | ⟨b, f, c, hB⟩
  · rw [decide_eq_false (by have := hA.hb; omega)]; exact hA.lt
  · rw [decide_eq_true hB.hb]; exact hB.lt
theorem DuV.chg {Y : Nat → Prop} (h : DuV w a s tk E w0) (hc : Chg Y w w') (h0 : ∀ b, Y b → w0.heap.size ≤ b) (hY : ∀ x, Used s.k (decide (s.bare = 0)) x → ¬ Y (a x)) : DuV w' a s tk E w0 := by
  refine ⟨h.ok, ?_⟩
  rcases h.m with ⟨b, hA⟩ | ⟨b, f, c, hB⟩
  · rw [decide_eq_false (by have := hA.hb; omega)] at hY; exact .inl ⟨b, hA.chg hc h0 hY⟩
  · rw [decide_eq_true hB.hb] at hY; exact .inr ⟨b, f, c, hB.chg hc h0 hY⟩
theorem DuV.ge (h : DuV w a s tk E w0) : w0.heap.size ≤ w.heap.size := by
  rcases h.m with ⟨b, hA⟩ | ⟨b, f, c, hB⟩
  · exact hA.t.bel.size
  · exact hB.t.bel.size
theorem DuV.low (h : DuV w a s tk E w0) : Low w E w0.heap.size [1, 2, 4, 5, 14, 16] := by
  rcases h.m with ⟨b, hA⟩ | ⟨b, f, c, hB⟩
  · exact hA.t.low
  · exact hB.t.low
theorem DuV.bel (h : DuV w a s tk E w0) : Below w0.heap.size w0 w := by
  rcases h.m with ⟨b, hA⟩ | ⟨b, f, c, hB⟩
  · exact hA.t.bel
  · exact hB.t.bel
theorem DuV.old (h : DuV w a s tk E w0) : TN w (a 1) (a 2) s.T E w0 := by
  rcases h.m with ⟨b, hA⟩ | ⟨b, f, c, hB⟩
  · exact hA.t
  · exact hB.t
theorem selU_bare (hb : 0 < s.bare) (key : Int) (hh : Nat) : s.selU key hh = false := by
  unfold DuS.selU; rw [decide_eq_false (by omega), Bool.false_and]
theorem DuV.sel (h : DuV w a s tk E w0) (key : Int) (hh : Nat) : TN w (s.selB a key hh) (s.selQ a key hh) (s.selT key hh) E w0 := by
  unfold DuS.selB DuS.selQ DuS.selT
  rcases h.m with ⟨b, hA⟩ | ⟨b, f, c, hB⟩
  · rw [selU_bare hA.hb]; exact hA.t
  · cases hc : s.selU key hh with
    | true => exact hB.u _ (h.ok.yk hh)
    | false => exact hB.t
theorem DuV.setSel {T' : TabS} (h : DuV w a s tk E w0) (key : Int) (hh : Nat) (ht : TN w' (s.selB a key hh) (s.selQ a key hh) T' E w0) (hn : T'.n = (s.selT key hh).n) (hc : Chg (fun b => b = s.selB a key hh ∨ b = s.selQ a key hh) w w') : DuV w' a (s.setSel key hh T') tk E w0 := by
  unfold DuS.selB DuS.selQ at ht hc
  unfold DuS.selT at hn
  unfold DuS.setSel
  have hg := ht.good
  rcases h.m with ⟨b, hA⟩ | ⟨b, f, c, hB⟩
  · rw [selU_bare hA.hb] at ht hn hc ⊢
    exact ⟨h.ok.setT hg hn, .inl ⟨b, hA.old ht hc⟩⟩
  · cases hq : s.selU key hh with
    | true =>
      rw [hq] at ht hn hc
      exact ⟨h.ok.setU hB.hb hg (hn.trans (h.ok.u _ (h.ok.yk hh)).2), .inr ⟨b, f, c, hB.target (h.ok.yk hh) ht hc⟩⟩
    | false =>
      rw [hq] at ht hn hc
      exact ⟨h.ok.setT hg hn, .inr ⟨b, f, c, hB.old ht hc⟩⟩
theorem DuV.lens (h : DuV w a s tk E w0) (hs : LensV lp a s w0.heap.size) (hc : Chg (fun b => lp = some b) w w') : DuV w' a s tk E w0 := h.chg hc (fun b e => (hs b e).1) (fun x hx e => (hs _ e).2 x hx rfl)
theorem DuV.seek (h : DuV w a s tk E w0) (hl : LW w lp mt) (hs : LensV lp a s w0.heap.size) (key : Int) (hh : Nat) (hb : hh < 18446744073709551616) (q : Option Addr) (hq : LensAt q lp) (x y z : Int) :
    Calls Tryz.prog 91 #[.pointer (some ⟨a 0, 0, none⟩), .agg #[.pointer q, .int .i64 x, .int .i64 y, .int .i64 z], .int .u64 key, .int .u64 (hh : Int)] w fun e w' =>
      ∃ fp, e = .returned (.tuple #[.agg (spotC (s.selB a key hh) key hh ((s.selT key hh).atP (s.selQ a key hh) key hh) ((s.selT key hh).atZ key hh) fp ((s.selT key hh).frZ key hh)), .bool (s.has key hh)]) ∧ (0 ≤ (s.selT key hh).frZ key hh → fp = some ⟨s.selQ a key hh, (s.selT key hh).freeG key hh * 25, none⟩) ∧ DuV w' a s tk E w0 ∧ LW w' lp (addN mt x y z (s.lkU key hh + s.lkT key hh)) ∧ Chg (fun b => lp = some b) w w' := by
  unfold LensV at hs
  rcases h.m with ⟨b, hA⟩ | ⟨b, f, c, hB⟩
  · have hsu := selU_bare hA.hb key hh
    have h1 : s.selB a key hh = a 1 := by unfold DuS.selB; rw [hsu]; rfl
    have h2 : s.selQ a key hh = a 2 := by unfold DuS.selQ; rw [hsu]; rfl
    have h3 : s.selT key hh = s.T := by unfold DuS.selT; rw [hsu]; rfl
    have hb0 : ¬ s.bare = 0 := by have := hA.hb; omega
    have h4 : s.has key hh = s.T.has key hh := by unfold DuS.has DuS.inU; rw [decide_eq_false hb0, Bool.false_and, Bool.false_or]
    have h5 : s.lkU key hh + s.lkT key hh = s.T.looks key hh := by
      unfold DuS.lkU DuS.lkT DuS.inU
      rw [if_neg hb0, decide_eq_false hb0, Bool.false_and, if_neg (by decide), Nat.zero_add]
    rw [h1, h2, h3, h4, h5]
    rw [decide_eq_false hb0] at hs
    refine (hA.seek hl hs key hh hb q hq x y z).mono ?_
    rintro e w' ⟨fp, rfl, g1, g2, g3, g4⟩
    exact ⟨fp, rfl, g1, ⟨h.ok, .inl ⟨b, g2⟩⟩, g3, g4⟩
  · rw [decide_eq_true hB.hb] at hs
    refine (hB.seek h.ok hl hs key hh hb q hq x y z).mono ?_
    rintro e w' ⟨fp, rfl, g1, g2, g3, g4⟩
    exact ⟨fp, rfl, g1, ⟨h.ok, .inr ⟨b, f, c, g2⟩⟩, g3, g4⟩
theorem selB_used (h : DuOK s) (a : Nat → Nat) (key : Int) (hh : Nat) : (∃ x, Used s.k (decide (s.bare = 0)) x ∧ s.selB a key hh = a x) ∧ ∃ x, Used s.k (decide (s.bare = 0)) x ∧ s.selQ a key hh = a x := by
  unfold DuS.selB DuS.selQ
  cases hq : s.selU key hh with
  | true => exact ⟨⟨_, .of (h.yk hh) (by omega) (by omega), rfl⟩, ⟨_, .of (h.yk hh) (by omega) (by omega), rfl⟩⟩
  | false => exact ⟨⟨1, .lt4 (by decide), rfl⟩, ⟨2, .lt4 (by decide), rfl⟩⟩
theorem LensV.sel {n0 : Nat} (hs : LensV lp a s n0) (h : DuOK s) (key : Int) (hh : Nat) : ∀ b, lp = some b → ¬ (b = s.selB a key hh ∨ b = s.selQ a key hh) := fun b e => by
  obtain ⟨⟨x, hx, e1⟩, ⟨y, hy, e2⟩⟩ := selB_used h a key hh
  rintro (c | c)
  · rw [e1] at c; exact (hs b e).2 x hx c
  · rw [e2] at c; exact (hs b e).2 y hy c
theorem setSel_k (s : DuS) (key : Int) (hh : Nat) (V : TabS) : (s.setSel key hh V).k = s.k ∧ (s.setSel key hh V).bare = s.bare := by
  unfold DuS.setSel; split <;> exact ⟨rfl, rfl⟩
set_option maxRecDepth 100000 in
set_option maxHeartbeats 8000000 in
theorem DuV.find (h : DuV w a s tk E w0) (hl : LW w lp mt) (hs : LensV lp a s w0.heap.size) (key : Int) (hh : Nat) (hb : hh < 18446744073709551616) (q : Option Addr) (hq : LensAt q lp) (x y z : Int) :
    Calls Tryz.prog 57 #[.pointer (some ⟨a 0, 0, none⟩), .agg #[.pointer q, .int .i64 x, .int .i64 y, .int .i64 z], .int .u64 key, .int .u64 (hh : Int)] w fun e w' =>
      e = .returned (.tuple #[.agg #[.int .u64 (s.ent key hh).key, .int .u64 (s.ent key hh).val, .int .u64 (s.ent key hh).hash], .bool (s.has key hh)]) ∧ DuV w' a s tk E w0 ∧ LW w' lp (addN mt x y z (s.lkU key hh + s.lkT key hh)) ∧ Chg (fun b => lp = some b) w w' := by
  have HS := Lib.hid hs
  have HD := Lib.hid h
  have HL := Lib.hid hl
  have SK := Lib.hid (fun (w' : World) (h' : DuV w' a s tk E w0) (hl' : LW w' lp mt) => h'.seek hl' hs key hh hb q hq x y z)
  have EN0 := fun (fp : Option Addr) (fz : Int) (w' : World) (h' : DuV w' a s tk E w0) => TN.entry (h'.sel key hh) key hh fp fz
  simp only [sel_has, sel_ent] at EN0
  have EN := Lib.hid EN0
  have hge := h.ge
  have HZ := Lib.hid (show ∀ b, lp = some b → b < w.heap.size from fun b e => (hl b e).lt)
  have hNL : ∀ b, w.heap.size ≤ b → ¬ lp = some b := fun b hb e => by have := HZ.out b e; omega
  unfold spotC at *
  unfold EntS.val3 at EN
  generalize (s.selT key hh).atP (s.selQ a key hh) key hh = ap at *
  generalize (s.selT key hh).atZ key hh = az at *
  generalize (s.selT key hh).frZ key hh = fz at *
  generalize (s.selT key hh).freeG key hh = fg at *
  generalize s.selB a key hh = sB at *
  generalize s.selQ a key hh = sQ at *
  generalize s.has key hh = hs' at *
  generalize (s.ent key hh).key = k0 at *
  generalize (s.ent key hh).val = k1 at *
  generalize (s.ent key hh).hash = k2 at *
  generalize s.lkU key hh + s.lkT key hh = lk at *
  clear h hl hs EN0
  obtain ⟨B5, hB5⟩ : ∃ B5, B5 = w.heap.size := ⟨_, rfl⟩
  have hB5' : w.heap.size ≤ B5 := Nat.le_of_eq hB5.symm
  have HB5 := Lib.hid hB5
  clear hB5
  go_enter Tryz.func57, Tryz.ntmps57
  go_wp2_with (first
    | (go_at_call 91; (with_reducible refine (SK.out _ (HD.out.later (by go_grown)) (HL.out.later (by go_grown))).mono ?_); rintro e w1 ⟨fp, rfl, hfp, hd1, hl1, hc1⟩; have R1 : Blk w1 (w.heap.size + 1) 46 #[.int .u64 0, .int .u64 0, .int .u64 0] := Blk.chg (Blk.new_at (by simp)) hc1 (hNL _ (by omega)); have D1 := Lib.hid hd1; have L1 := Lib.hid hl1; have C1 := Lib.hid ((((Chg.refl _ w).alloc _).alloc _).trans hc1); have zR1 := R1.lt; clear hfp hd1 hl1 hc1)
    | (go_at_call 44; (with_reducible refine (EN.out _ _ _ (D1.out.later ((Below.refl _ _).alloc (Nat.le_refl _) _))).mono ?_); rintro e w2 ⟨rfl, hb2⟩; have HB2 := Lib.hid (((Below.refl w1.heap.size w1).alloc (Nat.le_refl _) (.cells #[.pointer (some ⟨sB, 0, none⟩), .int .u64 key, .int .u64 (hh : Int), .pointer ap, .int .i64 az, .pointer fp, .int .i64 fz] 100)).trans (hb2.mono (by simp))); have R2 := R1.below HB2.out R1.lt; have zR2 := R2.lt; have r2 := cells3 R2; have r20 := r2.1; have r21 := r2.2.1; have r22 := r2.2.2; clear r2; have qf := fun j => R2.frozen j))
  obtain ⟨r0, r1, r2⟩ := ret3 (x := .int .u64 k0) (y := .int .u64 k1) (z := .int .u64 k2) R2
  have hCf : Chg (fun b => b = w.heap.size + 1) w2 (((w2.setCell ⟨w.heap.size + 1, 0, none⟩ (.int .u64 k0)).setCell ⟨w.heap.size + 1, 1, none⟩ (.int .u64 k1)).setCell ⟨w.heap.size + 1, 2, none⟩ (.int .u64 k2)) := ((Chg.refl _ _).set1 _ _).set1 _ _ |>.set1 _ _
  refine bodyPost_ret (v := .tuple #[.agg #[.int .u64 k0, .int .u64 k1, .int .u64 k2], .bool hs']) (by simp [results, Tryz.results57, go_sem, r0, r1, r2]) rfl ⟨rfl, ?_, ?_, ?_⟩
  · exact (D1.out.later HB2.out).chg hCf (fun b e => by omega) (fun x hx e => by have := HD.out.lt x hx; omega)
  · exact (L1.out.later HB2.out).chg hCf (fun b e e2 => hNL b (by omega) e)
  · exact ((C1.out.thenBelow HB2.out).trans' hCf (fun b hb e => by omega))
set_option maxRecDepth 100000 in
set_option maxHeartbeats 16000000 in
theorem DuV.put (h : DuV w a s tk E w0) (hl : LW w lp mt) (hs : LensV lp a s w0.heap.size) (key v : Int) (hh : Nat) (hb : hh < 18446744073709551616) (more : Bool) (q : Option Addr) (hq : LensAt q lp) (x y z : Int) :
    Calls Tryz.prog 42 #[.pointer (some ⟨a 0, 0, none⟩), .agg #[.pointer q, .int .i64 x, .int .i64 y, .int .i64 z], .agg #[.int .u64 key, .int .u64 v, .int .u64 (hh : Int)], .bool more] w fun e w' =>
      e = .returned (.tuple #[.bool (s.putB key hh more), errN E (s.putN key hh more)]) ∧ DuV w' a (s.put key v hh more) tk E w0 ∧ LW w' lp (addN mt x y z (s.lkU key hh + s.lkT key hh)) ∧ Chg (fun b => lp = some b ∨ b = s.selB a key hh ∨ b = s.selQ a key hh) w w' := by
  have HOK := Lib.hid h.ok
  have HS := Lib.hid hs
  have HD := Lib.hid h
  have HL := Lib.hid hl
  have SK := Lib.hid (fun (w' : World) (h' : DuV w' a s tk E w0) (hl' : LW w' lp mt) => h'.seek hl' hs key hh hb q hq x y z)
  have EN0 := fun (fp : Option Addr) (fz : Int) (w' : World) (h' : DuV w' a s tk E w0) => TN.entry (h'.sel key hh) key hh fp fz
  simp only [sel_has, sel_ent] at EN0
  have EN := Lib.hid EN0
  have hge := h.ge
  have HZ := Lib.hid (show ∀ b, lp = some b → b < w.heap.size from fun b e => (hl b e).lt)
  have hNL : ∀ b, w.heap.size ≤ b → ¬ lp = some b := fun b hb e => by have := HZ.out b e; omega
  clear EN EN0
  cases hhas : s.has key hh with
  | true =>
    have RP := Lib.hid (fun (fp : Option Addr) (fz : Int) (w' : World) (h' : DuV w' a s tk E w0) => TN.replace (h'.sel key hh) key v hh hb fp fz ((sel_has s key hh).trans hhas))
    have e1 : s.putB key hh more = false := by unfold DuS.putB; rw [hhas]; rfl
    have e2 : s.putN key hh more = 0 := by unfold DuS.putN; rw [hhas]; rfl
    have SET := Lib.hid (fun (w1 w2 : World) (h' : DuV w1 a s tk E w0) => h'.setSel (w' := w2) (T' := (s.selT key hh).putT key v hh) key hh)
    rw [hhas] at SK
    rw [e1, e2, put_yes hhas, errN_0]
    unfold spotC at *
    generalize (s.selT key hh).atP (s.selQ a key hh) key hh = ap at *
    generalize (s.selT key hh).atZ key hh = az at *
    generalize (s.selT key hh).frZ key hh = fz at *
    generalize (s.selT key hh).freeG key hh = fg at *
    have NSL := Lib.hid (HS.out.sel HOK.out key hh)
    have HZS : Hid (s.selB a key hh < w.heap.size ∧ s.selQ a key hh < w.heap.size) := Lib.hid (by
      obtain ⟨⟨x, hx, e1⟩, ⟨y, hy, e2⟩⟩ := selB_used HOK.out a key hh
      rw [e1, e2]; exact ⟨HD.out.lt x hx, HD.out.lt y hy⟩)
    generalize s.selB a key hh = sB at *
    generalize s.selQ a key hh = sQ at *
    generalize s.lkU key hh + s.lkT key hh = lk at *
    clear h hl hs hhas e1 e2
    go_enter Tryz.func42, Tryz.ntmps42
    go_wp2_with (first
      | (go_at_call 91; (with_reducible refine (SK.out _ (HD.out.later (by go_grown)) (HL.out.later (by go_grown))).mono ?_); rintro e w1 ⟨fp, rfl, hfp, hd1, hl1, hc1⟩; have HFP := Lib.hid hfp; have R1 : Blk w1 (w.heap.size + 1) 46 #[.int .u64 key, .int .u64 v, .int .u64 (hh : Int)] := Blk.chg (Blk.new_at (by simp)) hc1 (hNL _ (by omega)); have D1 := Lib.hid (hd1.later ((Below.refl w1.heap.size w1).alloc (Nat.le_refl _) (.cells #[.pointer (some ⟨sB, 0, none⟩), .int .u64 key, .int .u64 (hh : Int), .pointer ap, .int .i64 az, .pointer fp, .int .i64 fz] 100))); have L1 := Lib.hid (hl1.later ((Below.refl w1.heap.size w1).alloc (Nat.le_refl _) (.cells #[.pointer (some ⟨sB, 0, none⟩), .int .u64 key, .int .u64 (hh : Int), .pointer ap, .int .i64 az, .pointer fp, .int .i64 fz] 100))); have C1 := Lib.hid (((((Chg.refl _ w).alloc _).alloc _).trans hc1).alloc (.cells #[.pointer (some ⟨sB, 0, none⟩), .int .u64 key, .int .u64 (hh : Int), .pointer ap, .int .i64 az, .pointer fp, .int .i64 fz] 100)); have zR1 := R1.lt; have q1 := cells3 R1; have q10 := q1.1; have q11 := q1.2.1; have q12 := q1.2.2; clear q1 hfp hd1 hl1 hc1)
      | (go_at_call 45; (with_reducible refine (RP.out _ _ _ D1.out).mono ?_); rintro e w2 ⟨rfl, ht2, hc2⟩; have T2 := Lib.hid (SET.out _ _ D1.out ht2 (putT_nn _ _ _ _) hc2); have C2 := Lib.hid hc2; clear ht2 hc2))
    go_ret2
    exact ⟨rfl, T2.out, L1.out.chg C2.out (fun b e => NSL.out b e), (C1.out.mono (fun _ _ e => .inl e)).trans (C2.out.mono (fun _ _ e => .inr e))⟩
  | false =>
    cases more with
    | false =>
      have e1 : s.putB key hh false = false := by unfold DuS.putB; rw [hhas]; rfl
      have e2 : s.putN key hh false = 2 := by unfold DuS.putN; rw [hhas]; rfl
      have EF := Lib.hid (fun (w' : World) (h' : DuV w' a s tk E w0) => (show w'.cell? ⟨1, 0, none⟩ = some (errAt E 2) from h'.low.e 2 (by decide)))
      have GZ := Lib.hid (fun (w' : World) (h' : DuV w' a s tk E w0) => World.block_lt_of_cell? _ _ (show w'.cell? ⟨1, 0, none⟩ = some (errAt E 2) from h'.low.e 2 (by decide)))
      rw [hhas] at SK
      rw [e1, e2, put_no hhas, errN_nz E 2 (by decide)]
      unfold errAt at *
      unfold spotC at *
      generalize (s.selT key hh).atP (s.selQ a key hh) key hh = ap at *
      generalize (s.selT key hh).atZ key hh = az at *
      generalize (s.selT key hh).frZ key hh = fz at *
      generalize (s.selT key hh).freeG key hh = fg at *
      have NSL := Lib.hid (HS.out.sel HOK.out key hh)
      have HZS : Hid (s.selB a key hh < w.heap.size ∧ s.selQ a key hh < w.heap.size) := Lib.hid (by
        obtain ⟨⟨x, hx, e1⟩, ⟨y, hy, e2⟩⟩ := selB_used HOK.out a key hh
        rw [e1, e2]; exact ⟨HD.out.lt x hx, HD.out.lt y hy⟩)
      generalize s.selB a key hh = sB at *
      generalize s.selQ a key hh = sQ at *
      generalize s.lkU key hh + s.lkT key hh = lk at *
      clear h hl hs hhas e1 e2
      go_enter Tryz.func42, Tryz.ntmps42
      go_wp2_with (go_at_call 91; (with_reducible refine (SK.out _ (HD.out.later (by go_grown)) (HL.out.later (by go_grown))).mono ?_); rintro e w1 ⟨fp, rfl, hfp, hd1, hl1, hc1⟩; have HFP := Lib.hid hfp; have R1 : Blk w1 (w.heap.size + 1) 46 #[.int .u64 key, .int .u64 v, .int .u64 (hh : Int)] := Blk.chg (Blk.new_at (by simp)) hc1 (hNL _ (by omega)); have D1 := Lib.hid (hd1.later ((Below.refl w1.heap.size w1).alloc (Nat.le_refl _) (.cells #[.pointer (some ⟨sB, 0, none⟩), .int .u64 key, .int .u64 (hh : Int), .pointer ap, .int .i64 az, .pointer fp, .int .i64 fz] 100))); have L1 := Lib.hid (hl1.later ((Below.refl w1.heap.size w1).alloc (Nat.le_refl _) (.cells #[.pointer (some ⟨sB, 0, none⟩), .int .u64 key, .int .u64 (hh : Int), .pointer ap, .int .i64 az, .pointer fp, .int .i64 fz] 100))); have C1 := Lib.hid (((((Chg.refl _ w).alloc _).alloc _).trans hc1).alloc (.cells #[.pointer (some ⟨sB, 0, none⟩), .int .u64 key, .int .u64 (hh : Int), .pointer ap, .int .i64 az, .pointer fp, .int .i64 fz] 100)); have zR1 := R1.lt; have q1 := cells3 R1; have q10 := q1.1; have q11 := q1.2.1; have q12 := q1.2.2; clear q1 hfp hd1 hl1 hc1)
      have g2 := EF.out _ D1.out
      have gz := GZ.out _ D1.out
      refine wp_region_seq (fun _ => False) #[⟨0, 0, 4294967296, 0, 1⟩, ⟨0, 0, 256, 0, 0⟩, ⟨3, 3, 512, 4294967296, 0⟩] 1 [(0, 1), (1, 0), (2, 0)] (by kernel_rfl) (by kernel_rfl) (by kernel_rfl) (by kernel_rfl) (by kernel_rfl) (by kernel_rfl) (fun c a d v w h => by cases d <;> exact h) ?_
      refine zq1 Tryz.underlying27 ?_
      try refine zqP ?_; refine zqC ?_; refine zqC ?_
      refine seq_nil ?_
      go_wp2
      go_ret2
      exact ⟨rfl, D1.out.later (Below.refl _ _).drew, L1.out.later (Below.refl _ _).drew, (C1.out.mono (fun _ _ e => .inl e)).drew⟩
    | true =>
      have PL := Lib.hid (fun (fp : Option Addr) (hfp : 0 ≤ (s.selT key hh).frZ key hh → fp = some ⟨s.selQ a key hh, (s.selT key hh).freeG key hh * 25, none⟩) (w' : World) (h' : DuV w' a s tk E w0) => TN.place (h'.sel key hh) key hh hb fp hfp v ((sel_has s key hh).trans hhas))
      have SET := Lib.hid (fun (w1 w2 : World) (h' : DuV w1 a s tk E w0) => h'.setSel (w' := w2) (T' := (s.selT key hh).putT key v hh) key hh)
      have hno := (sel_has s key hh).trans hhas
      have e1 : s.putB key hh true = (s.selT key hh).room key hh := by unfold DuS.putB; rw [hhas, ← sel_fst hhas]; unfold TabS.putB; rw [hno]; simp
      have e2 : s.putN key hh true = (s.selT key hh).putN key hh := by unfold DuS.putN; rw [hhas, ← sel_fst hhas]; rfl
      have e3 : (s.selT key hh).putN key hh = if (s.selT key hh).room key hh = true then 0 else 2 := by unfold TabS.putN; rw [hno]; simp
      rw [hhas] at SK
      rw [e1, e2, put_more hhas]
      rw [e3] at PL ⊢
      cases hr : (s.selT key hh).room key hh with
      | true =>
        rw [hr] at PL
        simp only [if_true, errN_0] at PL ⊢
        clear e1 e2 e3
        unfold spotC at *
        generalize (s.selT key hh).atP (s.selQ a key hh) key hh = ap at *
        generalize (s.selT key hh).atZ key hh = az at *
        generalize (s.selT key hh).frZ key hh = fz at *
        generalize (s.selT key hh).freeG key hh = fg at *
        have NSL := Lib.hid (HS.out.sel HOK.out key hh)
        have HZS : Hid (s.selB a key hh < w.heap.size ∧ s.selQ a key hh < w.heap.size) := Lib.hid (by
          obtain ⟨⟨x, hx, e1⟩, ⟨y, hy, e2⟩⟩ := selB_used HOK.out a key hh
          rw [e1, e2]; exact ⟨HD.out.lt x hx, HD.out.lt y hy⟩)
        generalize s.selB a key hh = sB at *
        generalize s.selQ a key hh = sQ at *
        generalize s.lkU key hh + s.lkT key hh = lk at *
        clear h hl hs hhas hno hr
        go_enter Tryz.func42, Tryz.ntmps42
        go_wp2_with (first
          | (go_at_call 91; (with_reducible refine (SK.out _ (HD.out.later (by go_grown)) (HL.out.later (by go_grown))).mono ?_); rintro e w1 ⟨fp, rfl, hfp, hd1, hl1, hc1⟩; have HFP := Lib.hid hfp; have R1 : Blk w1 (w.heap.size + 1) 46 #[.int .u64 key, .int .u64 v, .int .u64 (hh : Int)] := Blk.chg (Blk.new_at (by simp)) hc1 (hNL _ (by omega)); have D1 := Lib.hid (hd1.later ((Below.refl w1.heap.size w1).alloc (Nat.le_refl _) (.cells #[.pointer (some ⟨sB, 0, none⟩), .int .u64 key, .int .u64 (hh : Int), .pointer ap, .int .i64 az, .pointer fp, .int .i64 fz] 100))); have L1 := Lib.hid (hl1.later ((Below.refl w1.heap.size w1).alloc (Nat.le_refl _) (.cells #[.pointer (some ⟨sB, 0, none⟩), .int .u64 key, .int .u64 (hh : Int), .pointer ap, .int .i64 az, .pointer fp, .int .i64 fz] 100))); have C1 := Lib.hid (((((Chg.refl _ w).alloc _).alloc _).trans hc1).alloc (.cells #[.pointer (some ⟨sB, 0, none⟩), .int .u64 key, .int .u64 (hh : Int), .pointer ap, .int .i64 az, .pointer fp, .int .i64 fz] 100)); have zR1 := R1.lt; have q1 := cells3 R1; have q10 := q1.1; have q11 := q1.2.1; have q12 := q1.2.2; clear q1 hfp hd1 hl1 hc1)
          | (go_at_call 46; (with_reducible refine (PL.out _ HFP.out _ D1.out).mono ?_); rintro e w2 ⟨rfl, ht2, hc2⟩; have T2 := Lib.hid (SET.out _ _ D1.out ht2 (putT_nn _ _ _ _) hc2); have C2 := Lib.hid hc2; clear ht2 hc2))
        go_ret2
        exact ⟨rfl, T2.out, L1.out.chg C2.out (fun b e => NSL.out b e), (C1.out.mono (fun _ _ e => .inl e)).trans (C2.out.mono (fun _ _ e => .inr e))⟩
      | false =>
        rw [hr] at PL
        simp only [Bool.false_eq_true, if_false, errN_nz E 2 (by decide)] at PL ⊢
        unfold errAt at *
        clear e1 e2 e3
        unfold spotC at *
        generalize (s.selT key hh).atP (s.selQ a key hh) key hh = ap at *
        generalize (s.selT key hh).atZ key hh = az at *
        generalize (s.selT key hh).frZ key hh = fz at *
        generalize (s.selT key hh).freeG key hh = fg at *
        have NSL := Lib.hid (HS.out.sel HOK.out key hh)
        have HZS : Hid (s.selB a key hh < w.heap.size ∧ s.selQ a key hh < w.heap.size) := Lib.hid (by
          obtain ⟨⟨x, hx, e1⟩, ⟨y, hy, e2⟩⟩ := selB_used HOK.out a key hh
          rw [e1, e2]; exact ⟨HD.out.lt x hx, HD.out.lt y hy⟩)
        generalize s.selB a key hh = sB at *
        generalize s.selQ a key hh = sQ at *
        generalize s.lkU key hh + s.lkT key hh = lk at *
        clear h hl hs hhas hno hr
        go_enter Tryz.func42, Tryz.ntmps42
        go_wp2_with (first
          | (go_at_call 91; (with_reducible refine (SK.out _ (HD.out.later (by go_grown)) (HL.out.later (by go_grown))).mono ?_); rintro e w1 ⟨fp, rfl, hfp, hd1, hl1, hc1⟩; have HFP := Lib.hid hfp; have R1 : Blk w1 (w.heap.size + 1) 46 #[.int .u64 key, .int .u64 v, .int .u64 (hh : Int)] := Blk.chg (Blk.new_at (by simp)) hc1 (hNL _ (by omega)); have D1 := Lib.hid (hd1.later ((Below.refl w1.heap.size w1).alloc (Nat.le_refl _) (.cells #[.pointer (some ⟨sB, 0, none⟩), .int .u64 key, .int .u64 (hh : Int), .pointer ap, .int .i64 az, .pointer fp, .int .i64 fz] 100))); have L1 := Lib.hid (hl1.later ((Below.refl w1.heap.size w1).alloc (Nat.le_refl _) (.cells #[.pointer (some ⟨sB, 0, none⟩), .int .u64 key, .int .u64 (hh : Int), .pointer ap, .int .i64 az, .pointer fp, .int .i64 fz] 100))); have C1 := Lib.hid (((((Chg.refl _ w).alloc _).alloc _).trans hc1).alloc (.cells #[.pointer (some ⟨sB, 0, none⟩), .int .u64 key, .int .u64 (hh : Int), .pointer ap, .int .i64 az, .pointer fp, .int .i64 fz] 100)); have zR1 := R1.lt; have q1 := cells3 R1; have q10 := q1.1; have q11 := q1.2.1; have q12 := q1.2.2; clear q1 hfp hd1 hl1 hc1)
          | (go_at_call 46; (with_reducible refine (PL.out _ HFP.out _ D1.out).mono ?_); rintro e w2 ⟨rfl, ht2, hc2⟩; have T2 := Lib.hid (SET.out _ _ D1.out ht2 (putT_nn _ _ _ _) hc2); have C2 := Lib.hid hc2; clear ht2 hc2))
        go_ret2
        exact ⟨rfl, T2.out, L1.out.chg C2.out (fun b e => NSL.out b e), (C1.out.mono (fun _ _ e => .inl e)).trans (C2.out.mono (fun _ _ e => .inr e))⟩
set_option maxRecDepth 100000 in
set_option maxHeartbeats 16000000 in
theorem DuV.del (h : DuV w a s tk E w0) (hl : LW w lp mt) (hs : LensV lp a s w0.heap.size) (key : Int) (hh : Nat) (hb : hh < 18446744073709551616) (q : Option Addr) (hq : LensAt q lp) (x y z : Int) :
    Calls Tryz.prog 40 #[.pointer (some ⟨a 0, 0, none⟩), .agg #[.pointer q, .int .i64 x, .int .i64 y, .int .i64 z], .int .u64 key, .int .u64 (hh : Int)] w fun e w' =>
      e = .returned (.tuple #[.agg #[.int .u64 (s.ent key hh).key, .int .u64 (s.ent key hh).val, .int .u64 (s.ent key hh).hash], .bool (s.has key hh)]) ∧ DuV w' a (s.del key hh) tk E w0 ∧ LW w' lp (addN mt x y z (s.lkU key hh + s.lkT key hh)) ∧ Chg (fun b => lp = some b ∨ b = s.selB a key hh ∨ b = s.selQ a key hh) w w' := by
  have HOK := Lib.hid h.ok
  have HS := Lib.hid hs
  have HD := Lib.hid h
  have HL := Lib.hid hl
  have SK := Lib.hid (fun (w' : World) (h' : DuV w' a s tk E w0) (hl' : LW w' lp mt) => h'.seek hl' hs key hh hb q hq x y z)
  have EN0 := fun (fp : Option Addr) (fz : Int) (w' : World) (h' : DuV w' a s tk E w0) => TN.entry (h'.sel key hh) key hh fp fz
  simp only [sel_has, sel_ent] at EN0
  have EN := Lib.hid EN0
  have hge := h.ge
  have HZ := Lib.hid (show ∀ b, lp = some b → b < w.heap.size from fun b e => (hl b e).lt)
  have hNL : ∀ b, w.heap.size ≤ b → ¬ lp = some b := fun b hb e => by have := HZ.out b e; omega
  unfold EntS.val3 at EN
  generalize (s.ent key hh).key = k0 at *
  generalize (s.ent key hh).val = k1 at *
  generalize (s.ent key hh).hash = k2 at *
  cases hhas : s.has key hh with
  | true =>
    have RM := Lib.hid (fun (fp : Option Addr) (fz : Int) (w' : World) (h' : DuV w' a s tk E w0) => TN.remove (h'.sel key hh) key hh fp fz ((sel_has s key hh).trans hhas))
    have SET := Lib.hid (fun (w1 w2 : World) (h' : DuV w1 a s tk E w0) => h'.setSel (w' := w2) (T' := (s.selT key hh).delT key hh) key hh)
    have HDK : Hid (DuOK (s.setSel key hh ((s.selT key hh).delT key hh)) ∧ ∀ x, Used (s.setSel key hh ((s.selT key hh).delT key hh)).k (decide ((s.setSel key hh ((s.selT key hh).delT key hh)).bare = 0)) x → a x < w.heap.size) := Lib.hid (by
      rw [(setSel_k s key hh _).1, (setSel_k s key hh _).2]
      exact ⟨by rw [← del_yes hhas]; exact HOK.out.del key hh, h.lt⟩)
    rw [hhas] at SK EN
    rw [del_yes hhas]
    unfold spotC at *
    generalize (s.selT key hh).atP (s.selQ a key hh) key hh = ap at *
    generalize (s.selT key hh).atZ key hh = az at *
    generalize (s.selT key hh).frZ key hh = fz at *
    generalize (s.selT key hh).freeG key hh = fg at *
    have NSL := Lib.hid (HS.out.sel HOK.out key hh)
    have HZS : Hid (s.selB a key hh < w.heap.size ∧ s.selQ a key hh < w.heap.size) := Lib.hid (by
      obtain ⟨⟨x, hx, e1⟩, ⟨y, hy, e2⟩⟩ := selB_used HOK.out a key hh
      rw [e1, e2]; exact ⟨HD.out.lt x hx, HD.out.lt y hy⟩)
    generalize s.selB a key hh = sB at *
    generalize s.selQ a key hh = sQ at *
    generalize s.lkU key hh + s.lkT key hh = lk at *
    clear h hl hs hhas EN0
    go_enter Tryz.func40, Tryz.ntmps40
    go_upto_region 3 with (first
      | (go_at_call 91; (with_reducible refine (SK.out _ (HD.out.later (by go_grown)) (HL.out.later (by go_grown))).mono ?_); rintro e w1 ⟨fp, rfl, hfp, hd1, hl1, hc1⟩; have R1 : Blk w1 (w.heap.size + 1) 46 #[.int .u64 0, .int .u64 0, .int .u64 0] := Blk.chg (Blk.new_at (by simp)) hc1 (hNL _ (by omega)); have SA := Lib.hid ((Below.refl w1.heap.size w1).alloc (Nat.le_refl _) (.cells #[.pointer (some ⟨sB, 0, none⟩), .int .u64 key, .int .u64 (hh : Int), .pointer ap, .int .i64 az, .pointer fp, .int .i64 fz] 100)); have D1 := Lib.hid (hd1.later SA.out); have L1 := Lib.hid (hl1.later SA.out); have C1 := Lib.hid (((((Chg.refl _ w).alloc _).alloc _).trans hc1).thenBelow SA.out); have P1 := Lib.hid (Blk.new w1 100 #[.pointer (some ⟨sB, 0, none⟩), .int .u64 key, .int .u64 (hh : Int), .pointer ap, .int .i64 az, .pointer fp, .int .i64 fz]); have zR1 := R1.lt; clear hfp hd1 hl1 hc1)
      | (go_at_call 44; (with_reducible refine (EN.out _ _ _ D1.out).mono ?_); rintro e w2 ⟨rfl, hb2⟩; have SB := Lib.hid (hb2.trans ((Below.refl w2.heap.size w2).alloc (Nat.le_refl _) (.cells #[.int .u64 k0, .int .u64 k1, .int .u64 k2] 46) |>.mono hb2.size)); have D2 := Lib.hid (D1.out.later SB.out); have L2 := Lib.hid (L1.out.later SB.out); have C2 := Lib.hid (C1.out.thenBelow SB.out); have P2 := Lib.hid (P1.out.below SB.out P1.out.lt); have R2 := Lib.hid ((R1.below SA.out R1.lt).below SB.out (R1.below SA.out R1.lt).lt); have K2 := Lib.hid (Blk.new w2 46 #[.int .u64 k0, .int .u64 k1, .int .u64 k2]); have zb2 : w1.heap.size + 1 ≤ w2.heap.size := (by have := hb2.size; simpa using this); clear hb2))
    refine wp_at (fun w3 hw3 => ?_)
    rw [← hw3] at D2 L2 C2 P2 R2 K2
    have HK2 := Lib.hid K2.out
    obtain ⟨n2, hn2⟩ : ∃ n2, n2 = w2.heap.size := ⟨_, rfl⟩
    obtain ⟨n1, hn1⟩ : ∃ n1, n1 = w1.heap.size := ⟨_, rfl⟩
    rw [← hn2] at K2
    rw [← hn1] at P2
    have ww : w.heap.size + 1 < n1 := by rw [hn1]; exact zR1
    try rw [← hn2]
    try rw [← hn1]
    replace hw3 := Lib.hid hw3
    replace hn1 := Lib.hid hn1
    replace hn2 := Lib.hid hn2
    have p2 := cells7 P2.out
    have p20 := p2.1
    have p21 := p2.2.1
    have p22 := p2.2.2.1
    have p23 := p2.2.2.2.1
    have p24 := p2.2.2.2.2.1
    have p25 := p2.2.2.2.2.2.1
    have p26 := p2.2.2.2.2.2.2
    have zP2 := P2.out.lt
    have k2' := cells3 K2.out
    have k20 := k2'.1
    have k21 := k2'.2.1
    have k22 := k2'.2.2
    have zK2 := K2.out.lt
    have r2' := cells3 R2.out
    have r20 := r2'.1
    have r21 := r2'.2.1
    have r22 := r2'.2.2
    have zR2 := R2.out.lt
    have rf2 := fun j => R2.out.frozen j
    clear p2 k2' r2' HK2
    have hX0 : ¬ (w.heap.size + 1 = sB ∨ w.heap.size + 1 = sQ) := by have := HZS.out; omega
    have hX1 : ¬ (n1 = sB ∨ n1 = sQ) := by have := HZS.out; omega
    have hX2 : ¬ (n2 = sB ∨ n2 = sQ) := by have := HZS.out; have := hn1.out; have := hn2.out; omega
    refine wp_region_seq (fun b => b = sB ∨ b = sQ) #[⟨0, 0, 134217728, 4096, 1⟩, ⟨0, 0, 268435456, 2048, 0⟩, ⟨2, 2, 536870912, 268435456, 0⟩, ⟨4, 6, 1073741824, 536871936, 1⟩, ⟨12, 14, 2147483648, 1610612736, 2⟩, ⟨20, 30, 4294967296, 2684354560, 0⟩, ⟨36, 62, 8589934592, 4831838208, 0⟩, ⟨17, 31, 0, 134217984, 3⟩, ⟨255, 255, 512, 8589934592, 0⟩] 9 [(0, 1), (1, 0), (2, 0), (3, 1), (4, 2), (5, 0), (6, 0), (7, 3), (8, 0)] (by kernel_rfl) (by kernel_rfl) (by kernel_rfl) (by kernel_rfl) (by kernel_rfl) (by kernel_rfl) (fun c a d v w h => by cases d <;> exact h) ?_
    refine zqL [_, _, _] Tryz.underlying46 ?_
    try refine zqP ?_; refine zqC ?_; refine zqC ?_
    first
      | (refine zqK ?_)
      | (refine zqL [_, _, _, _, _, _, _] Tryz.underlying100 ?_)
    try refine zqP ?_
    first
      | (refine zqK ?_)
      | (refine zqD fun K hK => ?_; go_wp2_with ((go_at_call 92; (with_reducible refine (RM.out _ _ _ (D2.out.later (Below.refl _ _).drew)).mono ?_); rintro e w4 ⟨rfl, ht4, hc4⟩; have T4 := Lib.hid (SET.out _ _ (D2.out.later (Below.refl _ _).drew) ht4 (delT_nn _ _ _) hc4); have C4 := Lib.hid hc4.undrew; have R3 := Lib.hid (R2.out.drew.chg hc4 hX0); have r3' := cells3 R3.out; have r30 := r3'.1; have r31 := r3'.2.1; have r32 := r3'.2.2; have zR3 := R3.out.lt; have rf3 := fun j => R3.out.frozen j; clear r3')); refine hkA hK (h := ?_); clear hK K)
    try refine zqP ?_
    first
      | (refine zqK ?_)
      | (refine zqA ?_)
    try refine zqP ?_; refine zqC ?_
    refine zqE fun K hK => ?_; go_wp2_with (fail); refine hK.out _ _ ?_; clear hK K
    try refine zqP ?_; refine zqC ?_
    refine seq_nil ?_
    go_wp2
    refine wp_end_at (fun Wf hWf => ?_)
    have hR : Blk Wf (w.heap.size + 1) 46 #[.int .u64 k0, .int .u64 k1, .int .u64 k2] := by rw [hWf]; exact (((R3.out.set 0 _).set 1 _).set 2 _)
    obtain ⟨r0, r1, r2⟩ := cells3 hR
    have hCf : Chg (fun b => b = w.heap.size + 1) w4 Wf := by rw [hWf]; exact (((Chg.refl _ _).set1 _ _).set1 _ _).set1 _ _
    refine bodyPost_ret (v := .tuple #[.agg #[.int .u64 k0, .int .u64 k1, .int .u64 k2], .bool true]) (by simp [results, Tryz.results40, go_sem, r0, r1, r2]) rfl ⟨rfl, ?_, ?_, ?_⟩
    · exact T4.out.chg hCf (fun b e => by omega) (fun x hx e => by have := HDK.out.2 x hx; omega)
    · exact (L2.out.chg C4.out (fun b e => NSL.out b e)).chg hCf (fun b e e2 => hNL b (by omega) e)
    · exact ((C2.out.mono (fun _ _ e => .inl e)).trans (C4.out.mono (fun _ _ e => .inr e))).trans' hCf (fun b hb e => by omega)
  | false =>
    rw [hhas] at SK EN
    rw [del_no hhas]
    unfold spotC at *
    generalize (s.selT key hh).atP (s.selQ a key hh) key hh = ap at *
    generalize (s.selT key hh).atZ key hh = az at *
    generalize (s.selT key hh).frZ key hh = fz at *
    generalize (s.selT key hh).freeG key hh = fg at *
    have NSL := Lib.hid (HS.out.sel HOK.out key hh)
    have HZS : Hid (s.selB a key hh < w.heap.size ∧ s.selQ a key hh < w.heap.size) := Lib.hid (by
      obtain ⟨⟨x, hx, e1⟩, ⟨y, hy, e2⟩⟩ := selB_used HOK.out a key hh
      rw [e1, e2]; exact ⟨HD.out.lt x hx, HD.out.lt y hy⟩)
    generalize s.selB a key hh = sB at *
    generalize s.selQ a key hh = sQ at *
    generalize s.lkU key hh + s.lkT key hh = lk at *
    clear h hl hs hhas EN0
    go_enter Tryz.func40, Tryz.ntmps40
    go_upto_region 3 with (first
      | (go_at_call 91; (with_reducible refine (SK.out _ (HD.out.later (by go_grown)) (HL.out.later (by go_grown))).mono ?_); rintro e w1 ⟨fp, rfl, hfp, hd1, hl1, hc1⟩; have R1 : Blk w1 (w.heap.size + 1) 46 #[.int .u64 0, .int .u64 0, .int .u64 0] := Blk.chg (Blk.new_at (by simp)) hc1 (hNL _ (by omega)); have SA := Lib.hid ((Below.refl w1.heap.size w1).alloc (Nat.le_refl _) (.cells #[.pointer (some ⟨sB, 0, none⟩), .int .u64 key, .int .u64 (hh : Int), .pointer ap, .int .i64 az, .pointer fp, .int .i64 fz] 100)); have D1 := Lib.hid (hd1.later SA.out); have L1 := Lib.hid (hl1.later SA.out); have C1 := Lib.hid (((((Chg.refl _ w).alloc _).alloc _).trans hc1).thenBelow SA.out); have P1 := Lib.hid (Blk.new w1 100 #[.pointer (some ⟨sB, 0, none⟩), .int .u64 key, .int .u64 (hh : Int), .pointer ap, .int .i64 az, .pointer fp, .int .i64 fz]); have zR1 := R1.lt; clear hfp hd1 hl1 hc1)
      | (go_at_call 44; (with_reducible refine (EN.out _ _ _ D1.out).mono ?_); rintro e w2 ⟨rfl, hb2⟩; have SB := Lib.hid (hb2.trans ((Below.refl w2.heap.size w2).alloc (Nat.le_refl _) (.cells #[.int .u64 k0, .int .u64 k1, .int .u64 k2] 46) |>.mono hb2.size)); have D2 := Lib.hid (D1.out.later SB.out); have L2 := Lib.hid (L1.out.later SB.out); have C2 := Lib.hid (C1.out.thenBelow SB.out); have P2 := Lib.hid (P1.out.below SB.out P1.out.lt); have R2 := Lib.hid ((R1.below SA.out R1.lt).below SB.out (R1.below SA.out R1.lt).lt); have K2 := Lib.hid (Blk.new w2 46 #[.int .u64 k0, .int .u64 k1, .int .u64 k2]); have zb2 : w1.heap.size + 1 ≤ w2.heap.size := (by have := hb2.size; simpa using this); clear hb2))
    refine wp_at (fun w3 hw3 => ?_)
    rw [← hw3] at D2 L2 C2 P2 R2 K2
    have HK2 := Lib.hid K2.out
    obtain ⟨n2, hn2⟩ : ∃ n2, n2 = w2.heap.size := ⟨_, rfl⟩
    obtain ⟨n1, hn1⟩ : ∃ n1, n1 = w1.heap.size := ⟨_, rfl⟩
    rw [← hn2] at K2
    rw [← hn1] at P2
    have ww : w.heap.size + 1 < n1 := by rw [hn1]; exact zR1
    try rw [← hn2]
    try rw [← hn1]
    replace hw3 := Lib.hid hw3
    replace hn1 := Lib.hid hn1
    replace hn2 := Lib.hid hn2
    have p2 := cells7 P2.out
    have p20 := p2.1
    have p21 := p2.2.1
    have p22 := p2.2.2.1
    have p23 := p2.2.2.2.1
    have p24 := p2.2.2.2.2.1
    have p25 := p2.2.2.2.2.2.1
    have p26 := p2.2.2.2.2.2.2
    have zP2 := P2.out.lt
    have k2' := cells3 K2.out
    have k20 := k2'.1
    have k21 := k2'.2.1
    have k22 := k2'.2.2
    have zK2 := K2.out.lt
    have r2' := cells3 R2.out
    have r20 := r2'.1
    have r21 := r2'.2.1
    have r22 := r2'.2.2
    have zR2 := R2.out.lt
    have rf2 := fun j => R2.out.frozen j
    clear p2 k2' r2' HK2
    refine wp_region_seq (fun _ => False) #[⟨0, 0, 134217728, 4096, 1⟩, ⟨0, 0, 268435456, 2048, 0⟩, ⟨2, 2, 536870912, 268435456, 0⟩, ⟨4, 6, 1073741824, 536871936, 1⟩, ⟨12, 14, 2147483648, 1610612736, 2⟩, ⟨20, 30, 4294967296, 2684354560, 0⟩, ⟨36, 62, 8589934592, 4831838208, 0⟩, ⟨17, 31, 0, 134217984, 3⟩, ⟨255, 255, 512, 8589934592, 0⟩] 9 [(0, 1), (1, 0), (2, 0), (3, 1), (4, 2), (5, 0), (6, 0), (7, 3), (8, 0)] (by kernel_rfl) (by kernel_rfl) (by kernel_rfl) (by kernel_rfl) (by kernel_rfl) (by kernel_rfl) (fun c a d v w h => by cases d <;> exact h) ?_
    refine zqL [_, _, _] Tryz.underlying46 ?_
    try refine zqP ?_; refine zqC ?_; refine zqC ?_
    first
      | (refine zqK ?_)
      | (refine zqL [_, _, _, _, _, _, _] Tryz.underlying100 ?_)
    try refine zqP ?_
    first
      | (refine zqK ?_)
      | (refine zqD fun K hK => ?_; go_wp2_with (fail); refine hkA hK (h := ?_); clear hK K)
    try refine zqP ?_
    first
      | (refine zqK ?_)
      | (refine zqA ?_)
    try refine zqP ?_; refine zqC ?_
    refine zqE fun K hK => ?_; go_wp2_with (fail); refine hK.out _ _ ?_; clear hK K
    try refine zqP ?_; refine zqC ?_
    refine seq_nil ?_
    go_wp2
    refine wp_end_at (fun Wf hWf => ?_)
    have hR : Blk Wf (w.heap.size + 1) 46 #[.int .u64 k0, .int .u64 k1, .int .u64 k2] := by rw [hWf]; exact (((R2.out.set 0 _).set 1 _).set 2 _)
    obtain ⟨r0, r1, r2⟩ := cells3 hR
    have hCf : Chg (fun b => b = w.heap.size + 1) w3 Wf := by rw [hWf]; exact (((Chg.refl _ _).drew.set1 _ _).set1 _ _).set1 _ _
    refine bodyPost_ret (v := .tuple #[.agg #[.int .u64 k0, .int .u64 k1, .int .u64 k2], .bool false]) (by simp [results, Tryz.results40, go_sem, r0, r1, r2]) rfl ⟨rfl, ?_, ?_, ?_⟩
    · exact D2.out.chg hCf (fun b e => by omega) (fun x hx e => by have := HD.out.lt x hx; omega)
    · exact L2.out.chg hCf (fun b e e2 => hNL b (by omega) e)
    · exact (C2.out.mono (fun _ _ e => .inl e)).trans' hCf (fun b hb e => by omega)
end
end Go.Proofs.YtolhmibejhldkaaGreatDoor

namespace Go.Proofs.YtolhmibejhldkaaGreatDoor
open Go.RowKit Go.Proofs
attribute [local go_sem] neq_nilG eql_nilG
theorem sum_pr {s : DuS} (h : DuOK s) : sumN (fun i => s.gn - s.pr i) s.k = s.bare := by
  have hb := h.hb
  unfold DuS.pr
  rcases h.hk with e | ⟨e, -⟩
  · rw [e] at hb ⊢
    show 0 + (s.gn - min s.gn (1 * s.gn - s.bare - 0 * s.gn)) = s.bare
    omega
  · rw [e] at hb ⊢
    show 0 + (s.gn - min s.gn (2 * s.gn - s.bare - 0 * s.gn)) + (s.gn - min s.gn (2 * s.gn - s.bare - 1 * s.gn)) = s.bare
    omega
section
variable {w w' w0 : World} {a : Nat → Nat} {s : DuS} {tk : Bool} {E : Nat → Addr} {bcap fcap cap5 : Nat}
set_option maxRecDepth 100000 in
set_option maxHeartbeats 8000000 in
theorem DuA.left (h : DuA w a s bcap tk E w0) (hok : DuOK s) : Calls Tryz.prog 55 #[.pointer (some ⟨a 0, 0, none⟩)] w fun e w' => e = .returned (.int .i64 ((s.left : Nat) : Int)) ∧ Below w.heap.size w w' := by
  have hnx := (hok.pre h.hb).1
  have hn := hok.t.bounds
  have hgb := right_bd hok.hr
  have hk2 : s.k ≤ 2 := by rcases hok.hk with e | e <;> omega
  have hlf : s.left = s.T.n + sumN (fun i => s.gn - s.pr i) s.k := by unfold DuS.left; rw [sum_pr hok, hnx]; omega
  have HS := Lib.hid (show ∀ j, sumN (fun i => s.gn - s.pr i) j ≤ 64 * j from fun j => sumN_le fun i _ => by omega)
  have HD := Lib.hid h
  have RD := Lib.hid (fun (w' : World) (h' : DuA w' a s bcap tk E w0) => h'.ready)
  have GR := Lib.hid (fun (w' : World) (h' : DuA w' a s bcap tk E w0) => TMW.groups h'.t)
  have BL := Lib.hid (fun (i : Nat) (hi : i < s.k) (w' : World) (h' : DuA w' a s bcap tk E w0) => bleft_any _ _ _ _ _ _ w' (h'.bw i hi))
  obtain ⟨c0, c1, c2, c3, c4, c5, zc⟩ := h.cells
  rw [hlf]
  clear h hlf
  generalize s.T.n = n at *
  go_enter Tryz.func55, Tryz.ntmps55
  go_wp2_with (first
    | (go_at_call 106; (with_reducible refine (RD.out _ HD.out).mono ?_); rintro e w1 ⟨rfl, rfl⟩)
    | (go_at_call 49; (with_reducible refine (GR.out _ HD.out).mono ?_); rintro e w1 ⟨rfl, rfl⟩))
  go_loopw [23, 3] (fun v23 v3 wr => ∃ j : Nat, j ≤ s.k ∧ v23 = .int .i64 (j : Int) ∧ v3 = .int .i64 (((n + sumN (fun i => s.gn - s.pr i) j : Nat)) : Int) ∧ Below w.heap.size w wr) (fun v23 _ _ => s.k - (intOf v23).toNat)
  case atStart => exact ⟨0, Nat.zero_le _, rfl, rfl, Below.refl _ _⟩
  case round =>
    clear c0 c1 c2 c3 c4 c5
    obtain ⟨j, hj, rfl, rfl, hB⟩ := hrel
    have KD := Lib.hid (HD.out.later hB)
    have hz := hB.size
    have hS := HS.out j
    by_cases hlt : j < s.k
    · have hltI : (j : Int) < (s.k : Int) := by omega
      have l0 := KD.out.bl j hlt
      have zb := KD.out.bz
      have BJ := Lib.hid (BL.out j hlt)
      have hst : sumN (fun i => s.gn - s.pr i) (j + 1) = sumN (fun i => s.gn - s.pr i) j + (s.gn - s.pr j) := rfl
      have HST := Lib.hid hst
      clear hst
      have hpj : s.gn - s.pr j ≤ 64 := by omega
      generalize s.gn - s.pr j = pj at *
      generalize sumN (fun i => s.gn - s.pr i) j = sj at *
      have e1 : IntKind.i64.wrap (((n + sj : Nat) : Int) + ((pj : Nat) : Int)) = ((n + (sj + pj) : Nat) : Int) := by rw [IntKind.wrap_i64]; omega
      go_wp2_with (go_at_call 109; (with_reducible refine (BJ.out _ KD.out).mono ?_); rintro e w1 ⟨rfl, hb1⟩; have B1 := Lib.hid (hB.trans (hb1.mono hz)))
      go_roundw
      case rel => exact ⟨j + 1, by omega, by go_num, by rw [HST.out]; exact congrArg (Value.int .i64) (by omega), B1.out⟩
      case measure => simp [intOf]; omega
    · obtain rfl : j = s.k := by omega
      go_wp2
      go_ret
      exact ⟨rfl, hB⟩
set_option maxRecDepth 100000 in
theorem DuB.left (h : DuB w a s bcap fcap cap5 tk E w0) (hok : DuOK s) : Calls Tryz.prog 55 #[.pointer (some ⟨a 0, 0, none⟩)] w fun e w' => e = .returned (.int .i64 ((s.left : Nat) : Int)) ∧ Below w.heap.size w w' := by
  have hn := hok.t.bounds
  have hx := hok.hx
  have hlf : s.left = s.T.n - s.nx := by unfold DuS.left; rw [h.hb]; omega
  have HD := Lib.hid h
  have RD := Lib.hid (fun (w' : World) (h' : DuB w' a s bcap fcap cap5 tk E w0) => h'.ready)
  have EL := Lib.hid (fun (w' : World) (h' : DuB w' a s bcap fcap cap5 tk E w0) => eleft_any (a 5) (a 1) (a 2) (a 6) cap5 s.k _ s.d s.nx s.T.n hn.1 hx _ _ w' h'.e h'.t.t.head)
  obtain ⟨c0, c1, c2, c3, c4, c5, zc⟩ := h.cells
  rw [hlf]
  clear h hlf
  go_enter Tryz.func55, Tryz.ntmps55
  go_wp2_with (first
    | (go_at_call 106; (with_reducible refine (RD.out _ HD.out).mono ?_); rintro e w1 ⟨rfl, rfl⟩)
    | (go_at_call 111; (with_reducible refine (EL.out _ HD.out).mono ?_); rintro e w1 ⟨rfl, hb1⟩))
  go_ret
  exact ⟨rfl, hb1⟩
theorem DuV.left (h : DuV w a s tk E w0) : Calls Tryz.prog 55 #[.pointer (some ⟨a 0, 0, none⟩)] w fun e w' => e = .returned (.int .i64 ((s.left : Nat) : Int)) ∧ Below w.heap.size w w' := by
  rcases h.m with ⟨b, hA⟩ | ⟨b, f, c, hB⟩
  · exact hA.left h.ok
  · exact hB.left h.ok
theorem DuV.ready (h : DuV w a s tk E w0) : Calls Tryz.prog 106 #[.pointer (some ⟨a 0, 0, none⟩)] w fun e w' => e = .returned (.bool (decide (s.bare = 0))) ∧ w = w' := by
  rcases h.m with ⟨b, hA⟩ | ⟨b, f, c, hB⟩
  · rw [decide_eq_false (by have := hA.hb; omega)]; exact hA.ready
  · rw [decide_eq_true hB.hb]; exact hB.ready
structure DuC (w : World) (a : Nat → Nat) (s : DuS) (bcap : Nat) (E : Nat → Addr) (w0 : World) : Prop where
  c0 : w.cell? ⟨a 0, 0, none⟩ = some (.pointer (some ⟨a 1, 0, none⟩))
  c2 : w.cell? ⟨a 0, 2, none⟩ = some (.slice (some ⟨a 3, 0, none⟩) s.k bcap)
  z : a 0 < w.heap.size
  bl : ∀ i, i < s.k → w.cell? ⟨a 3, i, none⟩ = some (.pointer (some ⟨a (7 + 3 * i), 0, none⟩))
  bz : a 3 < w.heap.size
  bw : ∀ i, i < s.k → ∃ k tk, BW w (a (7 + 3 * i)) (a (8 + 3 * i)) (a (9 + 3 * i)) s.gn k tk
  t : TN w (a 1) (a 2) s.T E w0
theorem DuV.c (h : DuV w a s tk E w0) : ∃ bcap, DuC w a s bcap E w0 := by
  rcases h.m with ⟨b, hA⟩ | ⟨b, f, c, hB⟩
  · exact ⟨b, hA.hd.cell 0, hA.hd.cell 2, hA.hd.lt, hA.bl, hA.bz, fun i hi => ⟨_, _, hA.bw i hi⟩, hA.t⟩
  · exact ⟨b, hB.hd.cell 0, hB.hd.cell 2, hB.hd.lt, hB.bl, hB.bz, fun i hi => ⟨s.gn, true, hB.bb i hi, (fun e => by cases e), Nat.le_refl _, h.ok.hr, hB.n.ne (.of hi (by omega) (by omega)) (.of hi (by omega) (by omega)) (by omega), hB.n.ne (.of hi (by omega) (by omega)) (.of hi (by omega) (by omega)) (by omega)⟩, hB.t⟩
set_option maxRecDepth 100000 in
set_option maxHeartbeats 8000000 in
theorem DuV.groups (h : DuV w a s tk E w0) : Calls Tryz.prog 85 #[.pointer (some ⟨a 0, 0, none⟩)] w fun e w' => e = .returned (.int .i64 ((s.T.n + s.k * s.gn : Nat) : Int)) ∧ w = w' := by
  obtain ⟨bcap, hc⟩ := h.c
  have hn := h.ok.t.bounds
  have hgb := right_bd h.ok.hr
  have hk2 : s.k ≤ 2 := by rcases h.ok.hk with e | e <;> omega
  have HC := Lib.hid hc
  have GR := Lib.hid (TMW.groups hc.t)
  have BL := Lib.hid (fun (i : Nat) (hi : i < s.k) => by obtain ⟨k, tk, hb⟩ := hc.bw i hi; exact bgroups_any _ _ _ _ k tk w hb)
  have c0 := hc.c0
  have c2 := hc.c2
  have zc := hc.z
  clear h hc
  generalize s.T.n = n at *
  go_enter Tryz.func85, Tryz.ntmps85
  go_wp2_with (go_at_call 49; (with_reducible refine GR.out.mono ?_); rintro e w1 ⟨rfl, rfl⟩)
  go_loop [16, 3] (fun v16 v3 => ∃ j : Nat, j ≤ s.k ∧ v16 = .int .i64 (j : Int) ∧ v3 = .int .i64 ((n + j * s.gn : Nat) : Int)) (fun v16 _ => s.k - (intOf v16).toNat)
  case atStart => exact ⟨0, Nat.zero_le _, rfl, by simp⟩
  case round =>
    obtain ⟨j, hj, rfl, rfl⟩ := hrel
    by_cases hlt : j < s.k
    · have hltI : (j : Int) < (s.k : Int) := by omega
      have l0 := HC.out.bl j hlt
      have zb := HC.out.bz
      have BJ := Lib.hid (BL.out j hlt)
      have hjg : j * s.gn ≤ 2 * 64 := Nat.mul_le_mul (by omega) hgb.2
      have hst : n + (j + 1) * s.gn = n + j * s.gn + s.gn := by rw [Nat.add_mul]; omega
      have HST := Lib.hid hst
      clear hst
      generalize j * s.gn = jg at *
      have e1 : IntKind.i64.wrap (((n + jg : Nat) : Int) + (s.gn : Int)) = ((n + jg + s.gn : Nat) : Int) := by rw [IntKind.wrap_i64]; omega
      go_wp2_with (go_at_call 134; (with_reducible refine BJ.out.mono ?_); rintro e w1 ⟨rfl, rfl⟩)
      go_round
      case rel => exact ⟨j + 1, by omega, by go_num, by rw [HST.out]; exact congrArg (Value.int .i64) (by omega)⟩
      case measure => simp [intOf]; omega
    · obtain rfl : j = s.k := by omega
      go_wp2
      go_ret
      exact ⟨rfl, rfl⟩
def tabB (s : DuS) (a : Nat → Nat) (i : Nat) : Nat := if s.bare = 0 ∧ i < s.k then a (8 + 3 * i) else a 1
def tabQ (s : DuS) (a : Nat → Nat) (i : Nat) : Nat := if s.bare = 0 ∧ i < s.k then a (9 + 3 * i) else a 2
def tabT (s : DuS) (i : Nat) : TabS := if s.bare = 0 ∧ i < s.k then s.U i else s.T
def tabN (s : DuS) : Nat := if s.bare = 0 then s.k + 1 else 1
theorem DuV.tab (h : DuV w a s tk E w0) (i : Nat) : TN w (tabB s a i) (tabQ s a i) (tabT s i) E w0 := by
  unfold tabB tabQ tabT
  rcases h.m with ⟨b, hA⟩ | ⟨b, f, c, hB⟩
  · have : ¬ (s.bare = 0 ∧ i < s.k) := fun e => by have := hA.hb; omega
    rw [if_neg this, if_neg this, if_neg this]; exact hA.t
  · by_cases e : s.bare = 0 ∧ i < s.k
    · rw [if_pos e, if_pos e, if_pos e]; exact hB.u i e.2
    · rw [if_neg e, if_neg e, if_neg e]; exact hB.t
theorem wp_append_none {P : Program} {w : World} {o : Oper} {a : Act} {K : Act → World → Prop} {Q : Exit → Act → World → Prop} (s x : Operand) (t : TypeId)
    (ho : o.op = .call { callee := .builtin .append, args := #[s, x], argTypes := #[t, t] })
    (base : Nat) (e : TypeId) (i : TypeInfo) (size : Nat) (ht : P.underlying t = some (.slice e)) (hi : P.info? e = some i)
    (v : Value) (n : Nat) (xs : List Value) (hs : a.eval s = v) (hown : w.ownsRow base e size v n xs) (hx : a.eval x = .slice none 0 0)
    (h : K (a.put o.dst v) w) : o.wp P a w K Q := by
  have hrun := run_append_owned_none (P := P) (w := w) base t o.type e i size ht hi v n xs hown
  unfold Oper.wp
  simp [execOp, ho, resolve, invoke, builtin, hs, hx, hrun, Result.andThen]
  exact h
theorem cell1_at {w : World} {g : Nat} {T : TypeId} {x : Value} (h : Blk w g T #[x]) : ∀ j u, [x][j]? = some u → w.cell? ((⟨g, 0, none⟩ : Addr).add j) = some u := by
  intro j u hj
  match j, hj with
  | 0, hj => simp only [List.getElem?_cons_zero, Option.some.injEq] at hj; subst hj; rw [add_at]; exact h.cell 0
  | j + 1, hj => simp at hj
theorem empty_row {w : World} {base g : Nat} {e : TypeId} (h : Blk w g e #[]) (hb : base ≤ g) : w.ownsRow base e 1 (.slice (some ⟨g, 0, none⟩) 0 0) 0 [] := ownsRow_base (ownsRow_empty h) hb
set_option maxRecDepth 100000 in
set_option maxHeartbeats 8000000 in
theorem DuA.tables (h : DuA w a s bcap tk E w0) : Calls Tryz.prog 127 #[.pointer (some ⟨a 0, 0, none⟩)] w fun e w' => ∃ v, e = .returned v ∧ w'.ownsRow w.heap.size 85 1 v 1 [.pointer (some ⟨a 1, 0, none⟩)] ∧ Below w.heap.size w w' := by
  obtain ⟨i0, hi, hz0, hz1, hz2⟩ := info_parts infoPT
  obtain ⟨c0, c1, c2, c3, c4, c5, zc⟩ := h.cells
  clear h
  go_enter Tryz.func127, Tryz.ntmps127
  go_wp2
  go_cut [2] (fun v2 wx => wx.ownsRow w.heap.size 85 1 v2 1 [.pointer (some ⟨a 1, 0, none⟩)] ∧ Below w.heap.size w wx)
  case first =>
    refine wp_region_T (fun _ => False) #[⟨0, 0, 8, 0, 2⟩, ⟨0, 0, 16, 1, 0⟩, ⟨2, 2, 32, 16, 0⟩, ⟨4, 6, 64, 32, 0⟩, ⟨8, 14, 128, 64, 1⟩, ⟨17, 31, 256, 136, 2⟩, ⟨0, 0, 512, 1, 0⟩, ⟨64, 64, 1024, 512, 0⟩, ⟨128, 192, 2048, 1024, 0⟩, ⟨256, 448, 4096, 2048, 1⟩, ⟨512, 960, 8192, 4096, 2⟩, ⟨1056, 2047, 16384, 8448, 3⟩, ⟨4095, 4095, 4, 16384, 0⟩] 528 (.step 1 0 (.step 2 0 (.step 3 0 (.step 4 1 (.step 6 0 (.step 7 0 (.step 8 0 (.step 9 1 (.fork (.alt 0 (.fork (.alt 5 (.step 10 2 (.step 11 3 (.step 12 0 Plan.done))) (.alt 10 (.step 5 2 (.step 11 3 (.step 12 0 Plan.done))) Plan.none))) (.alt 10 (.step 0 2 (.step 5 2 (.step 11 3 (.step 12 0 Plan.done)))) Plan.none))))))))))) (by kernel_rfl) (by kernel_rfl) (by kernel_rfl) (by kernel_rfl) (by kernel_rfl) (by kernel_rfl) (fun c a d v w h => by cases d <;> exact h) ?_
    refine ztC ?_; refine ztC ?_; refine ztC ?_
    refine zt1 Tryz.underlying111 ?_
    try refine ztP ?_; refine ztC ?_; refine ztC ?_; refine ztC ?_
    refine zt1 Tryz.underlying85 ?_
    try refine ztP ?_
    refine zt2 (fun K hK => ?_) fun K hK => ?_
    (go_wp2_with (fail); refine hkI hK (h := ?_); clear hK K)
    try refine ztP ?_
    refine zt2 (fun K hK => ?_) fun K hK => ?_
    ((first | (refine wp_append_none _ _ 111 rfl w.heap.size 85 i0 1 Tryz.underlying111 hi _ 0 [] rfl (by first | exact empty_row (Blk.drew (Blk.new _ _ _)) (Nat.le_refl _) | exact empty_row (Blk.drew ((Blk.new _ _ _).alloc _)) (Nat.le_refl _) | exact empty_row (Blk.drew (Blk.new_at (by simp))) (Nat.le_succ _)) rfl ?_) | (refine wp_append_own2 _ _ 111 rfl w.heap.size 85 i0 (.pointer none) 1 8 Tryz.underlying111 hi hz0 hz1 hz2 rfl (by decide) _ 0 [] rfl (by first | exact empty_row (Blk.drew ((Blk.new _ _ _).alloc _)) (Nat.le_refl _) | exact empty_row (Blk.drew (Blk.new_at (by simp))) (Nat.le_succ _)) _ 1 1 [.pointer (some ⟨a 1, 0, none⟩)] rfl rfl (by first | exact cell1_at (Blk.drew (Blk.new_at (by simp))) | exact cell1_at (Blk.drew ((Blk.new _ _ _).alloc _))) (by simp [Value.oneCell']) (by unfold maxLen; omega) (by omega) (by simp; omega) (by decide) ?_; intro v5 w5 hown5 hgrow5 hfr5; have R5 := Lib.hid hown5; have B5 := Lib.hid (show Below w.heap.size w w5 from (show Below w.heap.size w _ by go_grown).grown hgrow5 (by simp; omega) (fun k e => by cases e; first | exact Nat.le_refl _ | exact Nat.le_succ _ | simp)); clear hown5 hgrow5 hfr5)); refine hkI hK (h := ?_); clear hK K)
    try refine ztP ?_
    refine ztD fun K hK => ?_; go_wp2_with (fail); refine hkI hK (h := ?_); clear hK K
    try refine ztP ?_
    refine ztE fun K hK => ?_; (first | (refine wp_append_none _ _ 111 rfl w.heap.size 85 i0 1 Tryz.underlying111 hi _ 0 [] rfl (by first | exact empty_row (Blk.drew (Blk.new _ _ _)) (Nat.le_refl _) | exact empty_row (Blk.drew ((Blk.new _ _ _).alloc _)) (Nat.le_refl _) | exact empty_row (Blk.drew (Blk.new_at (by simp))) (Nat.le_succ _)) rfl ?_) | (refine wp_append_own2 _ _ 111 rfl w.heap.size 85 i0 (.pointer none) 1 8 Tryz.underlying111 hi hz0 hz1 hz2 rfl (by decide) _ 0 [] rfl (by first | exact empty_row (Blk.drew ((Blk.new _ _ _).alloc _)) (Nat.le_refl _) | exact empty_row (Blk.drew (Blk.new_at (by simp))) (Nat.le_succ _)) _ 1 1 [.pointer (some ⟨a 1, 0, none⟩)] rfl rfl (by first | exact cell1_at (Blk.drew (Blk.new_at (by simp))) | exact cell1_at (Blk.drew ((Blk.new _ _ _).alloc _))) (by simp [Value.oneCell']) (by unfold maxLen; omega) (by omega) (by simp; omega) (by decide) ?_; intro v5 w5 hown5 hgrow5 hfr5; have R5 := Lib.hid hown5; have B5 := Lib.hid (show Below w.heap.size w w5 from (show Below w.heap.size w _ by go_grown).grown hgrow5 (by simp; omega) (fun k e => by cases e; first | exact Nat.le_refl _ | exact Nat.le_succ _ | simp)); clear hown5 hgrow5 hfr5)); refine hK.out _ _ ?_; clear hK K
    try refine ztP ?_; refine ztC ?_
    refine T_done ?_
    rotate_left 1
    (go_wp2_with (fail); refine hkI hK (h := ?_); clear hK K)
    try refine ztP ?_
    refine ztD fun K hK => ?_; (first | (refine wp_append_none _ _ 111 rfl w.heap.size 85 i0 1 Tryz.underlying111 hi _ 0 [] rfl (by first | exact empty_row (Blk.drew (Blk.new _ _ _)) (Nat.le_refl _) | exact empty_row (Blk.drew ((Blk.new _ _ _).alloc _)) (Nat.le_refl _) | exact empty_row (Blk.drew (Blk.new_at (by simp))) (Nat.le_succ _)) rfl ?_) | (refine wp_append_own2 _ _ 111 rfl w.heap.size 85 i0 (.pointer none) 1 8 Tryz.underlying111 hi hz0 hz1 hz2 rfl (by decide) _ 0 [] rfl (by first | exact empty_row (Blk.drew ((Blk.new _ _ _).alloc _)) (Nat.le_refl _) | exact empty_row (Blk.drew (Blk.new_at (by simp))) (Nat.le_succ _)) _ 1 1 [.pointer (some ⟨a 1, 0, none⟩)] rfl rfl (by first | exact cell1_at (Blk.drew (Blk.new_at (by simp))) | exact cell1_at (Blk.drew ((Blk.new _ _ _).alloc _))) (by simp [Value.oneCell']) (by unfold maxLen; omega) (by omega) (by simp; omega) (by decide) ?_; intro v5 w5 hown5 hgrow5 hfr5; have R5 := Lib.hid hown5; have B5 := Lib.hid (show Below w.heap.size w w5 from (show Below w.heap.size w _ by go_grown).grown hgrow5 (by simp; omega) (fun k e => by cases e; first | exact Nat.le_refl _ | exact Nat.le_succ _ | simp)); clear hown5 hgrow5 hfr5)); refine hkI hK (h := ?_); clear hK K
    try refine ztP ?_
    refine ztE fun K hK => ?_; (first | (refine wp_append_none _ _ 111 rfl w.heap.size 85 i0 1 Tryz.underlying111 hi _ 0 [] rfl (by first | exact empty_row (Blk.drew (Blk.new _ _ _)) (Nat.le_refl _) | exact empty_row (Blk.drew ((Blk.new _ _ _).alloc _)) (Nat.le_refl _) | exact empty_row (Blk.drew (Blk.new_at (by simp))) (Nat.le_succ _)) rfl ?_) | (refine wp_append_own2 _ _ 111 rfl w.heap.size 85 i0 (.pointer none) 1 8 Tryz.underlying111 hi hz0 hz1 hz2 rfl (by decide) _ 0 [] rfl (by first | exact empty_row (Blk.drew ((Blk.new _ _ _).alloc _)) (Nat.le_refl _) | exact empty_row (Blk.drew (Blk.new_at (by simp))) (Nat.le_succ _)) _ 1 1 [.pointer (some ⟨a 1, 0, none⟩)] rfl rfl (by first | exact cell1_at (Blk.drew (Blk.new_at (by simp))) | exact cell1_at (Blk.drew ((Blk.new _ _ _).alloc _))) (by simp [Value.oneCell']) (by unfold maxLen; omega) (by omega) (by simp; omega) (by decide) ?_; intro v5 w5 hown5 hgrow5 hfr5; have R5 := Lib.hid hown5; have B5 := Lib.hid (show Below w.heap.size w w5 from (show Below w.heap.size w _ by go_grown).grown hgrow5 (by simp; omega) (fun k e => by cases e; first | exact Nat.le_refl _ | exact Nat.le_succ _ | simp)); clear hown5 hgrow5 hfr5)); refine hK.out _ _ ?_; clear hK K
    try refine ztP ?_; refine ztC ?_
    refine T_done ?_
    rotate_left 1
    rotate_right 2
    rotate_left 2
    (go_wp2_with (fail); refine hkI hK (h := ?_); clear hK K)
    try refine ztP ?_
    refine ztD fun K hK => ?_; go_wp2_with (fail); refine hkI hK (h := ?_); clear hK K
    try refine ztP ?_
    refine ztD fun K hK => ?_; (first | (refine wp_append_none _ _ 111 rfl w.heap.size 85 i0 1 Tryz.underlying111 hi _ 0 [] rfl (by first | exact empty_row (Blk.drew (Blk.new _ _ _)) (Nat.le_refl _) | exact empty_row (Blk.drew ((Blk.new _ _ _).alloc _)) (Nat.le_refl _) | exact empty_row (Blk.drew (Blk.new_at (by simp))) (Nat.le_succ _)) rfl ?_) | (refine wp_append_own2 _ _ 111 rfl w.heap.size 85 i0 (.pointer none) 1 8 Tryz.underlying111 hi hz0 hz1 hz2 rfl (by decide) _ 0 [] rfl (by first | exact empty_row (Blk.drew ((Blk.new _ _ _).alloc _)) (Nat.le_refl _) | exact empty_row (Blk.drew (Blk.new_at (by simp))) (Nat.le_succ _)) _ 1 1 [.pointer (some ⟨a 1, 0, none⟩)] rfl rfl (by first | exact cell1_at (Blk.drew (Blk.new_at (by simp))) | exact cell1_at (Blk.drew ((Blk.new _ _ _).alloc _))) (by simp [Value.oneCell']) (by unfold maxLen; omega) (by omega) (by simp; omega) (by decide) ?_; intro v5 w5 hown5 hgrow5 hfr5; have R5 := Lib.hid hown5; have B5 := Lib.hid (show Below w.heap.size w w5 from (show Below w.heap.size w _ by go_grown).grown hgrow5 (by simp; omega) (fun k e => by cases e; first | exact Nat.le_refl _ | exact Nat.le_succ _ | simp)); clear hown5 hgrow5 hfr5)); refine hkI hK (h := ?_); clear hK K
    try refine ztP ?_
    refine ztE fun K hK => ?_; (first | (refine wp_append_none _ _ 111 rfl w.heap.size 85 i0 1 Tryz.underlying111 hi _ 0 [] rfl (by first | exact empty_row (Blk.drew (Blk.new _ _ _)) (Nat.le_refl _) | exact empty_row (Blk.drew ((Blk.new _ _ _).alloc _)) (Nat.le_refl _) | exact empty_row (Blk.drew (Blk.new_at (by simp))) (Nat.le_succ _)) rfl ?_) | (refine wp_append_own2 _ _ 111 rfl w.heap.size 85 i0 (.pointer none) 1 8 Tryz.underlying111 hi hz0 hz1 hz2 rfl (by decide) _ 0 [] rfl (by first | exact empty_row (Blk.drew ((Blk.new _ _ _).alloc _)) (Nat.le_refl _) | exact empty_row (Blk.drew (Blk.new_at (by simp))) (Nat.le_succ _)) _ 1 1 [.pointer (some ⟨a 1, 0, none⟩)] rfl rfl (by first | exact cell1_at (Blk.drew (Blk.new_at (by simp))) | exact cell1_at (Blk.drew ((Blk.new _ _ _).alloc _))) (by simp [Value.oneCell']) (by unfold maxLen; omega) (by omega) (by simp; omega) (by decide) ?_; intro v5 w5 hown5 hgrow5 hfr5; have R5 := Lib.hid hown5; have B5 := Lib.hid (show Below w.heap.size w w5 from (show Below w.heap.size w _ by go_grown).grown hgrow5 (by simp; omega) (fun k e => by cases e; first | exact Nat.le_refl _ | exact Nat.le_succ _ | simp)); clear hown5 hgrow5 hfr5)); refine hK.out _ _ ?_; clear hK K
    try refine ztP ?_; refine ztC ?_
    refine T_done ?_
    rotate_left 1
    rotate_right 3
    all_goals (go_wp2; go_meet)
    all_goals exact ⟨R5.out, B5.out⟩
  case rest =>
    obtain ⟨hR, hB⟩ := hcut
    go_wp2
    go_ret
    exact ⟨_, rfl, hR, hB⟩
set_option maxRecDepth 100000 in
set_option maxHeartbeats 8000000 in
theorem DuB.tables (h : DuB w a s bcap fcap cap5 tk E w0) (hok : DuOK s) : Calls Tryz.prog 127 #[.pointer (some ⟨a 0, 0, none⟩)] w fun e w' => ∃ v, e = .returned v ∧ w'.ownsRow w.heap.size 85 1 v (s.k + 1) ((List.range s.k).map (fun i => Value.pointer (some ⟨a (8 + 3 * i), 0, none⟩)) ++ [.pointer (some ⟨a 1, 0, none⟩)]) ∧ Below w.heap.size w w' := by
  obtain ⟨i0, hi, hz0, hz1, hz2⟩ := info_parts infoPT
  obtain ⟨c0, c1, c2, c3, c4, c5, zc⟩ := h.cells
  have hk1 : 1 ≤ s.k ∧ s.k ≤ 2 := by rcases hok.hk with e | e <;> omega
  have FL := Lib.hid (show ∀ w', Below w.heap.size w w' → ∀ i, i < s.k → w'.cell? ⟨a 4, 0 + i, none⟩ = some (.pointer (some ⟨a (8 + 3 * i), 0, none⟩)) from fun w' hb i hi => by
    rw [Nat.zero_add]; exact (hb.cell (p := ⟨a 4, i, none⟩) h.fz).trans (h.fl i hi))
  clear h
  go_enter Tryz.func127, Tryz.ntmps127
  go_wp2
  go_cut [2] (fun v2 wx => wx.ownsRow w.heap.size 85 1 v2 (s.k + 1) ((List.range s.k).map (fun i => Value.pointer (some ⟨a (8 + 3 * i), 0, none⟩)) ++ [.pointer (some ⟨a 1, 0, none⟩)]) ∧ Below w.heap.size w wx)
  case first =>
    refine wp_region_T (fun b => w.heap.size ≤ b) #[⟨0, 0, 8, 0, 2⟩, ⟨0, 0, 16, 1, 0⟩, ⟨2, 2, 32, 16, 0⟩, ⟨4, 6, 64, 32, 0⟩, ⟨8, 14, 128, 64, 1⟩, ⟨17, 31, 256, 136, 2⟩, ⟨0, 0, 512, 1, 0⟩, ⟨64, 64, 1024, 512, 0⟩, ⟨128, 192, 2048, 1024, 0⟩, ⟨256, 448, 4096, 2048, 1⟩, ⟨512, 960, 8192, 4096, 2⟩, ⟨1056, 2047, 16384, 8448, 3⟩, ⟨4095, 4095, 4, 16384, 0⟩] 528 (.step 1 0 (.step 2 0 (.step 3 0 (.step 4 1 (.step 6 0 (.step 7 0 (.step 8 0 (.step 9 1 (.fork (.alt 0 (.fork (.alt 5 (.step 10 2 (.step 11 3 (.step 12 0 Plan.done))) (.alt 10 (.step 5 2 (.step 11 3 (.step 12 0 Plan.done))) Plan.none))) (.alt 10 (.step 0 2 (.step 5 2 (.step 11 3 (.step 12 0 Plan.done)))) Plan.none))))))))))) (by kernel_rfl) (by kernel_rfl) (by kernel_rfl) (by kernel_rfl) (by kernel_rfl) (by kernel_rfl) (fun c a d v w h => by cases d <;> exact h) ?_
    refine ztC ?_; refine ztC ?_; refine ztC ?_
    refine zt1 Tryz.underlying111 ?_
    try refine ztP ?_; refine ztC ?_; refine ztC ?_; refine ztC ?_
    refine zt1 Tryz.underlying85 ?_
    try refine ztP ?_
    refine zt2 (fun K hK => ?_) fun K hK => ?_
    (go_wp2_with (fail); refine hkI hK (h := ?_); clear hK K)
    try refine ztP ?_
    refine zt2 (fun K hK => ?_) fun K hK => ?_
    ((first | (refine wp_append_own2 _ _ 111 rfl w.heap.size 85 i0 (.pointer none) 1 8 Tryz.underlying111 hi hz0 hz1 hz2 rfl (by decide) _ 0 [] rfl (by first | exact empty_row (Blk.drew (Blk.new _ _ _)) (Nat.le_refl _) | exact empty_row (Blk.drew ((Blk.new _ _ _).alloc _)) (Nat.le_refl _) | exact empty_row (Blk.drew (Blk.new_at (by simp))) (Nat.le_succ _)) ⟨a 4, 0, none⟩ s.k fcap ((List.range s.k).map (fun i => Value.pointer (some ⟨a (8 + 3 * i), 0, none⟩))) rfl (by simp) (ptr_news (F := fun i => some ⟨a (8 + 3 * i), 0, none⟩) (FL.out _ (by go_grown))) (by simp [Value.oneCell']) (by unfold maxLen; omega) (by omega) (by simp <;> omega) (by omega) ?_; intro v5 w5 hown5 hgrow5 hfr5; have R5 := Lib.hid hown5; have B5 := Lib.hid (show Below w.heap.size w w5 from (show Below w.heap.size w _ by go_grown).grown hgrow5 (by simp <;> omega) (fun k e => by cases e; first | exact Nat.le_refl _ | exact Nat.le_succ _ | simp)); (first | (have N5 := Lib.hid (Blk.kept (Blk.drew (Blk.new_at (B := w.heap.size + 1) (T := 85) (c := #[.pointer (some ⟨a 1, 0, none⟩)]) (by simp))) hgrow5 (show some (w.heap.size + 1) ≠ some w.heap.size by simp))) | (have N5 := Lib.hid (Blk.kept (Blk.drew ((Blk.new w 85 #[.pointer (some ⟨a 1, 0, none⟩)]).alloc _)) hgrow5 (show some w.heap.size ≠ some (w.heap.size + 1) by simp))) | skip); have zB5 := B5.out.size; have hcx5 : Chg (fun b => w.heap.size ≤ b) _ w5 := (Chg.of_grown hgrow5).mono (fun b _ e => by cases e; first | exact Nat.le_refl _ | exact Nat.le_succ _ | simp); clear hown5 hgrow5 hfr5) | (refine wp_append_own2 _ _ 111 rfl w.heap.size 85 i0 (.pointer none) 1 8 Tryz.underlying111 hi hz0 hz1 hz2 rfl (by decide) _ (0 + s.k) _ rfl (by first | exact R5.out | exact ownsRow_later R5.out ((Below.refl _ _).alloc (Nat.le_refl _) _)) _ 1 1 [.pointer (some ⟨a 1, 0, none⟩)] rfl rfl (by first | exact cell1_at (Blk.new _ _ _) | exact cell1_at N5.out) (by simp [Value.oneCell']) (by unfold maxLen; omega) (by omega) (by first | exact zB5 | (simp; omega)) (by decide) ?_; intro v6 w6 hown6 hgrow6 hfr6; have R6 := Lib.hid hown6; have B6 := Lib.hid (show Below w.heap.size w w6 from by first | exact B5.out.grown hgrow6 zB5 (fun k e => (R5.out.lt k e).1) | exact (B5.out.alloc zB5 _).grown hgrow6 (by simp <;> omega) (fun k e => (R5.out.lt k e).1)); clear hown6 hgrow6 hfr6)); refine hkI hK (h := ?_); clear hK K)
    try refine ztP ?_
    refine ztD fun K hK => ?_; go_wp2_with (fail); refine hkI hK (h := ?_); clear hK K
    try refine ztP ?_
    refine ztE fun K hK => ?_; (first | (refine wp_append_own2 _ _ 111 rfl w.heap.size 85 i0 (.pointer none) 1 8 Tryz.underlying111 hi hz0 hz1 hz2 rfl (by decide) _ 0 [] rfl (by first | exact empty_row (Blk.drew (Blk.new _ _ _)) (Nat.le_refl _) | exact empty_row (Blk.drew ((Blk.new _ _ _).alloc _)) (Nat.le_refl _) | exact empty_row (Blk.drew (Blk.new_at (by simp))) (Nat.le_succ _)) ⟨a 4, 0, none⟩ s.k fcap ((List.range s.k).map (fun i => Value.pointer (some ⟨a (8 + 3 * i), 0, none⟩))) rfl (by simp) (ptr_news (F := fun i => some ⟨a (8 + 3 * i), 0, none⟩) (FL.out _ (by go_grown))) (by simp [Value.oneCell']) (by unfold maxLen; omega) (by omega) (by simp <;> omega) (by omega) ?_; intro v5 w5 hown5 hgrow5 hfr5; have R5 := Lib.hid hown5; have B5 := Lib.hid (show Below w.heap.size w w5 from (show Below w.heap.size w _ by go_grown).grown hgrow5 (by simp <;> omega) (fun k e => by cases e; first | exact Nat.le_refl _ | exact Nat.le_succ _ | simp)); (first | (have N5 := Lib.hid (Blk.kept (Blk.drew (Blk.new_at (B := w.heap.size + 1) (T := 85) (c := #[.pointer (some ⟨a 1, 0, none⟩)]) (by simp))) hgrow5 (show some (w.heap.size + 1) ≠ some w.heap.size by simp))) | (have N5 := Lib.hid (Blk.kept (Blk.drew ((Blk.new w 85 #[.pointer (some ⟨a 1, 0, none⟩)]).alloc _)) hgrow5 (show some w.heap.size ≠ some (w.heap.size + 1) by simp))) | skip); have zB5 := B5.out.size; have hcx5 : Chg (fun b => w.heap.size ≤ b) _ w5 := (Chg.of_grown hgrow5).mono (fun b _ e => by cases e; first | exact Nat.le_refl _ | exact Nat.le_succ _ | simp); clear hown5 hgrow5 hfr5) | (refine wp_append_own2 _ _ 111 rfl w.heap.size 85 i0 (.pointer none) 1 8 Tryz.underlying111 hi hz0 hz1 hz2 rfl (by decide) _ (0 + s.k) _ rfl (by first | exact R5.out | exact ownsRow_later R5.out ((Below.refl _ _).alloc (Nat.le_refl _) _)) _ 1 1 [.pointer (some ⟨a 1, 0, none⟩)] rfl rfl (by first | exact cell1_at (Blk.new _ _ _) | exact cell1_at N5.out) (by simp [Value.oneCell']) (by unfold maxLen; omega) (by omega) (by first | exact zB5 | (simp; omega)) (by decide) ?_; intro v6 w6 hown6 hgrow6 hfr6; have R6 := Lib.hid hown6; have B6 := Lib.hid (show Below w.heap.size w w6 from by first | exact B5.out.grown hgrow6 zB5 (fun k e => (R5.out.lt k e).1) | exact (B5.out.alloc zB5 _).grown hgrow6 (by simp <;> omega) (fun k e => (R5.out.lt k e).1)); clear hown6 hgrow6 hfr6)); refine hK.out _ _ ?_; clear hK K
    try refine ztP ?_; refine ztC ?_
    refine T_done ?_
    rotate_left 1
    (go_wp2_with (fail); refine hkI hK (h := ?_); clear hK K)
    try refine ztP ?_
    refine ztD fun K hK => ?_; (first | (refine wp_append_own2 _ _ 111 rfl w.heap.size 85 i0 (.pointer none) 1 8 Tryz.underlying111 hi hz0 hz1 hz2 rfl (by decide) _ 0 [] rfl (by first | exact empty_row (Blk.drew (Blk.new _ _ _)) (Nat.le_refl _) | exact empty_row (Blk.drew ((Blk.new _ _ _).alloc _)) (Nat.le_refl _) | exact empty_row (Blk.drew (Blk.new_at (by simp))) (Nat.le_succ _)) ⟨a 4, 0, none⟩ s.k fcap ((List.range s.k).map (fun i => Value.pointer (some ⟨a (8 + 3 * i), 0, none⟩))) rfl (by simp) (ptr_news (F := fun i => some ⟨a (8 + 3 * i), 0, none⟩) (FL.out _ (by go_grown))) (by simp [Value.oneCell']) (by unfold maxLen; omega) (by omega) (by simp <;> omega) (by omega) ?_; intro v5 w5 hown5 hgrow5 hfr5; have R5 := Lib.hid hown5; have B5 := Lib.hid (show Below w.heap.size w w5 from (show Below w.heap.size w _ by go_grown).grown hgrow5 (by simp <;> omega) (fun k e => by cases e; first | exact Nat.le_refl _ | exact Nat.le_succ _ | simp)); (first | (have N5 := Lib.hid (Blk.kept (Blk.drew (Blk.new_at (B := w.heap.size + 1) (T := 85) (c := #[.pointer (some ⟨a 1, 0, none⟩)]) (by simp))) hgrow5 (show some (w.heap.size + 1) ≠ some w.heap.size by simp))) | (have N5 := Lib.hid (Blk.kept (Blk.drew ((Blk.new w 85 #[.pointer (some ⟨a 1, 0, none⟩)]).alloc _)) hgrow5 (show some w.heap.size ≠ some (w.heap.size + 1) by simp))) | skip); have zB5 := B5.out.size; have hcx5 : Chg (fun b => w.heap.size ≤ b) _ w5 := (Chg.of_grown hgrow5).mono (fun b _ e => by cases e; first | exact Nat.le_refl _ | exact Nat.le_succ _ | simp); clear hown5 hgrow5 hfr5) | (refine wp_append_own2 _ _ 111 rfl w.heap.size 85 i0 (.pointer none) 1 8 Tryz.underlying111 hi hz0 hz1 hz2 rfl (by decide) _ (0 + s.k) _ rfl (by first | exact R5.out | exact ownsRow_later R5.out ((Below.refl _ _).alloc (Nat.le_refl _) _)) _ 1 1 [.pointer (some ⟨a 1, 0, none⟩)] rfl rfl (by first | exact cell1_at (Blk.new _ _ _) | exact cell1_at N5.out) (by simp [Value.oneCell']) (by unfold maxLen; omega) (by omega) (by first | exact zB5 | (simp; omega)) (by decide) ?_; intro v6 w6 hown6 hgrow6 hfr6; have R6 := Lib.hid hown6; have B6 := Lib.hid (show Below w.heap.size w w6 from by first | exact B5.out.grown hgrow6 zB5 (fun k e => (R5.out.lt k e).1) | exact (B5.out.alloc zB5 _).grown hgrow6 (by simp <;> omega) (fun k e => (R5.out.lt k e).1)); clear hown6 hgrow6 hfr6)); refine hkI hK (h := ?_); clear hK K
    try refine ztP ?_
    refine ztE fun K hK => ?_; (first | (refine wp_append_own2 _ _ 111 rfl w.heap.size 85 i0 (.pointer none) 1 8 Tryz.underlying111 hi hz0 hz1 hz2 rfl (by decide) _ 0 [] rfl (by first | exact empty_row (Blk.drew (Blk.new _ _ _)) (Nat.le_refl _) | exact empty_row (Blk.drew ((Blk.new _ _ _).alloc _)) (Nat.le_refl _) | exact empty_row (Blk.drew (Blk.new_at (by simp))) (Nat.le_succ _)) ⟨a 4, 0, none⟩ s.k fcap ((List.range s.k).map (fun i => Value.pointer (some ⟨a (8 + 3 * i), 0, none⟩))) rfl (by simp) (ptr_news (F := fun i => some ⟨a (8 + 3 * i), 0, none⟩) (FL.out _ (by go_grown))) (by simp [Value.oneCell']) (by unfold maxLen; omega) (by omega) (by simp <;> omega) (by omega) ?_; intro v5 w5 hown5 hgrow5 hfr5; have R5 := Lib.hid hown5; have B5 := Lib.hid (show Below w.heap.size w w5 from (show Below w.heap.size w _ by go_grown).grown hgrow5 (by simp <;> omega) (fun k e => by cases e; first | exact Nat.le_refl _ | exact Nat.le_succ _ | simp)); (first | (have N5 := Lib.hid (Blk.kept (Blk.drew (Blk.new_at (B := w.heap.size + 1) (T := 85) (c := #[.pointer (some ⟨a 1, 0, none⟩)]) (by simp))) hgrow5 (show some (w.heap.size + 1) ≠ some w.heap.size by simp))) | (have N5 := Lib.hid (Blk.kept (Blk.drew ((Blk.new w 85 #[.pointer (some ⟨a 1, 0, none⟩)]).alloc _)) hgrow5 (show some w.heap.size ≠ some (w.heap.size + 1) by simp))) | skip); have zB5 := B5.out.size; have hcx5 : Chg (fun b => w.heap.size ≤ b) _ w5 := (Chg.of_grown hgrow5).mono (fun b _ e => by cases e; first | exact Nat.le_refl _ | exact Nat.le_succ _ | simp); clear hown5 hgrow5 hfr5) | (refine wp_append_own2 _ _ 111 rfl w.heap.size 85 i0 (.pointer none) 1 8 Tryz.underlying111 hi hz0 hz1 hz2 rfl (by decide) _ (0 + s.k) _ rfl (by first | exact R5.out | exact ownsRow_later R5.out ((Below.refl _ _).alloc (Nat.le_refl _) _)) _ 1 1 [.pointer (some ⟨a 1, 0, none⟩)] rfl rfl (by first | exact cell1_at (Blk.new _ _ _) | exact cell1_at N5.out) (by simp [Value.oneCell']) (by unfold maxLen; omega) (by omega) (by first | exact zB5 | (simp; omega)) (by decide) ?_; intro v6 w6 hown6 hgrow6 hfr6; have R6 := Lib.hid hown6; have B6 := Lib.hid (show Below w.heap.size w w6 from by first | exact B5.out.grown hgrow6 zB5 (fun k e => (R5.out.lt k e).1) | exact (B5.out.alloc zB5 _).grown hgrow6 (by simp <;> omega) (fun k e => (R5.out.lt k e).1)); clear hown6 hgrow6 hfr6)); refine hK.out _ _ ?_; clear hK K
    try refine ztP ?_; refine ztC ?_
    refine T_done ?_
    rotate_left 1
    rotate_right 2
    rotate_left 2
    (go_wp2_with (fail); refine hkI hK (h := ?_); clear hK K)
    try refine ztP ?_
    refine ztD fun K hK => ?_; go_wp2_with (fail); refine hkI hK (h := ?_); clear hK K
    try refine ztP ?_
    refine ztD fun K hK => ?_; (first | (refine wp_append_own2 _ _ 111 rfl w.heap.size 85 i0 (.pointer none) 1 8 Tryz.underlying111 hi hz0 hz1 hz2 rfl (by decide) _ 0 [] rfl (by first | exact empty_row (Blk.drew (Blk.new _ _ _)) (Nat.le_refl _) | exact empty_row (Blk.drew ((Blk.new _ _ _).alloc _)) (Nat.le_refl _) | exact empty_row (Blk.drew (Blk.new_at (by simp))) (Nat.le_succ _)) ⟨a 4, 0, none⟩ s.k fcap ((List.range s.k).map (fun i => Value.pointer (some ⟨a (8 + 3 * i), 0, none⟩))) rfl (by simp) (ptr_news (F := fun i => some ⟨a (8 + 3 * i), 0, none⟩) (FL.out _ (by go_grown))) (by simp [Value.oneCell']) (by unfold maxLen; omega) (by omega) (by simp <;> omega) (by omega) ?_; intro v5 w5 hown5 hgrow5 hfr5; have R5 := Lib.hid hown5; have B5 := Lib.hid (show Below w.heap.size w w5 from (show Below w.heap.size w _ by go_grown).grown hgrow5 (by simp <;> omega) (fun k e => by cases e; first | exact Nat.le_refl _ | exact Nat.le_succ _ | simp)); (first | (have N5 := Lib.hid (Blk.kept (Blk.drew (Blk.new_at (B := w.heap.size + 1) (T := 85) (c := #[.pointer (some ⟨a 1, 0, none⟩)]) (by simp))) hgrow5 (show some (w.heap.size + 1) ≠ some w.heap.size by simp))) | (have N5 := Lib.hid (Blk.kept (Blk.drew ((Blk.new w 85 #[.pointer (some ⟨a 1, 0, none⟩)]).alloc _)) hgrow5 (show some w.heap.size ≠ some (w.heap.size + 1) by simp))) | skip); have zB5 := B5.out.size; have hcx5 : Chg (fun b => w.heap.size ≤ b) _ w5 := (Chg.of_grown hgrow5).mono (fun b _ e => by cases e; first | exact Nat.le_refl _ | exact Nat.le_succ _ | simp); clear hown5 hgrow5 hfr5) | (refine wp_append_own2 _ _ 111 rfl w.heap.size 85 i0 (.pointer none) 1 8 Tryz.underlying111 hi hz0 hz1 hz2 rfl (by decide) _ (0 + s.k) _ rfl (by first | exact R5.out | exact ownsRow_later R5.out ((Below.refl _ _).alloc (Nat.le_refl _) _)) _ 1 1 [.pointer (some ⟨a 1, 0, none⟩)] rfl rfl (by first | exact cell1_at (Blk.new _ _ _) | exact cell1_at N5.out) (by simp [Value.oneCell']) (by unfold maxLen; omega) (by omega) (by first | exact zB5 | (simp; omega)) (by decide) ?_; intro v6 w6 hown6 hgrow6 hfr6; have R6 := Lib.hid hown6; have B6 := Lib.hid (show Below w.heap.size w w6 from by first | exact B5.out.grown hgrow6 zB5 (fun k e => (R5.out.lt k e).1) | exact (B5.out.alloc zB5 _).grown hgrow6 (by simp <;> omega) (fun k e => (R5.out.lt k e).1)); clear hown6 hgrow6 hfr6)); refine hkI hK (h := ?_); clear hK K
    try refine ztP ?_
    refine ztE fun K hK => ?_; (first | (refine wp_append_own2 _ _ 111 rfl w.heap.size 85 i0 (.pointer none) 1 8 Tryz.underlying111 hi hz0 hz1 hz2 rfl (by decide) _ 0 [] rfl (by first | exact empty_row (Blk.drew (Blk.new _ _ _)) (Nat.le_refl _) | exact empty_row (Blk.drew ((Blk.new _ _ _).alloc _)) (Nat.le_refl _) | exact empty_row (Blk.drew (Blk.new_at (by simp))) (Nat.le_succ _)) ⟨a 4, 0, none⟩ s.k fcap ((List.range s.k).map (fun i => Value.pointer (some ⟨a (8 + 3 * i), 0, none⟩))) rfl (by simp) (ptr_news (F := fun i => some ⟨a (8 + 3 * i), 0, none⟩) (FL.out _ (by go_grown))) (by simp [Value.oneCell']) (by unfold maxLen; omega) (by omega) (by simp <;> omega) (by omega) ?_; intro v5 w5 hown5 hgrow5 hfr5; have R5 := Lib.hid hown5; have B5 := Lib.hid (show Below w.heap.size w w5 from (show Below w.heap.size w _ by go_grown).grown hgrow5 (by simp <;> omega) (fun k e => by cases e; first | exact Nat.le_refl _ | exact Nat.le_succ _ | simp)); (first | (have N5 := Lib.hid (Blk.kept (Blk.drew (Blk.new_at (B := w.heap.size + 1) (T := 85) (c := #[.pointer (some ⟨a 1, 0, none⟩)]) (by simp))) hgrow5 (show some (w.heap.size + 1) ≠ some w.heap.size by simp))) | (have N5 := Lib.hid (Blk.kept (Blk.drew ((Blk.new w 85 #[.pointer (some ⟨a 1, 0, none⟩)]).alloc _)) hgrow5 (show some w.heap.size ≠ some (w.heap.size + 1) by simp))) | skip); have zB5 := B5.out.size; have hcx5 : Chg (fun b => w.heap.size ≤ b) _ w5 := (Chg.of_grown hgrow5).mono (fun b _ e => by cases e; first | exact Nat.le_refl _ | exact Nat.le_succ _ | simp); clear hown5 hgrow5 hfr5) | (refine wp_append_own2 _ _ 111 rfl w.heap.size 85 i0 (.pointer none) 1 8 Tryz.underlying111 hi hz0 hz1 hz2 rfl (by decide) _ (0 + s.k) _ rfl (by first | exact R5.out | exact ownsRow_later R5.out ((Below.refl _ _).alloc (Nat.le_refl _) _)) _ 1 1 [.pointer (some ⟨a 1, 0, none⟩)] rfl rfl (by first | exact cell1_at (Blk.new _ _ _) | exact cell1_at N5.out) (by simp [Value.oneCell']) (by unfold maxLen; omega) (by omega) (by first | exact zB5 | (simp; omega)) (by decide) ?_; intro v6 w6 hown6 hgrow6 hfr6; have R6 := Lib.hid hown6; have B6 := Lib.hid (show Below w.heap.size w w6 from by first | exact B5.out.grown hgrow6 zB5 (fun k e => (R5.out.lt k e).1) | exact (B5.out.alloc zB5 _).grown hgrow6 (by simp <;> omega) (fun k e => (R5.out.lt k e).1)); clear hown6 hgrow6 hfr6)); refine hK.out _ _ ?_; clear hK K
    try refine ztP ?_; refine ztC ?_
    refine T_done ?_
    rotate_left 1
    rotate_right 3
    all_goals (go_wp2; go_meet)
    all_goals exact ⟨by simpa using R6.out, B6.out⟩
  case rest =>
    obtain ⟨hR, hB⟩ := hcut
    go_wp2
    go_ret
    exact ⟨_, rfl, hR, hB⟩
theorem DuV.tables (h : DuV w a s tk E w0) : Calls Tryz.prog 127 #[.pointer (some ⟨a 0, 0, none⟩)] w fun e w' => ∃ v, e = .returned v ∧ w'.ownsRow w.heap.size 85 1 v (tabN s) ((List.range (tabN s)).map (fun i => Value.pointer (some ⟨tabB s a i, 0, none⟩))) ∧ Below w.heap.size w w' := by
  rcases h.m with ⟨b, hA⟩ | ⟨b, f, c, hB⟩
  · have hb := hA.hb
    have e1 : tabN s = 1 := by unfold tabN; rw [if_neg (by omega)]
    have e2 : tabB s a 0 = a 1 := by unfold tabB; rw [if_neg (by omega)]
    refine hA.tables.mono ?_
    rintro e w' ⟨v, rfl, h1, h2⟩
    exact ⟨v, rfl, by rw [e1]; simpa [e2, List.range_succ] using h1, h2⟩
  · have e1 : tabN s = s.k + 1 := by unfold tabN; rw [if_pos hB.hb]
    refine (hB.tables h.ok).mono ?_
    rintro e w' ⟨v, rfl, h1, h2⟩
    refine ⟨v, rfl, ?_, h2⟩
    rw [e1, List.range_succ, List.map_append]
    have e2 : (List.range s.k).map (fun i => Value.pointer (some ⟨tabB s a i, 0, none⟩)) = (List.range s.k).map (fun i => Value.pointer (some ⟨a (8 + 3 * i), 0, none⟩)) := List.map_congr_left fun i hi => by
      have := List.mem_range.1 hi
      unfold tabB; rw [if_pos ⟨hB.hb, this⟩]
    have e3 : tabB s a s.k = a 1 := by unfold tabB; rw [if_neg (by omega)]
    rw [e2]
    simp only [List.map_cons, List.map_nil, e3]
    exact h1
end
end Go.Proofs.YtolhmibejhldkaaGreatDoor

namespace Go.Proofs.YtolhmibejhldkaaGreatDoor
open Go.RowKit Go.Proofs
attribute [local go_sem] neq_nilG eql_nilG
def lvS (s : DuS) : Nat → Int
  | 0 => 0
  | j + 1 => lvS s j + (tabT s j).lv
def nS (s : DuS) (j : Nat) : Nat := sumN (fun i => (tabT s i).n) j
theorem tabT_good {s : DuS} (h : DuOK s) (i : Nat) : TGood (tabT s i) := by
  unfold tabT; split
  · rename_i e; exact (h.u i e.2).1
  · exact h.t
theorem lvS_bd {s : DuS} (h : DuOK s) : ∀ j, 0 ≤ lvS s j ∧ lvS s j ≤ 512 * (j : Int)
  | 0 => ⟨Int.le_refl _, by simp [lvS]⟩
  | j + 1 => by
    have h1 := lvS_bd h j
    have h2 := (tabT_good h j).bounds
    show 0 ≤ lvS s j + (tabT s j).lv ∧ lvS s j + (tabT s j).lv ≤ _
    omega
theorem ents_lv {T : TabS} (hT : TGood T) : (T.ents.length : Int) = T.lv := ents_length hT
theorem all_length {s : DuS} (h : DuOK s) : ((s.all s.k).length : Int) = lvS s (tabN s) := by
  have hU : ∀ j, j ≤ s.k → s.bare = 0 → lvS s j = ((s.entsU j).length : Int) := fun j => by
    induction j with
    | zero => intro _ _; rfl
    | succ j ih =>
      intro hj hb
      show lvS s j + (tabT s j).lv = ((s.entsU j ++ (s.U j).ents).length : Int)
      have e1 : tabT s j = s.U j := by unfold tabT; rw [if_pos ⟨hb, by omega⟩]
      rw [ih (by omega) hb, e1, ← ents_lv (h.u j (by omega)).1, List.length_append]; omega
  rw [all_entsU, List.length_append]
  by_cases hb : s.bare = 0
  · have e1 : tabN s = s.k + 1 := by unfold tabN; rw [if_pos hb]
    have e2 : tabT s s.k = s.T := by unfold tabT; rw [if_neg (by omega)]
    rw [e1]
    show _ = lvS s s.k + (tabT s s.k).lv
    rw [e2, hU s.k (Nat.le_refl _) hb, ← ents_lv h.t]; omega
  · have e1 : tabN s = 1 := by unfold tabN; rw [if_neg hb]
    have e2 : tabT s 0 = s.T := by unfold tabT; rw [if_neg (fun e => hb e.1)]
    have hn : ∀ i, i ≤ s.k → s.entsU i = [] := fun i => by
      induction i with
      | zero => intro _; rfl
      | succ i ih =>
        intro hi
        show s.entsU i ++ (s.U i).ents = []
        rw [ih (by omega), (h.pre (by omega)).2 i (by omega), new_ents]; rfl
    rw [e1, hn s.k (Nat.le_refl _)]
    show _ = 0 + (tabT s 0).lv
    rw [e2, ← ents_lv h.t]; simp
section
variable {w w' w0 : World} {a : Nat → Nat} {s : DuS} {tk : Bool} {E : Nat → Addr} {lp : Option Nat} {mt : MeterS}
set_option maxRecDepth 100000 in
set_option maxHeartbeats 8000000 in
theorem DuV.len (h : DuV w a s tk E w0) : Calls Tryz.prog 86 #[.pointer (some ⟨a 0, 0, none⟩)] w fun e w' => e = .returned (.int .i64 ((s.all s.k).length : Int)) ∧ Below w.heap.size w w' := by
  have hn3 : 1 ≤ tabN s ∧ tabN s ≤ 3 := by unfold tabN; have := h.ok.hk; split <;> omega
  rw [all_length h.ok]
  have HD := Lib.hid h
  have HB := Lib.hid (lvS_bd h.ok)
  have HG := Lib.hid (fun i => (tabT_good h.ok i).bounds)
  have TB := Lib.hid h.tables
  have LN := Lib.hid (fun (i : Nat) (w' : World) (h' : DuV w' a s tk E w0) => TMW.len (h'.tab i))
  clear h
  go_enter Tryz.func86, Tryz.ntmps86
  go_wp2_with (go_at_call 127; (with_reducible refine TB.out.mono ?_); rintro e w1 ⟨v, rfl, hr1, hb1⟩; obtain ⟨g1, cap1, cur1, rfl, hbg, hg1, hc1⟩ := row_ptrsG hr1 hn3.1; have HC := Lib.hid hc1; have HGL := Lib.hid hg1.lt; have B1 := Lib.hid hb1; have D1 := Lib.hid (HD.out.later hb1); clear hr1 hg1 hc1)
  go_loop [9, 3] (fun v9 v3 => ∃ j : Nat, j ≤ tabN s ∧ v9 = .int .i64 (j : Int) ∧ v3 = .int .i64 (lvS s j)) (fun v9 _ => tabN s - (intOf v9).toNat)
  case atStart => exact ⟨0, Nat.zero_le _, rfl, rfl⟩
  case round =>
    obtain ⟨j, hj, rfl, rfl⟩ := hrel
    by_cases hlt : j < tabN s
    · have hltI : (j : Int) < (tabN s : Int) := by omega
      have l0 := HC.out j hlt
      have zg := HGL.out
      have hb := HB.out j
      have hg := HG.out j
      have LJ := Lib.hid (LN.out j)
      have hst : lvS s (j + 1) = lvS s j + (tabT s j).lv := rfl
      have HST := Lib.hid hst
      clear hst
      generalize (tabT s j).lv = x at *
      generalize lvS s j = y at *
      have e1 : IntKind.i64.wrap (y + x) = y + x := by rw [IntKind.wrap_i64]; omega
      go_wp2_with (go_at_call 47; (with_reducible refine (LJ.out _ D1.out).mono ?_); rintro e w2 ⟨rfl, rfl⟩)
      go_round
      case rel => exact ⟨j + 1, by omega, by go_num, by rw [HST.out]⟩
      case measure => simp [intOf]; omega
    · obtain rfl : j = tabN s := by omega
      go_wp2
      go_ret
      exact ⟨rfl, B1.out⟩
end
end Go.Proofs.YtolhmibejhldkaaGreatDoor

namespace Go.Proofs.YtolhmibejhldkaaGreatDoor
open Go.RowKit Go.Proofs
attribute [local go_sem] neq_nilG eql_nilG
section
variable {w w' w0 : World} {a : Nat → Nat} {s : DuS} {tk : Bool} {E : Nat → Addr} {bcap fcap cap5 : Nat}
set_option maxRecDepth 100000 in
set_option maxHeartbeats 8000000 in
theorem DuB.take (h : DuB w a s bcap fcap cap5 false E w0) (hok : DuOK s) (hn : s.left = 0) : Calls Tryz.prog 56 #[.pointer (some ⟨a 0, 0, none⟩)] w fun e w' =>
    ∃ v, e = .returned (.tuple #[v, .nilIface]) ∧ w'.ownsRow w.heap.size 85 1 v s.k ((List.range s.k).map (fun i => Value.pointer (some ⟨a (8 + 3 * i), 0, none⟩))) ∧ DuB w' a s bcap fcap cap5 true E w0 ∧ Chg (fun b => b = a 0) w w' := by
  obtain ⟨i0, hi, hz0, hz1, hz2⟩ := info_parts infoPT
  have hk1 : 1 ≤ s.k ∧ s.k ≤ 2 := by rcases hok.hk with e | e <;> omega
  have HD := Lib.hid h
  have LF := Lib.hid (h.left hok)
  rw [hn] at LF
  have SETK := Lib.hid (fun (w' : World) (h' : DuB w' a s bcap fcap cap5 false E w0) => (show DuB (w'.setCell ⟨a 0, 5, none⟩ (.bool true)) a s bcap fcap cap5 true E w0 from by
    have hC : Chg (fun b => b = a 0) w' (w'.setCell ⟨a 0, 5, none⟩ (.bool true)) := (Chg.refl _ _).set1 _ _
    have hne : ∀ x, Used s.k true x → x ≠ 0 → ¬ a x = a 0 := fun x hx h0 e => h0 (h'.n.inj _ _ hx (.lt4 (by decide)) e)
    have h0 : ∀ b, b = a 0 → w0.heap.size ≤ b := fun b e => by rw [e]; exact h'.n.ge 0 (.lt4 (by decide))
    exact ⟨h'.hb, h'.hd.set 5 _, fun i hi => (hC.cell (p := ⟨a 3, i, none⟩) h'.bz (hne 3 (.lt4 (by decide)) (by decide))).trans (h'.bl i hi), Nat.lt_of_lt_of_le h'.bz hC.size,
      fun i hi => (h'.bb i hi).chg hC (hne _ (.of hi (by omega) (by omega)) (by omega)), fun i hi => (hC.cell (p := ⟨a 4, i, none⟩) h'.fz (hne 4 (.lt7 (by decide)) (by decide))).trans (h'.fl i hi), Nat.lt_of_lt_of_le h'.fz hC.size,
      h'.e.chg hC (hne 5 (.lt7 (by decide)) (by decide)) (hne 6 (.lt7 (by decide)) (by decide)), TMW.chg h'.t hC h0 (hne 1 (.lt4 (by decide)) (by decide)) (hne 2 (.lt4 (by decide)) (by decide)) (fun b e => by cases e),
      fun i hi => TMW.chg (h'.u i hi) hC h0 (hne _ (.of hi (by omega) (by omega)) (by omega)) (hne _ (.of hi (by omega) (by omega)) (by omega)) (fun b e => by cases e), h'.n⟩))
  have hz := h.hd.lt
  clear h hn
  go_enter Tryz.func56, Tryz.ntmps56
  go_upto_region 3 with (go_at_call 55; (with_reducible refine LF.out.mono ?_); rintro e w1 ⟨rfl, hb1⟩; have D1 := Lib.hid (HD.out.later hb1); have t1 := D1.out.hd.cell 5; have t0 := D1.out.hd.lt; have HB1 := Lib.hid hb1)
  have tf := fun j => D1.out.hd.frozen j
  go_upto_region 4 with (fail)
  refine wp_at (fun w2 hw2 => ?_)
  have D2 := Lib.hid (show DuB w2 a s bcap fcap cap5 true E w0 by rw [hw2]; exact SETK.out _ D1.out)
  have C2 := Lib.hid (show Chg (fun b => b = a 0) w w2 by rw [hw2]; exact (Chg.of_below HB1.out).trans ((Chg.refl _ _).set1 _ _))
  obtain ⟨c0, c1, c2, c3, c4, c5, zc⟩ := D2.out.cells
  have hzw := C2.out.size
  have FL := Lib.hid (show ∀ i, i < s.k → (w2.alloc (.cells #[] 85)).cell? ⟨a 4, 0 + i, none⟩ = some (.pointer (some ⟨a (8 + 3 * i), 0, none⟩)) from fun i hi => by
    rw [Nat.zero_add]; exact (((Below.refl w2.heap.size w2).alloc (Nat.le_refl _) _).cell (p := ⟨a 4, i, none⟩) D2.out.fz).trans (D2.out.fl i hi))
  replace hw2 := Lib.hid hw2
  clear t1 t0 tf D1 HB1 hb1
  go_wp2_with (at_builtin; refine wpList_append_own _ rfl _ _ 111 rfl w2.heap.size 85 i0 (.pointer none) 1 8 Tryz.underlying111 hi hz0 hz1 hz2 rfl (by decide) _ 0 [] rfl (ownsRow_empty (Blk.new w2 _ #[])) ⟨a 4, 0, none⟩ s.k fcap ((List.range s.k).map (fun i => Value.pointer (some ⟨a (8 + 3 * i), 0, none⟩))) rfl (by simp) (ptr_news (w := w2.alloc (.cells #[] 85)) (F := fun i => some ⟨a (8 + 3 * i), 0, none⟩) FL.out) (by simp [Value.oneCell']) (by unfold maxLen; omega) (by omega) (by simp) ?_; intro v' w4 hown4 hgrow4 _; have R4 := Lib.hid hown4; have B4 : Below w2.heap.size w2 w4 := Below.grown ((Below.refl _ _).alloc (Nat.le_refl _) _) hgrow4 (by simp) (fun k e => by cases e; exact Nat.le_refl _); have HB4 := Lib.hid B4; clear hown4 hgrow4)
  go_ret2
  refine ⟨_, rfl, ?_, D2.out.later HB4.out, C2.out.thenBelow HB4.out⟩
  have := ownsRow_base R4.out hzw
  simpa using this
end
end Go.Proofs.YtolhmibejhldkaaGreatDoor

namespace Go.Proofs.YtolhmibejhldkaaGreatDoor
open Go.RowKit Go.Proofs
attribute [local go_sem] neq_nilG eql_nilG
section
variable {w w' w0 : World} {V O Q G cap k : Nat} {TB R : Nat → Nat} {d next : Nat} {T : TabS} {U : Nat → TabS} {M : Nat} {mt : MeterS} {E : Nat → Addr}
end
end Go.Proofs.YtolhmibejhldkaaGreatDoor

namespace Go.Proofs.YtolhmibejhldkaaGreatDoor
open Go.RowKit Go.Proofs
attribute [local go_sem] neq_nilG eql_nilG
def DuX (a : Nat → Nat) (s : DuS) (b : Nat) : Prop := ∃ x, Used s.k (decide (s.bare = 0)) x ∧ b = a x
section
variable {w w' w0 : World} {a : Nat → Nat} {s : DuS} {tk : Bool} {E : Nat → Addr} {bcap fcap cap5 M : Nat} {mt : MeterS}
theorem DuB.ev (h : DuB w a s bcap fcap cap5 tk E w0) (hk : s.k = 1 ∨ s.k = 2) (hM : Blk w M 37 mt.cells) (hs : LensD (some M) a s.k true w0.heap.size) : EV w (a 5) (a 1) (a 2) (a 6) cap5 s.k (fun i => a (8 + 3 * i)) (fun i => a (9 + 3 * i)) s.d s.nx s.T s.U M mt E w0 := by
  have hm := hs M rfl
  have ge := h.n.ge
  refine ⟨h.e, h.t, h.u, hM, ⟨⟨ge 5 (.lt7 (by decide)), ge 1 (.lt4 (by decide)), ge 2 (.lt4 (by decide)), ge 6 (.lt7 (by decide)), hm.1⟩, ⟨h.n.ne (.lt7 (by decide)) (.lt4 (by decide)) (by decide), h.n.ne (.lt7 (by decide)) (.lt4 (by decide)) (by decide), h.n.ne (.lt7 (by decide)) (.lt7 (by decide)) (by decide), Ne.symm (hm.2 5 (.lt7 (by decide)))⟩,
    ⟨h.n.ne (.lt7 (by decide)) (.lt4 (by decide)) (by decide), h.n.ne (.lt7 (by decide)) (.lt4 (by decide)) (by decide), Ne.symm (hm.2 6 (.lt7 (by decide)))⟩, ⟨hm.2 1 (.lt4 (by decide)), hm.2 2 (.lt4 (by decide))⟩, fun i hi => ?_, fun i hi => ?_, fun i j hi hj hij => ?_⟩⟩
  · exact ⟨h.n.ne (.of hi (by omega) (by omega)) (.lt7 (by decide)) (by omega), h.n.ne (.of hi (by omega) (by omega)) (.lt7 (by decide)) (by omega), Ne.symm (hm.2 _ (.of hi (by omega) (by omega))), h.n.ne (.of hi (by omega) (by omega)) (.lt4 (by decide)) (by omega), h.n.ne (.of hi (by omega) (by omega)) (.lt4 (by decide)) (by omega)⟩
  · exact ⟨h.n.ne (.of hi (by omega) (by omega)) (.lt7 (by decide)) (by omega), h.n.ne (.of hi (by omega) (by omega)) (.lt7 (by decide)) (by omega), Ne.symm (hm.2 _ (.of hi (by omega) (by omega))), h.n.ne (.of hi (by omega) (by omega)) (.lt4 (by decide)) (by omega), h.n.ne (.of hi (by omega) (by omega)) (.lt4 (by decide)) (by omega)⟩
  · exact ⟨h.n.ne (.of hi (by omega) (by omega)) (.of hj (by omega) (by omega)) (by omega), h.n.ne (.of hi (by omega) (by omega)) (.of hj (by omega) (by omega)) (by omega), h.n.ne (.of hi (by omega) (by omega)) (.of hj (by omega) (by omega)) (by omega), h.n.ne (.of hi (by omega) (by omega)) (.of hj (by omega) (by omega)) (by omega)⟩
theorem DuB.moved {nx' : Nat} {T' : TabS} {U' : Nat → TabS} {mt' : MeterS} (h : DuB w a s bcap fcap cap5 tk E w0) (hs : LensD (some M) a s.k true w0.heap.size) (he : EV w' (a 5) (a 1) (a 2) (a 6) cap5 s.k (fun i => a (8 + 3 * i)) (fun i => a (9 + 3 * i)) s.d nx' T' U' M mt' E w0)
    (hc : Chg (fun b => b = M ∨ b = a 1 ∨ b = a 2 ∨ b = a 5 ∨ ∃ i, i < s.k ∧ (b = a (8 + 3 * i) ∨ b = a (9 + 3 * i))) w w') : DuB w' a { s with nx := nx', T := T', U := U' } bcap fcap cap5 tk E w0 := by
  have hm := (hs M rfl).2
  have hn : ∀ x, Used s.k true x → x ≠ 1 → x ≠ 2 → x ≠ 5 → (∀ i, i < s.k → x ≠ 8 + 3 * i ∧ x ≠ 9 + 3 * i) → ¬ (a x = M ∨ a x = a 1 ∨ a x = a 2 ∨ a x = a 5 ∨ ∃ i, i < s.k ∧ (a x = a (8 + 3 * i) ∨ a x = a (9 + 3 * i))) := fun x hx h1 h2 h5 hi e => by
    rcases e with e | e | e | e | ⟨i, hik, e | e⟩
    · exact hm x hx e.symm
    · exact h1 (h.n.inj _ _ hx (.lt4 (by decide)) e)
    · exact h2 (h.n.inj _ _ hx (.lt4 (by decide)) e)
    · exact h5 (h.n.inj _ _ hx (.lt7 (by decide)) e)
    · exact (hi i hik).1 (h.n.inj _ _ hx (.of hik (by omega) (by omega)) e)
    · exact (hi i hik).2 (h.n.inj _ _ hx (.of hik (by omega) (by omega)) e)
  exact ⟨h.hb, h.hd.chg hc (hn 0 (.lt4 (by decide)) (by decide) (by decide) (by decide) (fun i _ => by omega)), fun i hi => (hc.cell (p := ⟨a 3, i, none⟩) h.bz (hn 3 (.lt4 (by decide)) (by decide) (by decide) (by decide) (fun i _ => by omega))).trans (h.bl i hi), Nat.lt_of_lt_of_le h.bz hc.size,
    fun i hi => (h.bb i hi).chg hc (hn _ (.of hi (by omega) (by omega)) (by omega) (by omega) (by omega) (fun j _ => by omega)), fun i hi => (hc.cell (p := ⟨a 4, i, none⟩) h.fz (hn 4 (.lt7 (by decide)) (by decide) (by decide) (by decide) (fun i _ => by omega))).trans (h.fl i hi), Nat.lt_of_lt_of_le h.fz hc.size,
    he.e, he.t, he.u, h.n⟩
theorem duX_chg (h : DuB w a s bcap fcap cap5 tk E w0) : ∀ b, (b = M ∨ b = a 1 ∨ b = a 2 ∨ b = a 5 ∨ ∃ i, i < s.k ∧ (b = a (8 + 3 * i) ∨ b = a (9 + 3 * i))) → b = M ∨ DuX a s b := fun b e => by
  unfold DuX
  rw [decide_eq_true h.hb]
  rcases e with e | e | e | e | ⟨i, hi, e | e⟩
  · exact .inl e
  · exact .inr ⟨1, .lt4 (by decide), e⟩
  · exact .inr ⟨2, .lt4 (by decide), e⟩
  · exact .inr ⟨5, .lt7 (by decide), e⟩
  · exact .inr ⟨_, .of hi (by omega) (by omega), e⟩
  · exact .inr ⟨_, .of hi (by omega) (by omega), e⟩
set_option maxRecDepth 100000 in
theorem DuB.stepOk (h : DuB w a s bcap fcap cap5 tk E w0) (hok : DuOK s) (hM : Blk w M 37 mt.cells) (hs : LensD (some M) a s.k true w0.heap.size) (hl : mt.limited = false) (hn : s.nx < s.T.n) (hev : EvOk s.k s.d (entsL (s.T.M s.nx) (s.T.S s.nx)) s.U) :
    Calls Tryz.prog 54 #[.pointer (some ⟨a 0, 0, none⟩), .pointer (some ⟨M, 0, none⟩)] w fun e w' => e = .returned (.bool true) ∧ DuV w' a s.move tk E w0 ∧
      Blk w' M 37 (addN (mt.add 0 0 1) 0 1 0 (1 + (evF s.k s.d (entsL (s.T.M s.nx) (s.T.S s.nx)) (s.U, 0)).2)).cells ∧ Chg (fun b => b = M ∨ DuX a s b) w w' := by
  have hk : s.k = 1 ∨ s.k = 2 := by have := hok.hk; omega
  have HD := Lib.hid h
  have RD := Lib.hid h.ready
  have ST := Lib.hid (estep_ok (h.ev hk hM hs) hn hl hev)
  have MV := Lib.hid (fun (w2 : World) (mt' : MeterS) (he : EV w2 _ _ _ _ _ _ _ _ _ _ _ _ _ mt' E w0) (hc : Chg _ w w2) => (show DuV w2 a s.move tk E w0 ∧ Blk w2 M 37 mt'.cells ∧ Chg (fun b => b = M ∨ DuX a s b) w w2 from
    ⟨⟨hok.move h.hb hn, .inr ⟨_, _, _, h.moved hs he hc⟩⟩, he.m, hc.mono (fun b _ e => duX_chg h b e)⟩))
  obtain ⟨c0, c1, c2, c3, c4, c5, zc⟩ := h.cells
  clear h
  go_enter Tryz.func54, Tryz.ntmps54
  go_wp2_with (first
    | (go_at_call 106; (with_reducible refine RD.out.mono ?_); rintro e w1 ⟨rfl, rfl⟩)
    | (go_at_call 107; (with_reducible refine ST.out.mono ?_); rintro e w2 ⟨rfl, he2, hc2⟩; have F2 := Lib.hid (MV.out _ _ he2 hc2); clear he2 hc2))
  go_ret
  exact ⟨rfl, F2.out⟩
set_option maxRecDepth 100000 in
theorem DuB.stepNo (h : DuB w a s bcap fcap cap5 tk E w0) (hok : DuOK s) (hM : Blk w M 37 mt.cells) (hs : LensD (some M) a s.k true w0.heap.size) (hn : s.nx = s.T.n) :
    Calls Tryz.prog 54 #[.pointer (some ⟨a 0, 0, none⟩), .pointer (some ⟨M, 0, none⟩)] w fun e w' => e = .returned (.bool false) ∧ Below w.heap.size w w' := by
  have hk : s.k = 1 ∨ s.k = 2 := by have := hok.hk; omega
  have RD := Lib.hid h.ready
  have ST := Lib.hid (estep_no (h.ev hk hM hs) hn (some ⟨M, 0, none⟩))
  obtain ⟨c0, c1, c2, c3, c4, c5, zc⟩ := h.cells
  clear h
  go_enter Tryz.func54, Tryz.ntmps54
  go_wp2_with (first
    | (go_at_call 106; (with_reducible refine RD.out.mono ?_); rintro e w1 ⟨rfl, rfl⟩)
    | (go_at_call 107; (with_reducible refine ST.out.mono ?_); rintro e w2 ⟨rfl, -, hb2⟩; have B2 := Lib.hid hb2))
  go_ret
  exact ⟨rfl, B2.out⟩
end
end Go.Proofs.YtolhmibejhldkaaGreatDoor

namespace Go.Proofs.YtolhmibejhldkaaGreatDoor
open Go.RowKit Go.Proofs
attribute [local go_sem] neq_nilG eql_nilG
theorem mustT_ok (p : Option Addr) (w : World) : Calls Tryz.prog 157 #[.pointer p, .nilIface] w fun e w' => e = .returned (.pointer p) ∧ w = w' := by
  go_enter Tryz.func157, Tryz.ntmps157
  go_wp2_with (go_at_call 180; refine (raise_nil _).mono ?_; rintro e w' ⟨rfl, rfl⟩)
  go_ret
  exact ⟨rfl, rfl⟩
theorem mustV_ok (p : Option Addr) (w : World) : Calls Tryz.prog 159 #[.pointer p, .nilIface] w fun e w' => e = .returned (.pointer p) ∧ w = w' := by
  go_enter Tryz.func159, Tryz.ntmps159
  go_wp2_with (go_at_call 180; refine (raise_nil _).mono ?_; rintro e w' ⟨rfl, rfl⟩)
  go_ret
  exact ⟨rfl, rfl⟩
structure DuG (w : World) (a : Nat → Nat) (s : DuS) (bcap j : Nat) (vf : Value) (tk : Bool) (base : Nat) (E : Nat → Addr) (w0 : World) : Prop where
  hd : Blk w (a 0) 165 #[.pointer (some ⟨a 1, 0, none⟩), .int .i64 (s.d : Int), .slice (some ⟨a 3, 0, none⟩) s.k bcap, vf, .pointer none, .bool tk]
  bl : ∀ i, i < s.k → w.cell? ⟨a 3, i, none⟩ = some (.pointer (some ⟨a (7 + 3 * i), 0, none⟩))
  bz : a 3 < w.heap.size
  bd : ∀ i, i < j → Blk w (a (7 + 3 * i)) 211 #[.pointer none, .int .i64 (s.gn : Int), .int .i64 (s.gn : Int)]
  tt : ∀ i, i < j → TN w (a (8 + 3 * i)) (a (9 + 3 * i)) (TabS.new s.gn) E w0
  bw : ∀ i, j ≤ i → i < s.k → BW w (a (7 + 3 * i)) (a (8 + 3 * i)) (a (9 + 3 * i)) s.gn s.gn false
  t : TN w (a 1) (a 2) s.T E w0
  r : w.ownsRow base 85 1 vf j ((List.range j).map (fun i => Value.pointer (some ⟨a (8 + 3 * i), 0, none⟩)))
  n : DuN a s.k false w0.heap.size
  lt : ∀ x, Used s.k false x → a x < base
  ge : base ≤ w.heap.size
  hj : j ≤ s.k
section
variable {w w' w0 : World} {a : Nat → Nat} {s : DuS} {tk : Bool} {E : Nat → Addr} {bcap j base : Nat} {vf v5 : Value}
theorem DuG.later (h : DuG w a s bcap j vf tk base E w0) (hb : Below w.heap.size w w') : DuG w' a s bcap j vf tk base E w0 :=
  ⟨h.hd.below hb h.hd.lt, fun i hi => (hb.cell (p := ⟨a 3, i, none⟩) h.bz).trans (h.bl i hi), Nat.lt_of_lt_of_le h.bz hb.size, fun i hi => (h.bd i hi).below hb (h.bd i hi).lt, fun i hi => (h.tt i hi).later hb, fun i h1 h2 => (h.bw i h1 h2).later hb, h.t.later hb, ownsRow_later h.r hb, h.n, h.lt, Nat.le_trans h.ge hb.size, h.hj⟩
theorem DuG.step (h : DuG w a s bcap j vf tk base E w0) (hjk : j < s.k) (hc : Chg (fun b => b = a (7 + 3 * j) ∨ base ≤ b) w w') (hD : Blk w' (a (7 + 3 * j)) 211 #[.pointer none, .int .i64 (s.gn : Int), .int .i64 (s.gn : Int)]) (ht : TS w' (a (8 + 3 * j)) (a (9 + 3 * j)) (TabS.new s.gn)) (hr : rightB (s.gn : Int) = true)
    (hrow : w'.ownsRow base 85 1 v5 (j + 1) ((List.range (j + 1)).map (fun i => Value.pointer (some ⟨a (8 + 3 * i), 0, none⟩)))) : DuG (w'.setCell ⟨a 0, 3, none⟩ v5) a s bcap (j + 1) v5 tk base E w0 := by
  have hn : ∀ x, Used s.k false x → x ≠ 7 + 3 * j → ¬ (a x = a (7 + 3 * j) ∨ base ≤ a x) := fun x hx hne e => by
    rcases e with e | e
    · exact hne (h.n.inj _ _ hx (.of hjk (by omega) (by omega)) e)
    · have := h.lt x hx; omega
  have hC : Chg (fun b => b = a 0) w' (w'.setCell ⟨a 0, 3, none⟩ v5) := (Chg.refl _ _).set1 _ _
  have h0 : ∀ x, Used s.k false x → x ≠ 0 → ¬ a x = a 0 := fun x hx hne e => hne (h.n.inj _ _ hx (.lt4 (by decide)) e)
  have hge0 : ∀ b, (b = a (7 + 3 * j) ∨ base ≤ b) → w0.heap.size ≤ b := fun b e => by
    have h1 := h.n.ge (7 + 3 * j) (.of hjk (by omega) (by omega))
    have h2 := h.n.ge 0 (.lt4 (by decide))
    have h3 := h.lt 0 (.lt4 (by decide))
    omega
  have hge1 : ∀ b, b = a 0 → w0.heap.size ≤ b := fun b e => by rw [e]; exact h.n.ge 0 (.lt4 (by decide))
  have tn : ∀ (x y : Nat) (T : TabS), Used s.k false x → Used s.k false y → x ≠ 0 → y ≠ 0 → x ≠ 7 + 3 * j → y ≠ 7 + 3 * j → TN w (a x) (a y) T E w0 → TN (w'.setCell ⟨a 0, 3, none⟩ v5) (a x) (a y) T E w0 := fun x y T hx hy x0 y0 x7 y7 hT =>
    TMW.chg (TMW.chg hT hc hge0 (hn x hx x7) (hn y hy y7) (fun b e => by cases e)) hC hge1 (h0 x hx x0) (h0 y hy y0) (fun b e => by cases e)
  have hold := tn 1 2 s.T (.lt4 (by decide)) (.lt4 (by decide)) (by decide) (by decide) (by omega) (by omega) h.t
  refine ⟨(h.hd.chg hc (hn 0 (.lt4 (by decide)) (by omega))).set 3 _, fun i hi => ?_, ?_, fun i hi => ?_, fun i hi => ?_, fun i h1 h2 => ?_, hold, ?_, h.n, h.lt, ?_, hjk⟩
  · exact ((hC.cell (p := ⟨a 3, i, none⟩) (Nat.lt_of_lt_of_le h.bz hc.size) (h0 3 (.lt4 (by decide)) (by decide))).trans (hc.cell (p := ⟨a 3, i, none⟩) h.bz (hn 3 (.lt4 (by decide)) (by omega)))).trans (h.bl i hi)
  · exact Nat.lt_of_lt_of_le (Nat.lt_of_lt_of_le h.bz hc.size) hC.size
  · by_cases e : i = j
    · subst e; exact hD.chg hC (h0 _ (.of hjk (by omega) (by omega)) (by omega))
    · exact ((h.bd i (by omega)).chg hc (hn _ (.of (show i < s.k by omega) (by omega) (by omega)) (by omega))).chg hC (h0 _ (.of (show i < s.k by omega) (by omega) (by omega)) (by omega))
  · by_cases e : i = j
    · subst e
      refine ⟨ht.chg hC (h0 _ (.of hjk (by omega) (by omega)) (by omega)) (h0 _ (.of hjk (by omega) (by omega)) (by omega)), TGood.new hr, (fun M e => by cases e), hold.low, hold.bel, h.n.ge _ (.of hjk (by omega) (by omega)), h.n.ge _ (.of hjk (by omega) (by omega)), LensOk.none _ _ _⟩
    · exact tn _ _ _ (.of (show i < s.k by omega) (by omega) (by omega)) (.of (show i < s.k by omega) (by omega) (by omega)) (by omega) (by omega) (by omega) (by omega) (h.tt i (by omega))
  · exact ((h.bw i (by omega) h2).chg hc (hn _ (.of h2 (by omega) (by omega)) (by omega)) (hn _ (.of h2 (by omega) (by omega)) (by omega)) (hn _ (.of h2 (by omega) (by omega)) (by omega))).chg hC (h0 _ (.of h2 (by omega) (by omega)) (by omega)) (h0 _ (.of h2 (by omega) (by omega)) (by omega)) (h0 _ (.of h2 (by omega) (by omega)) (by omega))
  · exact ownsRow_chgB hrow hC (fun b hb e => by have h1 := (hrow.lt b hb).1; have h2 := h.lt 0 (.lt4 (by decide)); omega)
  · exact Nat.le_trans (Nat.le_trans h.ge hc.size) hC.size
set_option maxRecDepth 100000 in
set_option maxHeartbeats 16000000 in
theorem begin_any (h : DuG w a s bcap 0 (.slice none 0 0) tk w.heap.size E w0) (hk : s.k = 1 ∨ (s.k = 2 ∧ s.d ≤ 15)) (hr : rightB (s.gn : Int) = true) (hU : ∀ i, i < s.k → s.U i = TabS.new s.gn) (hx : s.nx = 0) (hb : s.bare = 0) :
    Calls Tryz.prog 110 #[.pointer (some ⟨a 0, 0, none⟩)] w fun e w' => e = .returned (.tuple #[]) ∧ ∃ (a' : Nat → Nat) (fcap cap5 : Nat), DuB w' a' s bcap fcap cap5 tk E w0 ∧ (∀ x, Used s.k false x → a' x = a x) ∧ (∀ x, 4 ≤ x → x < 7 → w.heap.size ≤ a' x) ∧ Chg (fun b => ∃ x, Used s.k false x ∧ b = a x) w w' := by
  obtain ⟨i0, hi, hz0, hz1, hz2⟩ := info_parts infoPT
  have hk1 : 1 ≤ s.k ∧ s.k ≤ 2 := by rcases hk with e | e <;> omega
  have HG := Lib.hid h
  have HR := Lib.hid hr
  have HK := Lib.hid hk
  have HU := Lib.hid hU
  have HXB := Lib.hid (show s.nx = 0 ∧ s.bare = 0 from ⟨hx, hb⟩)
  have c2 := h.hd.cell 2
  have zc := h.hd.lt
  clear h hk hr hU hx hb
  go_enter Tryz.func110, Tryz.ntmps110
  go_wp2
  go_loopw [9] (fun v9 wr => ∃ (j : Nat) (vf : Value), j ≤ s.k ∧ v9 = .int .i64 (j : Int) ∧ DuG wr a s bcap j vf tk w.heap.size E w0 ∧ Chg (fun b => ∃ x, Used s.k false x ∧ b = a x) w wr) (fun v9 _ => s.k - (intOf v9).toNat)
  case atStart => exact ⟨0, _, Nat.zero_le _, rfl, HG.out, Chg.refl _ _⟩
  case round =>
    clear c2 zc
    obtain ⟨j, vf, hj, rfl, hG, hC⟩ := hrel
    have KG := Lib.hid hG
    have KC := Lib.hid hC
    have hwz := hC.size
    clear hG hC
    by_cases hlt : j < s.k
    · have hltI : (j : Int) < (s.k : Int) := by omega
      have l0 := KG.out.bl j hlt
      have zb := KG.out.bz
      have d3 := KG.out.hd.cell 3
      have zd := KG.out.hd.lt
      have hal : ∀ x, Used s.k false x → a x < w.heap.size := KG.out.lt
      have h7 : a (7 + 3 * j) < w.heap.size := hal _ (.of hlt (by omega) (by omega))
      have h00 : a 0 < w.heap.size := hal 0 (.lt4 (by decide))
      have h07 : ¬ a 0 = a (7 + 3 * j) := KG.out.n.ne (.lt4 (by decide)) (.of hlt (by omega) (by omega)) (by omega)
      have hX0 : ¬ (a 0 = a (7 + 3 * j) ∨ w.heap.size ≤ a 0) := by omega
      have TK := Lib.hid (fun (w' : World) (h' : BW w' (a (7 + 3 * j)) (a (8 + 3 * j)) (a (9 + 3 * j)) s.gn s.gn false) => btake_ok _ _ _ _ w' h')
      have HAL := Lib.hid hal
      clear hal
      go_upto_region 3 with (fail)
      refine wp_region_seq (fun b => b = a (7 + 3 * j) ∨ w.heap.size ≤ b) #[⟨0, 0, 8192, 1, 0⟩, ⟨0, 0, 16384, 1, 0⟩, ⟨2, 2, 32768, 16384, 0⟩, ⟨4, 6, 65536, 32768, 0⟩, ⟨8, 14, 131072, 65536, 1⟩, ⟨0, 0, 262144, 8, 0⟩, ⟨32, 32, 524288, 262144, 2⟩, ⟨64, 96, 1048576, 524288, 0⟩, ⟨64, 96, 2097152, 524288, 0⟩, ⟨448, 480, 4194304, 3145728, 2⟩, ⟨512, 992, 8388608, 4194304, 2⟩, ⟨1552, 2046, 16777216, 8519680, 3⟩, ⟨4095, 4095, 33554432, 8192, 0⟩, ⟨8191, 8191, 67108864, 33554432, 0⟩, ⟨12287, 16383, 0, 83886080, 3⟩] 16 [(0, 0), (1, 0), (2, 0), (3, 0), (4, 1), (5, 0), (6, 2), (7, 0), (8, 0), (9, 2), (10, 2), (11, 3), (12, 0), (13, 0), (14, 3)] (by kernel_rfl) (by kernel_rfl) (by kernel_rfl) (by kernel_rfl) (by kernel_rfl) (by kernel_rfl) (fun c a d v w h => by cases d <;> exact h) ?_
      refine zqC ?_; refine zqC ?_; refine zqC ?_; refine zqC ?_
      refine zq1 Tryz.underlying111 ?_
      try refine zqP ?_; refine zqC ?_
      refine zqD fun K hK => ?_; go_wp2_with (first | (go_at_call 158; (with_reducible refine (TK.out _ ((KG.out.bw j (Nat.le_refl _) hlt).later (Below.refl _ _).drew)).mono ?_); rintro e w3 ⟨rfl, hb3, ht3, hc3⟩; have HB3 := Lib.hid hb3; have HT3 := Lib.hid ht3; have HC3 := Lib.hid hc3.undrew; have hcx3 : Chg (fun b => b = a (7 + 3 * j) ∨ w.heap.size ≤ b) _ w3 := hc3.mono (fun _ _ e => .inl e); have z3 : wr.heap.size ≤ w3.heap.size := hc3.size; have RW3 := Lib.hid (ownsRow_chgB KG.out.r hc3.undrew (fun b hb e => by have h1 := (KG.out.r.lt b hb).1; omega)); have H3 := Lib.hid (KG.out.hd.chg hc3.undrew h07); clear hb3 ht3) | (go_at_call 157; (with_reducible refine (mustT_ok _ _).mono ?_); rintro e w4 ⟨rfl, rfl⟩)); refine hkA hK (h := ?_); clear hK K
      try refine zqP ?_; refine zqC ?_; refine zqC ?_
      refine zqD fun K hK => ?_; go_wp2_with (first | (go_at_call 158; (with_reducible refine (TK.out _ ((KG.out.bw j (Nat.le_refl _) hlt).later (Below.refl _ _).drew)).mono ?_); rintro e w3 ⟨rfl, hb3, ht3, hc3⟩; have HB3 := Lib.hid hb3; have HT3 := Lib.hid ht3; have HC3 := Lib.hid hc3.undrew; have hcx3 : Chg (fun b => b = a (7 + 3 * j) ∨ w.heap.size ≤ b) _ w3 := hc3.mono (fun _ _ e => .inl e); have z3 : wr.heap.size ≤ w3.heap.size := hc3.size; have RW3 := Lib.hid (ownsRow_chgB KG.out.r hc3.undrew (fun b hb e => by have h1 := (KG.out.r.lt b hb).1; omega)); have H3 := Lib.hid (KG.out.hd.chg hc3.undrew h07); clear hb3 ht3) | (go_at_call 157; (with_reducible refine (mustT_ok _ _).mono ?_); rintro e w4 ⟨rfl, rfl⟩)); refine hkA hK (h := ?_); clear hK K
      try refine zqP ?_
      refine zqD fun K hK => ?_; go_wp2_with (fail); refine hkA hK (h := ?_); clear hK K
      try refine zqP ?_
      refine zqE fun K hK => ?_; (refine wp_append_own2 _ _ 111 rfl w.heap.size 85 i0 (.pointer none) 1 8 Tryz.underlying111 hi hz0 hz1 hz2 rfl (by decide) _ j _ rfl (ownsRow_later RW3.out ((Below.refl _ _).alloc (Nat.le_refl _) _)) ⟨w3.heap.size, 0, none⟩ 1 1 [.pointer (some ⟨a (8 + 3 * j), 0, none⟩)] rfl rfl (cell1_new w3 _ _) (by simp [Value.oneCell']) (by unfold maxLen; omega) (by omega) (by simp; omega) (by decide) ?_; intro v5 w5 hown5 hgrow5 _; obtain ⟨g5, gcap5, rfl⟩ := ownsRow_succ hown5; have G5 := Lib.hid (Chg.of_grown hgrow5); have R5 := Lib.hid hown5; have hcx5 : Chg (fun b => b = a (7 + 3 * j) ∨ w.heap.size ≤ b) _ w5 := G5.out.mono (fun b _ e => .inr (RW3.out.lt b e).1); have H5 := Lib.hid ((H3.out.alloc _).chg G5.out (fun e => by have := (RW3.out.lt _ e).1; omega)); have d5 := H5.out.cell 3; have zd5 := H5.out.lt; have fd5 := fun j => H5.out.frozen j; clear hown5 hgrow5); refine hK.out _ _ ?_; clear hK K
      try refine zqP ?_; refine zqC ?_; refine zqC ?_
      refine zqE fun K hK => ?_; go_wp2_with (fail); refine hK.out _ _ ?_; clear hK K
      try refine zqP ?_
      refine seq_nil ?_
      go_wp2
      have hn5 : ∀ x, Used s.k false x → ¬ Value.ownBlock vf = some (a x) := fun x hx e => by have h1 := (RW3.out.lt _ e).1; have h2 := HAL.out x hx; omega
      have hcc : Chg (fun b => b = a (7 + 3 * j) ∨ w.heap.size ≤ b) wr w5 := ((HC3.out.mono (fun _ _ e => .inl e)).alloc _).trans (G5.out.mono (fun b _ e => .inr (RW3.out.lt b e).1))
      have hBD : Blk w5 (a (7 + 3 * j)) 211 #[.pointer none, .int .i64 (s.gn : Int), .int .i64 (s.gn : Int)] := by
        have h1 := HB3.out.b
        rw [if_pos rfl] at h1
        exact (h1.alloc _).chg G5.out (hn5 _ (.of hlt (by omega) (by omega)))
      have hTT : TS w5 (a (8 + 3 * j)) (a (9 + 3 * j)) (TabS.new s.gn) := (HT3.out.later ((Below.refl _ _).alloc (Nat.le_refl _) _)).chg G5.out (hn5 _ (.of hlt (by omega) (by omega))) (hn5 _ (.of hlt (by omega) (by omega)))
      have hRR := R5.out
      rw [show (List.range j).map (fun i => Value.pointer (some ⟨a (8 + 3 * i), 0, none⟩)) ++ [Value.pointer (some ⟨a (8 + 3 * j), 0, none⟩)] = (List.range (j + 1)).map (fun i => Value.pointer (some ⟨a (8 + 3 * i), 0, none⟩)) from by rw [List.range_succ, List.map_append]; rfl] at hRR
      have SG := Lib.hid (KG.out.step hlt hcc hBD hTT HR.out hRR)
      have SC := Lib.hid ((KC.out.trans' hcc (fun b hb e => by
        rcases e with e | e
        · exact ⟨_, .of hlt (by omega) (by omega), e⟩
        · omega)).trans ((((Chg.refl (fun b => b = a 0) w5).set1 3 (.slice (some ⟨g5, 0, none⟩) (j + 1) gcap5))).mono (fun b _ e => (⟨0, .lt4 (by decide), e⟩ : ∃ x, Used s.k false x ∧ b = a x))))
      clear hcc hBD hTT hRR hn5
      go_roundw
      case rel => exact ⟨j + 1, _, by omega, by go_num, SG.out, SC.out⟩
      case measure => simp [intOf]; omega
    · obtain rfl : j = s.k := by omega
      obtain ⟨g, gcap, cur, rfl, hbg, hgB, hcell⟩ := row_ptrsG KG.out.r (by omega)
      have hgz := hgB.lt
      have HPW := Lib.hid (show ∀ w', Below wr.heap.size wr w' → PtrRow w' (some ⟨g, 0, none⟩) s.k (fun i => some ⟨a (8 + 3 * i), 0, none⟩) from fun w' hb h0 => ⟨g, 0, rfl, Nat.lt_of_lt_of_le hgz hb.size, fun i hi => by rw [Nat.zero_add]; exact (hb.cell (p := ⟨g, i, none⟩) hgz).trans (hcell i hi)⟩)
      have HCL := Lib.hid hcell
      have EN := Lib.hid (fun (w' : World) (h' : PtrRow w' (some ⟨g, 0, none⟩) s.k (fun i => some ⟨a (8 + 3 * i), 0, none⟩)) => evnew_ok (a 1) s.d (some ⟨g, 0, none⟩) s.k gcap (fun i => a (8 + 3 * i)) HK.out w' h')
      have d0 := KG.out.hd.cell 0
      have d1 := KG.out.hd.cell 1
      have d3 := KG.out.hd.cell 3
      have zd := KG.out.hd.lt
      clear hcell hgB
      go_upto_region 5 with (fail)
      refine wp_region_seq (fun _ => False) #[⟨0, 0, 268435456, 1, 0⟩, ⟨0, 0, 536870912, 1, 0⟩, ⟨2, 2, 1073741824, 536870912, 0⟩, ⟨4, 6, 2147483648, 1073741824, 0⟩, ⟨8, 14, 4294967296, 2147483648, 1⟩, ⟨0, 0, 8589934592, 1, 0⟩, ⟨32, 32, 17179869184, 8589934592, 0⟩, ⟨64, 96, 34359738368, 17179869184, 0⟩, ⟨128, 224, 68719476736, 34359738368, 1⟩, ⟨0, 0, 137438953472, 1, 0⟩, ⟨512, 512, 274877906944, 137438953472, 0⟩, ⟨1024, 1536, 549755813888, 274877906944, 0⟩, ⟨2048, 3584, 1099511627776, 549755813888, 1⟩, ⟨4368, 8190, 2199023255552, 1172526071808, 3⟩, ⟨8192, 16382, 4398046511104, 2199023255552, 0⟩, ⟨8192, 16382, 8796093022208, 2199023255552, 0⟩, ⟨57344, 65534, 17592186044416, 13194139533312, 3⟩, ⟨131071, 131071, 35184372088832, 268435456, 0⟩, ⟨262143, 262143, 70368744177664, 35184372088832, 0⟩, ⟨393215, 524287, 0, 87960930222080, 3⟩] 4368 [(0, 0), (1, 0), (2, 0), (3, 0), (4, 1), (5, 0), (6, 0), (7, 0), (8, 1), (9, 0), (10, 0), (11, 0), (12, 1), (13, 3), (14, 0), (15, 0), (16, 3), (17, 0), (18, 0), (19, 3)] (by kernel_rfl) (by kernel_rfl) (by kernel_rfl) (by kernel_rfl) (by kernel_rfl) (by kernel_rfl) (fun c a d v w h => by cases d <;> exact h) ?_
      refine zqC ?_; refine zqC ?_; refine zqC ?_; refine zqC ?_
      refine zq1 Tryz.underlying85 ?_
      try refine zqP ?_; refine zqC ?_; refine zqC ?_; refine zqC ?_
      refine zq1 Tryz.underlying3 ?_
      try refine zqP ?_; refine zqC ?_; refine zqC ?_; refine zqC ?_
      refine zq1 Tryz.underlying111 ?_
      try refine zqP ?_
      refine zqE fun K hK => ?_; go_wp2_with (first | (go_at_call 160; ((with_reducible refine (EN.out _ (HPW.out _ (Below.refl _ _).drew)).mono ?_); rintro e w2 ⟨V, G6, cap6, rfl, hV, hG6, he2, hVG, hb2⟩; have HE2 := Lib.hid he2; have HB2 := Lib.hid (Below.undrew hb2); have G2 := Lib.hid (KG.out.later (Below.undrew hb2)); have d24 := G2.out.hd.cell 4; have zd2 := G2.out.hd.lt; have fd2 := fun j => G2.out.hd.frozen j; have hVz := he2.b.lt; have hGz := he2.lt)) | (go_at_call 159; (with_reducible refine (mustV_ok _ _).mono ?_); rintro e w4 ⟨rfl, rfl⟩)); refine hK.out _ _ ?_; clear hK K
      try refine zqP ?_; refine zqC ?_; refine zqC ?_
      refine zqE fun K hK => ?_; go_wp2_with (first | (go_at_call 160; ((with_reducible refine (EN.out _ (HPW.out _ (Below.refl _ _).drew)).mono ?_); rintro e w2 ⟨V, G6, cap6, rfl, hV, hG6, he2, hVG, hb2⟩; have HE2 := Lib.hid he2; have HB2 := Lib.hid (Below.undrew hb2); have G2 := Lib.hid (KG.out.later (Below.undrew hb2)); have d24 := G2.out.hd.cell 4; have zd2 := G2.out.hd.lt; have fd2 := fun j => G2.out.hd.frozen j; have hVz := he2.b.lt; have hGz := he2.lt)) | (go_at_call 159; (with_reducible refine (mustV_ok _ _).mono ?_); rintro e w4 ⟨rfl, rfl⟩)); refine hK.out _ _ ?_; clear hK K
      try refine zqP ?_; refine zqC ?_; refine zqC ?_
      refine zqE fun K hK => ?_; go_wp2_with (fail); refine hK.out _ _ ?_; clear hK K
      try refine zqP ?_
      refine seq_nil ?_
      go_wp2
      refine wp_end_at (fun Wf hWf => ?_)
      have hC : Chg (fun b => b = a 0) w2 Wf := by rw [hWf]; exact (Chg.refl _ _).set1 _ _
      have hd : Blk Wf (a 0) 165 #[.pointer (some ⟨a 1, 0, none⟩), .int .i64 (s.d : Int), .slice (some ⟨a 3, 0, none⟩) s.k bcap, .slice (some ⟨g, 0, none⟩) s.k gcap, .pointer (some ⟨V, 0, none⟩), .bool tk] := by rw [hWf]; exact G2.out.hd.set 4 _
      have hz2 : wr.heap.size ≤ w2.heap.size := HB2.out.size
      have hV' : wr.heap.size ≤ V := hV
      have hG6' : wr.heap.size ≤ G6 := hG6
      have hal : ∀ x, Used s.k false x → a x < w.heap.size := KG.out.lt
      have hge : ∀ x, Used s.k false x → w0.heap.size ≤ a x := KG.out.n.ge
      have h0 : ∀ x, Used s.k false x → x ≠ 0 → ¬ a x = a 0 := fun x hx hne e => hne (KG.out.n.inj _ _ hx (.lt4 (by decide)) e)
      have hge1 : ∀ b, b = a 0 → w0.heap.size ≤ b := fun b e => by rw [e]; exact hge 0 (.lt4 (by decide))
      have h00 : a 0 < w.heap.size := hal 0 (.lt4 (by decide))
      obtain ⟨a', e4, e5, e6, hs⟩ : ∃ a' : Nat → Nat, a' 4 = g ∧ a' 5 = V ∧ a' 6 = G6 ∧ ∀ x, (x < 4 ∨ 7 ≤ x) → a' x = a x := ⟨fun x => if x = 4 then g else if x = 5 then V else if x = 6 then G6 else a x, rfl, rfl, rfl, fun x hx => by
        dsimp only
        rw [if_neg (by omega), if_neg (by omega), if_neg (by omega)]⟩
      have hsu : ∀ x, Used s.k false x → a' x = a x := fun x hx => hs x (by rcases hx with e | ⟨e, -⟩ | ⟨e, -⟩; exact .inl e; cases e; exact .inr e)
      have hut : ∀ x, Used s.k true x → Used s.k false x ∨ x = 4 ∨ x = 5 ∨ x = 6 := fun x hx => by
        rcases hx with e | ⟨-, e⟩ | e
        · exact .inl (.inl e)
        · by_cases c : x < 4
          · exact .inl (.inl c)
          · exact .inr (by omega)
        · exact .inl (.inr (.inr e))
      refine bodyPost_end (results_none rfl _ _ _) rfl ⟨rfl, a', gcap, cap6, ⟨HXB.out.2, ?_, fun i hi => ?_, ?_, fun i hi => ?_, fun i hi => ?_, ?_, ?_, ?_, fun i hi => ?_, ⟨fun x y hx hy e => ?_, fun x hx => ?_⟩⟩, hsu, fun x h1 h2 => ?_, ?_⟩
      · rw [hs 0 (by omega), hs 1 (by omega), hs 3 (by omega), e4, e5]; exact hd
      · rw [hs 3 (by omega), hs _ (by omega)]
        exact (hC.cell (p := ⟨a 3, i, none⟩) G2.out.bz (h0 3 (.lt4 (by decide)) (by decide))).trans (G2.out.bl i hi)
      · rw [hs 3 (by omega)]; exact Nat.lt_of_lt_of_le G2.out.bz hC.size
      · rw [hs _ (by omega)]; exact (G2.out.bd i hi).chg hC (h0 _ (.of hi (by omega) (by omega)) (by omega))
      · rw [e4, hs _ (by omega)]
        exact ((hC.cell (p := ⟨g, i, none⟩) (Nat.lt_of_lt_of_le hgz hz2) (show ¬ g = a 0 by omega)).trans (HB2.out.cell (p := ⟨g, i, none⟩) hgz)).trans (HCL.out i hi)
      · rw [e4]; have := hC.size; omega
      · rw [e5, e6, hs 1 (by omega), show (fun i => a' (8 + 3 * i)) = (fun i => a (8 + 3 * i)) from funext fun i => hs _ (by omega), HXB.out.1]
        exact HE2.out.chg hC (by omega) (by omega)
      · rw [hs 1 (by omega), hs 2 (by omega)]
        exact TMW.chg G2.out.t hC hge1 (h0 1 (.lt4 (by decide)) (by decide)) (h0 2 (.lt4 (by decide)) (by decide)) (fun b e => by cases e)
      · rw [hs _ (by omega), hs _ (by omega), HU.out i hi]
        exact TMW.chg (G2.out.tt i hi) hC hge1 (h0 _ (.of hi (by omega) (by omega)) (by omega)) (h0 _ (.of hi (by omega) (by omega)) (by omega)) (fun b e => by cases e)
      · rcases hut x hx with hx' | hx' | hx' | hx' <;> rcases hut y hy with hy' | hy' | hy' | hy'
        · rw [hsu x hx', hsu y hy'] at e; exact KG.out.n.inj x y hx' hy' e
        all_goals (try (have q1 := hal x hx'; rw [hsu x hx'] at e)); (try (have q2 := hal y hy'; rw [hsu y hy'] at e)); (try subst hx'); (try subst hy'); (try rw [e4] at e); (try rw [e5] at e); (try rw [e6] at e); (try omega)
      · rcases hut x hx with hx' | hx' | hx' | hx'
        · rw [hsu x hx']; exact hge x hx'
        · have q := hge 0 (.lt4 (by decide)); subst hx'; rw [e4]; omega
        · have q := hge 0 (.lt4 (by decide)); subst hx'; rw [e5]; omega
        · have q := hge 0 (.lt4 (by decide)); subst hx'; rw [e6]; omega
      · obtain rfl | rfl | rfl : x = 4 ∨ x = 5 ∨ x = 6 := by omega
        · rw [e4]; exact hbg
        · rw [e5]; omega
        · rw [e6]; omega
      · exact (KC.out.thenBelow HB2.out).trans (hC.mono (fun b _ e => (⟨0, .lt4 (by decide), e⟩ : ∃ x, Used s.k false x ∧ b = a x)))
end
end Go.Proofs.YtolhmibejhldkaaGreatDoor

namespace Go.Proofs.YtolhmibejhldkaaGreatDoor
open Go.RowKit Go.Proofs
attribute [local go_sem] neq_nilG eql_nilG
def prN (k gn bare i : Nat) : Nat := min gn (k * gn - bare - i * gn)
theorem prep_pr (s : DuS) (i : Nat) : s.prep.pr i = prN s.k s.gn (s.bare - 1) i := rfl
theorem prN_step {k gn bare j : Nat} (hk : k = 1 ∨ k = 2) (h0 : 0 < bare) (hb : bare ≤ k * gn) (hj : j < k) (hp : ∀ i, i < j → prN k gn bare i = gn) (hl : prN k gn bare j < gn) :
    (∀ i, i < k → prN k gn (bare - 1) i = if i = j then prN k gn bare j + 1 else prN k gn bare i) ∧ (bare = 1 → j = k - 1) ∧ (j = k - 1 → gn - (prN k gn bare j + 1) = bare - 1) := by
  unfold prN at *
  rcases hk with rfl | rfl
  · obtain rfl : j = 0 := by omega
    refine ⟨fun i hi => ?_, fun _ => rfl, fun _ => ?_⟩
    · obtain rfl : i = 0 := by omega
      rw [if_pos rfl]; omega
    · omega
  · have hj' : j = 0 ∨ j = 1 := by omega
    rcases hj' with rfl | rfl
    · refine ⟨fun i hi => ?_, fun e => by omega, fun e => by omega⟩
      have hi' : i = 0 ∨ i = 1 := by omega
      rcases hi' with rfl | rfl
      · rw [if_pos rfl]; omega
      · rw [if_neg (by decide)]; omega
    · have h1 := hp 0 (by decide)
      refine ⟨fun i hi => ?_, fun _ => rfl, fun _ => by omega⟩
      have hi' : i = 0 ∨ i = 1 := by omega
      rcases hi' with rfl | rfl
      · rw [if_neg (by decide)]; omega
      · rw [if_pos rfl]; omega
theorem prN_end {k gn bare : Nat} (hk : k = 1 ∨ k = 2) (h0 : 0 < bare) (hb : bare ≤ k * gn) : ¬ ∀ i, i < k → prN k gn bare i = gn := fun h => by
  unfold prN at h
  rcases hk with rfl | rfl
  · have := h 0 (by decide); omega
  · have h1 := h 0 (by decide); have h2 := h 1 (by decide); omega
theorem prN_full {k gn : Nat} (hk : k = 1 ∨ k = 2) {i : Nat} (hi : i < k) : prN k gn 0 i = gn := by
  unfold prN
  rcases hk with rfl | rfl
  · obtain rfl : i = 0 := by omega
    omega
  · have hi' : i = 0 ∨ i = 1 := by omega
    rcases hi' with rfl | rfl <;> omega
section
variable {w w' w0 : World} {a : Nat → Nat} {s : DuS} {tk : Bool} {E : Nat → Addr} {bcap M j : Nat} {mt : MeterS}
theorem DuA.prepped (h : DuA w a s bcap tk E w0) (hok : DuOK s) (hs : LensD (some M) a s.k false w0.heap.size) (hj : j < s.k) (hp : ∀ i, i < j → s.pr i = s.gn) (hl : s.pr j < s.gn) (hb : BW w' (a (7 + 3 * j)) (a (8 + 3 * j)) (a (9 + 3 * j)) s.gn (s.pr j + 1) false) (hc : Chg (fun b => b = M ∨ b = a (9 + 3 * j) ∨ b = a (7 + 3 * j)) w w') :
    (1 < s.bare → DuA w' a s.prep bcap tk E w0) ∧ (s.bare = 1 → DuG w' a s.prep bcap 0 (.slice none 0 0) tk w'.heap.size E w0) := by
  have hk : s.k = 1 ∨ s.k = 2 := by have := hok.hk; omega
  have hm := (hs M rfl).2
  have hn : ∀ x, Used s.k false x → x ≠ 9 + 3 * j → x ≠ 7 + 3 * j → ¬ (a x = M ∨ a x = a (9 + 3 * j) ∨ a x = a (7 + 3 * j)) := fun x hx h1 h2 e => by
    rcases e with e | e | e
    · exact hm x hx e.symm
    · exact h1 (h.n.inj _ _ hx (.of hj (by omega) (by omega)) e)
    · exact h2 (h.n.inj _ _ hx (.of hj (by omega) (by omega)) e)
  have h0 : ∀ b, (b = M ∨ b = a (9 + 3 * j) ∨ b = a (7 + 3 * j)) → w0.heap.size ≤ b := fun b e => by
    rcases e with e | e | e
    · rw [e]; exact (hs M rfl).1
    · rw [e]; exact h.n.ge _ (.of hj (by omega) (by omega))
    · rw [e]; exact h.n.ge _ (.of hj (by omega) (by omega))
  obtain ⟨q1, q2, q3⟩ := prN_step hk h.hb hok.hb hj hp hl
  have hbw : ∀ i, i < s.k → BW w' (a (7 + 3 * i)) (a (8 + 3 * i)) (a (9 + 3 * i)) s.gn (s.prep.pr i) false := fun i hi => by
    rw [prep_pr, q1 i hi]
    by_cases e : i = j
    · subst e; rw [if_pos rfl]; exact hb
    · rw [if_neg e]
      exact (h.bw i hi).chg hc (hn _ (.of hi (by omega) (by omega)) (by omega) (by omega)) (hn _ (.of hi (by omega) (by omega)) (by omega) (by omega)) (hn _ (.of hi (by omega) (by omega)) (by omega) (by omega))
  have hhd := h.hd.chg hc (hn 0 (.lt4 (by decide)) (by omega) (by omega))
  have hbl : ∀ i, i < s.k → w'.cell? ⟨a 3, i, none⟩ = some (.pointer (some ⟨a (7 + 3 * i), 0, none⟩)) := fun i hi => (hc.cell (p := ⟨a 3, i, none⟩) h.bz (hn 3 (.lt4 (by decide)) (by omega) (by omega))).trans (h.bl i hi)
  have ht : TN w' (a 1) (a 2) s.T E w0 := TMW.chg h.t hc h0 (hn 1 (.lt4 (by decide)) (by omega) (by omega)) (hn 2 (.lt4 (by decide)) (by omega) (by omega)) (fun b e => by cases e)
  refine ⟨fun h1 => ⟨by show 0 < s.bare - 1; omega, hhd, hbl, Nat.lt_of_lt_of_le h.bz hc.size, hbw, ht, h.n⟩, fun h1 => ⟨hhd, hbl, Nat.lt_of_lt_of_le h.bz hc.size, fun i hi => by omega, fun i hi => by omega, fun i _ hi => ?_, ht, ⟨rfl, .inl ⟨rfl, rfl⟩⟩, h.n, fun x hx => Nat.lt_of_lt_of_le (h.lt x hx) hc.size, Nat.le_refl _, Nat.zero_le _⟩⟩
  have := hbw i hi
  rw [prep_pr, h1, prN_full hk hi] at this
  exact this
theorem DuG.base0 {b1 b2 : Nat} (h : DuG w a s bcap 0 (.slice none 0 0) tk b1 E w0) (h1 : b1 ≤ b2) (h2 : b2 ≤ w.heap.size) : DuG w a s bcap 0 (.slice none 0 0) tk b2 E w0 :=
  ⟨h.hd, h.bl, h.bz, h.bd, h.tt, h.bw, h.t, ⟨rfl, .inl ⟨rfl, rfl⟩⟩, h.n, fun x hx => Nat.lt_of_lt_of_le (h.lt x hx) h1, h2, h.hj⟩
set_option maxRecDepth 100000 in
set_option maxHeartbeats 16000000 in
theorem DuA.step (h : DuA w a s bcap tk E w0) (hok : DuOK s) (hM : Blk w M 37 mt.cells) (hs : LensD (some M) a s.k false w0.heap.size) (hl : mt.limited = false) :
    Calls Tryz.prog 54 #[.pointer (some ⟨a 0, 0, none⟩), .pointer (some ⟨M, 0, none⟩)] w fun e w' => e = .returned (.bool true) ∧ (∃ a', DuV w' a' s.prep tk E w0 ∧ (∀ x, Used s.k false x → a' x = a x) ∧ (∀ x, 4 ≤ x → x < 7 → w.heap.size ≤ a' x ∨ 1 < s.bare)) ∧
      Blk w' M 37 ((mt.add 0 1 0).add 0 0 1).cells ∧ Chg (fun b => b = M ∨ DuX a s b) w w' := by
  have hk : s.k = 1 ∨ s.k = 2 := by have := hok.hk; omega
  have hgb := right_bd hok.hr
  have hb0 := h.hb
  have HD := Lib.hid h
  have HOK := Lib.hid hok
  have HS := Lib.hid hs
  have HM := Lib.hid hM
  have hm := (hs M rfl).2
  have RD := Lib.hid h.ready
  have LM := Lib.hid (show ∀ w', Below w.heap.size w w' → Blk w' M 37 mt.cells from fun w' hb => hM.below hb hM.lt)
  have HX := Lib.hid (show ∀ b j, j < s.k → (b = M ∨ b = a (9 + 3 * j) ∨ b = a (7 + 3 * j)) → b = M ∨ DuX a s b from fun b j hj e => by
    unfold DuX
    rw [decide_eq_false (by omega)]
    rcases e with e | e | e
    · exact .inl e
    · exact .inr ⟨_, .of hj (by omega) (by omega), e⟩
    · exact .inr ⟨_, .of hj (by omega) (by omega), e⟩)
  have HN0 := Lib.hid (show ∀ j, j < s.k → ¬ (a 0 = M ∨ a 0 = a (9 + 3 * j) ∨ a 0 = a (7 + 3 * j)) from fun j hj e => by
    rcases e with e | e | e
    · exact hm 0 (.lt4 (by decide)) e.symm
    · exact h.n.ne (.lt4 (by decide)) (.of hj (by omega) (by omega)) (by omega) e
    · exact h.n.ne (.lt4 (by decide)) (.of hj (by omega) (by omega)) (by omega) e)
  have HXB := Lib.hid (show Chg (fun b => ∃ x, Used s.k false x ∧ b = a x) = Chg (fun b => DuX a s b) from by unfold DuX; rw [decide_eq_false (show ¬ s.bare = 0 by omega)])
  have HMX := Lib.hid (show ∀ x, Used s.k false x → M ≠ a x from hm)
  obtain ⟨c0, c1, c2, c3, c4, c5, zc⟩ := h.cells
  clear h hM hs hm hok
  go_enter Tryz.func54, Tryz.ntmps54
  go_wp2_with (go_at_call 106; (with_reducible refine RD.out.mono ?_); rintro e w1 ⟨rfl, rfl⟩)
  go_loopw [20] (fun v20 wr => ∃ j : Nat, j ≤ s.k ∧ v20 = .int .i64 (j : Int) ∧ Below w.heap.size w wr ∧ ∀ i, i < j → s.pr i = s.gn) (fun v20 _ => s.k - (intOf v20).toNat)
  case atStart => exact ⟨0, Nat.zero_le _, rfl, Below.refl _ _, fun i hi => by omega⟩
  case round =>
    clear c0 c1 c2 c3 c4 c5
    obtain ⟨j, hj, rfl, hB, hpr⟩ := hrel
    have KD := Lib.hid (HD.out.later hB)
    have HP := Lib.hid hpr
    clear hpr
    have hlt : j < s.k := by
      apply Classical.byContradiction
      intro hn
      obtain rfl : j = s.k := by omega
      exact prN_end hk hb0 HOK.out.hb HP.out
    have hltI : (j : Int) < (s.k : Int) := by omega
    have l0 := KD.out.bl j hlt
    have zb := KD.out.bz
    by_cases hpj : s.pr j < s.gn
    · have SO := Lib.hid (fun (w' : World) (h' : DuA w' a s bcap tk E w0) (hM' : Blk w' M 37 mt.cells) => bstep_ok (a (7 + 3 * j)) (a (8 + 3 * j)) (a (9 + 3 * j)) s.gn (s.pr j) hpj M mt hl w' (h'.bw j hlt) hM' ⟨HMX.out _ (.of hlt (by omega) (by omega)), HMX.out _ (.of hlt (by omega) (by omega)), HMX.out _ (.of hlt (by omega) (by omega))⟩)
      obtain ⟨-, q2, q3⟩ := prN_step hk hb0 HOK.out.hb hlt HP.out hpj
      have ek : IntKind.i64.wrap ((s.k : Int) - 1) = ((s.k - 1 : Nat) : Int) := by rw [IntKind.wrap_i64]; omega
      by_cases hjk : j = s.k - 1
      · have hje : ((j : Int) == ((s.k - 1 : Nat) : Int)) = true := by simp; omega
        have BLF := Lib.hid (fun (w' : World) (hb' : BW w' (a (7 + 3 * j)) (a (8 + 3 * j)) (a (9 + 3 * j)) s.gn (s.pr j + 1) false) => bleft_any _ _ _ _ _ _ w' hb')
        rw [show s.gn - (s.pr j + 1) = s.bare - 1 from q3 hjk] at BLF
        replace hjk := Lib.hid hjk
        clear q2 q3
        by_cases hb1 : s.bare = 1
        · have HK := HOK.out.hk
          have hpre := HOK.out.pre hb0
          have BG := Lib.hid (fun (w' : World) (h' : DuG w' a s.prep bcap 0 (.slice none 0 0) tk w'.heap.size E w0) => begin_any h' HK HOK.out.hr hpre.2 hpre.1 (show s.bare - 1 = 0 by omega))
          rw [show s.bare - 1 = 0 by omega] at BLF
          clear hpre HK
          go_wp2_with (first
            | (go_at_call 108; (with_reducible refine (SO.out _ KD.out (LM.out _ hB)).mono ?_); rintro e w3 ⟨rfl, hb3, hm3, hc3⟩; have HP3 := Lib.hid (KD.out.prepped HOK.out HS.out hlt HP.out hpj hb3 hc3); have HC3 := Lib.hid ((Chg.of_below hB : Chg (fun b => b = M ∨ DuX a s b) w wr).trans (hc3.mono (fun b _ e => HX.out b j hlt e))); have HM3 := Lib.hid hm3; have HB3 := Lib.hid hb3; have d3 := KD.out.hd.chg hc3 (HN0.out j hlt); have d32 := d3.cell 2; have zd3 := d3.lt; clear hb3 hm3 hc3 d3)
            | (go_at_call 109; (with_reducible refine (BLF.out _ HB3.out).mono ?_); rintro e w4 ⟨rfl, hb4⟩; have G4 := Lib.hid (((HP3.out.2 hb1).later hb4).base0 hb4.size (Nat.le_refl _)); have HB4 := Lib.hid hb4; have z4 := hb4.size)
            | (go_at_call 110; (with_reducible refine (BG.out _ G4.out).mono ?_); rintro e w5 ⟨rfl, a', fcap, cap5, hD5, hs5, hn5, hc5⟩; have D5 := Lib.hid hD5; have S5 := Lib.hid hs5; have N5 := Lib.hid hn5; rw [show Chg (fun b => ∃ x, Used s.prep.k false x ∧ b = a x) = Chg (fun b => DuX a s b) from HXB.out] at hc5; have C5 := Lib.hid hc5; clear hD5 hs5 hn5 hc5))
          go_ret
          have hwz := hB.size
          have hz3 := HC3.out.size
          refine ⟨rfl, ⟨a', ⟨HOK.out.prep, .inr ⟨_, _, _, D5.out⟩⟩, S5.out, fun x h1 h2 => .inl (by have := N5.out x h1 h2; omega)⟩, ?_, (HC3.out.thenBelow HB4.out).trans (C5.out.mono (fun _ _ e => .inr e))⟩
          refine (HM3.out.below HB4.out HM3.out.lt).chg C5.out (fun e => ?_)
          unfold DuX at e
          rw [decide_eq_false (show ¬ s.bare = 0 by omega)] at e
          obtain ⟨x, hx, e⟩ := e
          exact HMX.out x hx e
        · have e0 : (((s.bare - 1 : Nat) : Int) == 0) = false := by simp; omega
          go_wp2_with (first
            | (go_at_call 108; (with_reducible refine (SO.out _ KD.out (LM.out _ hB)).mono ?_); rintro e w3 ⟨rfl, hb3, hm3, hc3⟩; have HP3 := Lib.hid (KD.out.prepped HOK.out HS.out hlt HP.out hpj hb3 hc3); have HC3 := Lib.hid ((Chg.of_below hB : Chg (fun b => b = M ∨ DuX a s b) w wr).trans (hc3.mono (fun b _ e => HX.out b j hlt e))); have HM3 := Lib.hid hm3; have HB3 := Lib.hid hb3; have d3 := KD.out.hd.chg hc3 (HN0.out j hlt); have d32 := d3.cell 2; have zd3 := d3.lt; clear hb3 hm3 hc3 d3)
            | (go_at_call 109; (with_reducible refine (BLF.out _ HB3.out).mono ?_); rintro e w4 ⟨rfl, hb4⟩; have HB4 := Lib.hid hb4))
          go_ret
          exact ⟨rfl, ⟨a, ⟨HOK.out.prep, .inl ⟨_, (HP3.out.1 (by omega)).later HB4.out⟩⟩, fun _ _ => rfl, fun _ _ _ => .inr (by omega)⟩, HM3.out.below HB4.out HM3.out.lt, HC3.out.thenBelow HB4.out⟩
      · have hje : ((j : Int) == ((s.k - 1 : Nat) : Int)) = false := by simp; omega
        have hb2 : 1 < s.bare := by
          apply Classical.byContradiction
          intro hn
          exact hjk (q2 (by omega))
        clear q2 q3
        go_wp2_with (go_at_call 108; (with_reducible refine (SO.out _ KD.out (LM.out _ hB)).mono ?_); rintro e w3 ⟨rfl, hb3, hm3, hc3⟩; have HP3 := Lib.hid (KD.out.prepped HOK.out HS.out hlt HP.out hpj hb3 hc3); have HC3 := Lib.hid ((Chg.of_below hB : Chg (fun b => b = M ∨ DuX a s b) w wr).trans (hc3.mono (fun b _ e => HX.out b j hlt e))); have HM3 := Lib.hid hm3; have HB3 := Lib.hid hb3; have d3 := KD.out.hd.chg hc3 (HN0.out j hlt); have d32 := d3.cell 2; have zd3 := d3.lt; clear hb3 hm3 hc3 d3)
        go_ret
        exact ⟨rfl, ⟨a, ⟨HOK.out.prep, .inl ⟨_, HP3.out.1 hb2⟩⟩, fun _ _ => rfl, fun _ _ _ => .inr hb2⟩, HM3.out, HC3.out⟩
    · have hpe : s.pr j = s.gn := by have := (KD.out.bw j hlt).hk; omega
      have SN := Lib.hid (fun (w' : World) (h' : DuA w' a s bcap tk E w0) => bstep_no (a (7 + 3 * j)) (a (8 + 3 * j)) (a (9 + 3 * j)) s.gn false (some ⟨M, 0, none⟩) w' (by have := h'.bw j hlt; rw [hpe] at this; exact this))
      go_wp2_with (go_at_call 108; (with_reducible refine (SN.out _ KD.out).mono ?_); rintro e w3 ⟨rfl, hb3⟩; have B3 := Lib.hid (hB.trans (hb3.mono hB.size)))
      go_roundw
      case rel => exact ⟨j + 1, by omega, by go_num, B3.out, fun i hi => by
        by_cases e : i = j
        · rw [e]; exact hpe
        · exact HP.out i (by omega)⟩
      case measure => simp [intOf]; omega
end
end Go.Proofs.YtolhmibejhldkaaGreatDoor

namespace Go.Proofs.YtolhmibejhldkaaGreatDoor
open Go.RowKit Go.Proofs
attribute [local go_sem] neq_nilG eql_nilG
theorem infoPB : (Tryz.prog.info? 166).map (fun i => (i.zero, i.size, i.bytes)) = some (some (.pointer none), 1, 8) := by kernel_rfl
def DuS.newS (k d gn : Nat) (T : TabS) : DuS := ⟨k, d, gn, k * gn, 0, T, fun _ => TabS.new gn⟩
theorem DuOK.newS {k d gn : Nat} {T : TabS} (hk : k = 1 ∨ (k = 2 ∧ d ≤ 15)) (hr : rightB (gn : Int) = true) (hT : TGood T) : DuOK (DuS.newS k d gn T) :=
  ⟨hk, hr, Nat.le_refl _, Nat.zero_le _, hT, fun _ _ => ⟨TGood.new hr, rfl⟩, fun _ => ⟨rfl, fun _ _ => rfl⟩⟩
structure DuN1 (wr : World) (D O d gn j : Nat) (vb : Value) (bb tb tq c e : Nat → Nat) : Prop where
  hd : Blk wr D 165 #[.pointer (some ⟨O, 0, none⟩), .int .i64 (d : Int), vb, .slice none 0 0, .pointer none, .bool false]
  r : wr.ownsRow (D + 1) 166 1 vb j ((List.range j).map (fun i => Value.pointer (some ⟨bb i, 0, none⟩)))
  bw : ∀ i, i < j → BW wr (bb i) (tb i) (tq i) gn 0 false
  iv : ∀ i, i < j → D < c i ∧ c i ≤ bb i ∧ bb i < e i ∧ c i ≤ tb i ∧ tb i < e i ∧ c i ≤ tq i ∧ tq i < e i ∧ e i ≤ wr.heap.size
  up : ∀ i l, i < l → l < j → e i ≤ c l
  rb : ∀ b, vb.ownBlock = some b → ∀ i, i < j → b < c i ∨ e i ≤ b
section
variable {w w' w0 : World} {D O d gn j : Nat} {vb : Value} {bb tb tq c e : Nat → Nat}
theorem DuN1.later (h : DuN1 w D O d gn j vb bb tb tq c e) (hb : Below w.heap.size w w') : DuN1 w' D O d gn j vb bb tb tq c e :=
  ⟨h.hd.below hb h.hd.lt, ownsRow_later h.r hb, fun i hi => (h.bw i hi).later hb, fun i hi => ⟨(h.iv i hi).1, (h.iv i hi).2.1, (h.iv i hi).2.2.1, (h.iv i hi).2.2.2.1, (h.iv i hi).2.2.2.2.1, (h.iv i hi).2.2.2.2.2.1, (h.iv i hi).2.2.2.2.2.2.1, Nat.le_trans (h.iv i hi).2.2.2.2.2.2.2 hb.size⟩, h.up, h.rb⟩
theorem DuN1.more {w1 w2 : World} {v2 : Value} {b t q : Nat} (h : DuN1 w D O d gn j vb bb tb tq c e) (hb1 : Below w.heap.size w w1) (hB : BW w1 b t q gn 0 false) (l1 : w.heap.size ≤ b ∧ w.heap.size ≤ t ∧ w.heap.size ≤ q)
    (hg : Chg (fun x => vb.ownBlock = some x) w1 w2) (hrow : w2.ownsRow (D + 1) 166 1 v2 (j + 1) ((List.range j).map (fun i => Value.pointer (some ⟨bb i, 0, none⟩)) ++ [Value.pointer (some ⟨b, 0, none⟩)])) (hfr : v2.ownBlock = vb.ownBlock ∨ ∃ x, v2.ownBlock = some x ∧ w1.heap.size ≤ x) :
    DuN1 (w2.setCell ⟨D, 2, none⟩ v2) D O d gn (j + 1) v2 (upd bb j b) (upd tb j t) (upd tq j q) (upd c j w.heap.size) (upd e j w1.heap.size) := by
  have hD := h.hd.lt
  have hbt : b < w1.heap.size := hB.b.lt
  have htt : t < w1.heap.size := (hB.t rfl).head.lt
  have hqt : q < w1.heap.size := (hB.t rfl).lt
  have hvz : ∀ x, vb.ownBlock = some x → D + 1 ≤ x ∧ x < w.heap.size := fun x hx => h.r.lt x hx
  have hC : Chg (fun x => x = D) w2 (w2.setCell ⟨D, 2, none⟩ v2) := (Chg.refl _ _).set1 _ _
  have hz := hg.size
  have hz1 := hb1.size
  have hcs := hC.size
  have old : ∀ i, i < j → ∀ x, c i ≤ x → x < e i → ¬ (vb.ownBlock = some x) ∧ ¬ x = D := fun i hi x h1 h2 => by
    have h3 := h.iv i hi
    refine ⟨fun e => ?_, by omega⟩
    have := h.rb x e i hi; omega
  have new : ∀ x, w.heap.size ≤ x → ¬ (vb.ownBlock = some x) ∧ ¬ x = D := fun x hx => ⟨fun e => by have := hvz x e; omega, by omega⟩
  refine ⟨?_, ?_, fun i hi => ?_, fun i hi => ?_, fun i l hil hl => ?_, fun x hx i hi => ?_⟩
  · exact ((h.hd.below hb1 hD).chg hg (fun e => by have := hvz D e; omega)).set 2 _
  · rw [List.range_succ, List.map_append]
    have e1 : (List.range j).map (fun i => Value.pointer (some ⟨upd bb j b i, 0, none⟩)) = (List.range j).map (fun i => Value.pointer (some ⟨bb i, 0, none⟩)) := List.map_congr_left fun i hi => by
      rw [upd_other _ _ (by have := List.mem_range.1 hi; omega)]
    rw [e1]
    simp only [List.map_cons, List.map_nil, upd_same]
    exact ownsRow_chgB hrow hC (fun x hx e => by have := (hrow.lt x hx).1; omega)
  · by_cases e : i = j
    · subst e
      rw [upd_same, upd_same, upd_same]
      exact (hB.chg hg (new b l1.1).1 (new t l1.2.1).1 (new q l1.2.2).1).chg hC (new b l1.1).2 (new t l1.2.1).2 (new q l1.2.2).2
    · have hi' : i < j := by omega
      have h3 := h.iv i hi'
      rw [upd_other _ _ e, upd_other _ _ e, upd_other _ _ e]
      exact (((h.bw i hi').later hb1).chg hg (old i hi' _ (by omega) (by omega)).1 (old i hi' _ (by omega) (by omega)).1 (old i hi' _ (by omega) (by omega)).1).chg hC (old i hi' _ (by omega) (by omega)).2 (old i hi' _ (by omega) (by omega)).2 (old i hi' _ (by omega) (by omega)).2
  · by_cases e : i = j
    · subst e
      simp only [upd_same]
      omega
    · have h3 := h.iv i (by omega)
      simp only [upd_other _ _ e]
      omega
  · by_cases e : l = j
    · subst e
      have h3 := h.iv i (by omega)
      rw [upd_same, upd_other _ _ (by omega)]; omega
    · rw [upd_other _ _ (by omega), upd_other _ _ e]; exact h.up i l hil (by omega)
  · by_cases e : i = j
    · subst e
      rw [upd_same, upd_same]
      rcases hfr with e1 | ⟨y, e1, hy⟩
      · rw [e1] at hx; have := hvz x hx; omega
      · rw [e1] at hx; have := Option.some.inj hx; omega
    · have h3 := h.iv i (by omega)
      rw [upd_other _ _ e, upd_other _ _ e]
      rcases hfr with e1 | ⟨y, e1, hy⟩
      · rw [e1] at hx; exact h.rb x hx i (by omega)
      · rw [e1] at hx; have := Option.some.inj hx; omega
def newA (D O Q BS : Nat) (bb tb tq : Nat → Nat) (x : Nat) : Nat :=
  if x = 0 then D else if x = 1 then O else if x = 2 then Q else if x = 3 then BS else if x < 7 then 0
  else if (x - 7) % 3 = 0 then bb ((x - 7) / 3) else if (x - 7) % 3 = 1 then tb ((x - 7) / 3) else tq ((x - 7) / 3)
theorem newA_b (D O Q BS : Nat) (bb tb tq : Nat → Nat) (i : Nat) : newA D O Q BS bb tb tq (7 + 3 * i) = bb i ∧ newA D O Q BS bb tb tq (8 + 3 * i) = tb i ∧ newA D O Q BS bb tb tq (9 + 3 * i) = tq i := by
  unfold newA
  refine ⟨?_, ?_, ?_⟩
  · rw [if_neg (by omega), if_neg (by omega), if_neg (by omega), if_neg (by omega), if_neg (by omega), if_pos (by omega), show (7 + 3 * i - 7) / 3 = i by omega]
  · rw [if_neg (by omega), if_neg (by omega), if_neg (by omega), if_neg (by omega), if_neg (by omega), if_neg (by omega), if_pos (by omega), show (8 + 3 * i - 7) / 3 = i by omega]
  · rw [if_neg (by omega), if_neg (by omega), if_neg (by omega), if_neg (by omega), if_neg (by omega), if_neg (by omega), if_neg (by omega), show (9 + 3 * i - 7) / 3 = i by omega]
theorem used_cases {k x : Nat} (h : Used k false x) : x = 0 ∨ x = 1 ∨ x = 2 ∨ x = 3 ∨ ∃ i, i < k ∧ (x = 7 + 3 * i ∨ x = 8 + 3 * i ∨ x = 9 + 3 * i) := by
  rcases h with h | ⟨e, -⟩ | ⟨h1, h2⟩
  · omega
  · cases e
  · exact .inr (.inr (.inr (.inr ⟨(x - 7) / 3, by omega, by omega⟩)))
theorem DuN1.done {Q k gcap BS : Nat} {T : TabS} {E : Nat → Addr} (h : DuN1 w D O d gn k (.slice (some ⟨BS, 0, none⟩) k gcap) bb tb tq c e) (hk : k = 1 ∨ (k = 2 ∧ d ≤ 15)) (hr : rightB (gn : Int) = true) (ht : TN w O Q T E w0) (hz : w0.heap.size ≤ D ∧ O < D ∧ Q < D)
    (hl : ∀ i, i < k → w.cell? ⟨BS, i, none⟩ = some (.pointer (some ⟨bb i, 0, none⟩))) : DuA w (newA D O Q BS bb tb tq) (DuS.newS k d gn T) gcap false E w0 := by
  have hn1 := right_bd hr
  have hbs := h.r.lt BS rfl
  have hrb := h.rb BS rfl
  have hOQ := ht.ne
  have e0 : newA D O Q BS bb tb tq 0 = D := rfl
  have e1 : newA D O Q BS bb tb tq 1 = O := rfl
  have e2 : newA D O Q BS bb tb tq 2 = Q := rfl
  have e3 : newA D O Q BS bb tb tq 3 = BS := rfl
  have hpr : ∀ i, (DuS.newS k d gn T).pr i = 0 := fun i => by
    show min gn (k * gn - k * gn - i * gn) = 0
    omega
  refine ⟨?_, by rw [e0, e1, e3]; exact h.hd, fun i hi => ?_, by rw [e3]; exact hbs.2, fun i hi => ?_, by rw [e1, e2]; exact ht, ⟨fun x y hx hy he => ?_, fun x hx => ?_⟩⟩
  · show 0 < k * gn
    exact Nat.mul_pos (by omega) hn1.1
  · rw [e3, (newA_b D O Q BS bb tb tq i).1]; exact hl i hi
  · rw [(newA_b D O Q BS bb tb tq i).1, (newA_b D O Q BS bb tb tq i).2.1, (newA_b D O Q BS bb tb tq i).2.2, hpr]; exact h.bw i hi
  · have key : ∀ i, i < k → (bb i ≠ tb i ∧ bb i ≠ tq i ∧ tb i ≠ tq i) := fun i hi => ⟨(h.bw i hi).ne.1, (h.bw i hi).ne.2, ((h.bw i hi).t rfl).ne⟩
    rcases used_cases hx with rfl | rfl | rfl | rfl | ⟨i, hi, hxi⟩ <;> rcases used_cases hy with rfl | rfl | rfl | rfl | ⟨l, hl', hyl⟩
    all_goals (try rfl)
    all_goals (try simp only [e0, e1, e2, e3] at he)
    all_goals (try omega)
    all_goals (try (have q1 := h.iv i hi; have q2 := hrb i hi; obtain ⟨n1, n2, n3⟩ := newA_b D O Q BS bb tb tq i))
    all_goals (try (have r1 := h.iv l hl'; have r2 := hrb l hl'; obtain ⟨m1, m2, m3⟩ := newA_b D O Q BS bb tb tq l))
    · rcases hyl with rfl | rfl | rfl <;> first | (rw [m1] at he; omega) | (rw [m2] at he; omega) | (rw [m3] at he; omega)
    · rcases hyl with rfl | rfl | rfl <;> first | (rw [m1] at he; omega) | (rw [m2] at he; omega) | (rw [m3] at he; omega)
    · rcases hyl with rfl | rfl | rfl <;> first | (rw [m1] at he; omega) | (rw [m2] at he; omega) | (rw [m3] at he; omega)
    · rcases hyl with rfl | rfl | rfl <;> first | (rw [m1] at he; omega) | (rw [m2] at he; omega) | (rw [m3] at he; omega)
    · rcases hxi with rfl | rfl | rfl <;> first | (rw [n1] at he; omega) | (rw [n2] at he; omega) | (rw [n3] at he; omega)
    · rcases hxi with rfl | rfl | rfl <;> first | (rw [n1] at he; omega) | (rw [n2] at he; omega) | (rw [n3] at he; omega)
    · rcases hxi with rfl | rfl | rfl <;> first | (rw [n1] at he; omega) | (rw [n2] at he; omega) | (rw [n3] at he; omega)
    · rcases hxi with rfl | rfl | rfl <;> first | (rw [n1] at he; omega) | (rw [n2] at he; omega) | (rw [n3] at he; omega)
    · have hil : i = l := by
        rcases Nat.lt_trichotomy i l with q | q | q
        · have := h.up i l q hl'
          rcases hxi with rfl | rfl | rfl <;> rcases hyl with rfl | rfl | rfl <;> (first | rw [n1] at he | rw [n2] at he | rw [n3] at he) <;> (first | rw [m1] at he | rw [m2] at he | rw [m3] at he) <;> omega
        · exact q
        · have := h.up l i q hi
          rcases hxi with rfl | rfl | rfl <;> rcases hyl with rfl | rfl | rfl <;> (first | rw [n1] at he | rw [n2] at he | rw [n3] at he) <;> (first | rw [m1] at he | rw [m2] at he | rw [m3] at he) <;> omega
      subst hil
      have kk := key i hi
      rcases hxi with rfl | rfl | rfl <;> rcases hyl with rfl | rfl | rfl <;> (try rfl) <;> (first | rw [n1] at he | rw [n2] at he | rw [n3] at he) <;> (first | rw [n1] at he | rw [n2] at he | rw [n3] at he) <;> omega
  · have g1 := ht.hB
    have g2 := ht.hQ
    rcases used_cases hx with rfl | rfl | rfl | rfl | ⟨i, hi, hxi⟩
    · rw [e0]; exact hz.1
    · rw [e1]; exact g1
    · rw [e2]; exact g2
    · rw [e3]; omega
    · have q1 := h.iv i hi
      obtain ⟨n1, n2, n3⟩ := newA_b D O Q BS bb tb tq i
      rcases hxi with rfl | rfl | rfl
      · rw [n1]; omega
      · rw [n2]; omega
      · rw [n3]; omega
set_option maxRecDepth 100000 in
set_option maxHeartbeats 16000000 in
theorem dualNew_ok {Q k : Nat} {T : TabS} {E : Nat → Addr} (dp : Int) (hkd : (k = 1 ∧ dp < 0 ∧ d = 0) ∨ (k = 2 ∧ dp = (d : Int) ∧ d ≤ 15)) (hr : rightB (gn : Int) = true) (ht : TN w O Q T E w0) :
    Calls Tryz.prog 53 #[.pointer (some ⟨O, 0, none⟩), .int .i64 (gn : Int), .int .i64 dp] w fun e w' => ∃ (a : Nat → Nat) (bcap : Nat), e = .returned (.tuple #[.pointer (some ⟨a 0, 0, none⟩), .nilIface]) ∧
      DuA w' a (DuS.newS k d gn T) bcap false E w0 ∧ a 1 = O ∧ a 2 = Q ∧ (∀ x, Used k false x → x ≠ 1 → x ≠ 2 → w.heap.size ≤ a x) ∧ Below w.heap.size w w' := by
  obtain ⟨i0, hi, hz0, hz1, hz2⟩ := info_parts infoPB
  have hk : k = 1 ∨ (k = 2 ∧ d ≤ 15) := by omega
  have hOz := ht.ltB
  have hQz := ht.ltQ
  have hge := ht.bel.size
  have hmax : max dp 0 = (d : Int) := by omega
  have h15 : ¬ dp > 15 := by omega
  have d15 : decide (dp > 15) = false := decide_eq_false h15
  have BN := Lib.hid (fun (w' : World) => bnew_ok gn hr w')
  have HT := Lib.hid ht
  have HR := Lib.hid hr
  have HKK := Lib.hid hk
  obtain ⟨D, hD⟩ : ∃ D, D = w.heap.size := ⟨_, rfl⟩
  clear ht hr hk
  go_enter Tryz.func53, Tryz.ntmps53
  go_upto_region 7 with (fail)
  refine wp_at (fun w1 hw1 => ?_)
  have N1 := Lib.hid (show DuN1 w1 D O d gn 0 (.slice none 0 0) (fun _ => 0) (fun _ => 0) (fun _ => 0) (fun _ => 0) (fun _ => 0) from ⟨by rw [hw1, hD]; exact Blk.new _ _ _, ⟨rfl, .inl ⟨rfl, rfl⟩⟩, fun i hi => by omega, fun i hi => by omega, fun i l _ hl => by omega, fun b hb => by cases hb⟩)
  have B1 := Lib.hid (show Below w.heap.size w w1 by rw [hw1]; go_grown)
  have hDw : w.heap.size ≤ D := Nat.le_of_eq hD.symm
  have hOD : O < D ∧ Q < D := by omega
  rw [← hD]
  replace hD := Lib.hid hD
  replace hw1 := Lib.hid hw1
  clear hmax h15 d15
  go_loopw [9] (fun v9 wr => ∃ (j : Nat) (vb : Value) (bb tb tq c e : Nat → Nat), j ≤ k ∧ v9 = .int .i64 (j : Int) ∧ DuN1 wr D O d gn j vb bb tb tq c e ∧ Below w.heap.size w wr) (fun v9 _ => k - (intOf v9).toNat)
  case atStart => exact ⟨0, _, _, _, _, _, _, Nat.zero_le _, rfl, N1.out, B1.out⟩
  case round =>
    clear N1 B1
    obtain ⟨j, vb, bb, tb, tq, c, e, hj, rfl, hN, hB⟩ := hrel
    have KN := Lib.hid hN
    have KB := Lib.hid hB
    have hDr := hN.hd.lt
    have hwr := hB.size
    clear hN hB
    by_cases hlt : j < k
    · have hj01 : j = 0 ∨ (j = 1 ∧ (0 : Int) ≤ dp) := by omega
      rcases hj01 with hj0 | ⟨hj1, hdp⟩
      · have e0 : ((j : Int) == 0) = true := by simp; omega
        replace hj0 := Lib.hid hj0
        go_wp2_with (first
          | (go_at_call 105; (with_reducible refine (BN.out _).mono ?_); rintro e3 w3 ⟨nb, nt, nq, rfl, z1, z2, z3, hb3, hbw3⟩; have BW3 := Lib.hid hb3; have HB3 := Lib.hid hbw3; have N3 := Lib.hid (KN.out.later hbw3); have d3 := N3.out.hd.cell 2; have zd3 := N3.out.hd.lt; have fd3 := fun j => N3.out.hd.frozen j; have z4 := hbw3.size; clear hb3 hbw3)
          | (at_builtin; refine wpList_append_own2' rfl _ _ 162 rfl (D + 1) 166 i0 (.pointer none) 1 8 Tryz.underlying162 hi hz0 hz1 hz2 rfl (by decide) _ j _ rfl (ownsRow_later N3.out.r ((Below.refl _ _).alloc (Nat.le_refl _) _)) ⟨w3.heap.size, 0, none⟩ 1 1 [.pointer (some ⟨nb, 0, none⟩)] rfl rfl (cell1_new w3 _ _) (by simp [Value.oneCell']) (by unfold maxLen; omega) (by omega) (by simp; omega) (by decide) ?_; intro v5 w5 hown5 hgrow5 hfr5; obtain ⟨g5, gcap5, rfl⟩ := ownsRow_succ hown5; have M5 := Lib.hid (KN.out.more (HB3.out.trans (((Below.refl w3.heap.size w3).alloc (Nat.le_refl _) (.cells #[.pointer (some ⟨nb, 0, none⟩)] 166)).mono z4)) (BW3.out.alloc _) ⟨z1, z2, z3⟩ (Chg.of_grown hgrow5) hown5 (by rcases hfr5 with e | e; exact .inl e; exact .inr ⟨_, e, Nat.le_refl _⟩)); have H5 := Lib.hid ((N3.out.hd.alloc _).chg (Chg.of_grown hgrow5) (fun e => by have := (N3.out.r.lt D e).1; omega)); have zd5 := H5.out.lt; have fd5 := fun j => H5.out.frozen j; have d5 := H5.out.cell 2; have zh5 := hgrow5.size; have G5 := Lib.hid (Chg.of_grown hgrow5); clear hown5 hgrow5 hfr5))
        go_roundw
        case rel =>
          refine ⟨j + 1, _, _, _, _, _, _, by omega, by go_num, M5.out, ?_⟩
          refine (KB.out.trans (HB3.out.mono KB.out.size)).trans ?_
          have hz9 := (KB.out.trans (HB3.out.mono KB.out.size)).size
          refine (((Below.refl w.heap.size w3).alloc hz9 _).trans (G5.out.below (n := w.heap.size) (by simp; omega) (fun b hb e => by have := (N3.out.r.lt b e).1; omega))).setCell (p := ⟨D, 2, none⟩) (by show w.heap.size ≤ D; omega) _
        case measure => simp [intOf]; omega
      · have e0 : ((j : Int) == 0) = false := by simp; omega
        have e1 : ((j : Int) == 1) = true := by simp; omega
        have hdp' : dp ≥ 0 := hdp
        have hdd : decide (dp ≥ 0) = true := decide_eq_true hdp
        replace hj1 := Lib.hid hj1
        go_wp2_with (first
          | (go_at_call 105; (with_reducible refine (BN.out _).mono ?_); rintro e3 w3 ⟨nb, nt, nq, rfl, z1, z2, z3, hb3, hbw3⟩; have BW3 := Lib.hid hb3; have HB3 := Lib.hid hbw3; have N3 := Lib.hid (KN.out.later hbw3); have d3 := N3.out.hd.cell 2; have zd3 := N3.out.hd.lt; have fd3 := fun j => N3.out.hd.frozen j; have z4 := hbw3.size; clear hb3 hbw3)
          | (at_builtin; refine wpList_append_own2' rfl _ _ 162 rfl (D + 1) 166 i0 (.pointer none) 1 8 Tryz.underlying162 hi hz0 hz1 hz2 rfl (by decide) _ j _ rfl (ownsRow_later N3.out.r ((Below.refl _ _).alloc (Nat.le_refl _) _)) ⟨w3.heap.size, 0, none⟩ 1 1 [.pointer (some ⟨nb, 0, none⟩)] rfl rfl (cell1_new w3 _ _) (by simp [Value.oneCell']) (by unfold maxLen; omega) (by omega) (by simp; omega) (by decide) ?_; intro v5 w5 hown5 hgrow5 hfr5; obtain ⟨g5, gcap5, rfl⟩ := ownsRow_succ hown5; have M5 := Lib.hid (KN.out.more (HB3.out.trans (((Below.refl w3.heap.size w3).alloc (Nat.le_refl _) (.cells #[.pointer (some ⟨nb, 0, none⟩)] 166)).mono z4)) (BW3.out.alloc _) ⟨z1, z2, z3⟩ (Chg.of_grown hgrow5) hown5 (by rcases hfr5 with e | e; exact .inl e; exact .inr ⟨_, e, Nat.le_refl _⟩)); have H5 := Lib.hid ((N3.out.hd.alloc _).chg (Chg.of_grown hgrow5) (fun e => by have := (N3.out.r.lt D e).1; omega)); have zd5 := H5.out.lt; have fd5 := fun j => H5.out.frozen j; have d5 := H5.out.cell 2; have zh5 := hgrow5.size; have G5 := Lib.hid (Chg.of_grown hgrow5); clear hown5 hgrow5 hfr5))
        go_roundw
        case rel =>
          refine ⟨j + 1, _, _, _, _, _, _, by omega, by go_num, M5.out, ?_⟩
          refine (KB.out.trans (HB3.out.mono KB.out.size)).trans ?_
          have hz9 := (KB.out.trans (HB3.out.mono KB.out.size)).size
          refine (((Below.refl w.heap.size w3).alloc hz9 _).trans (G5.out.below (n := w.heap.size) (by simp; omega) (fun b hb e => by have := (N3.out.r.lt b e).1; omega))).setCell (p := ⟨D, 2, none⟩) (by show w.heap.size ≤ D; omega) _
        case measure => simp [intOf]; omega
    · have hjk : j = k := by omega
      subst hjk
      have e0 : ((j : Int) == 0) = false := by simp; omega
      obtain ⟨BS, gcap, cur, hvb, hbg, hgB, hcell⟩ := row_ptrsG KN.out.r (by omega)
      subst hvb
      have hdone := KN.out.done HKK.out HR.out (HT.out.later (KB.out.mono (Nat.le_refl _))) ⟨by omega, hOD.1, hOD.2⟩ hcell
      have DD := Lib.hid hdone
      have HUX := Lib.hid (show ∀ x, Used j false x → x ≠ 1 → x ≠ 2 → w.heap.size ≤ newA D O Q BS bb tb tq x from fun x hx h1 h2 => by
        rcases used_cases hx with rfl | rfl | rfl | rfl | ⟨i, hi, hxi⟩
        · exact hDw
        · exact absurd rfl h1
        · exact absurd rfl h2
        · have := (KN.out.r.lt BS rfl).1; show w.heap.size ≤ BS; omega
        · have q1 := KN.out.iv i hi
          obtain ⟨n1, n2, n3⟩ := newA_b D O Q BS bb tb tq i
          rcases hxi with rfl | rfl | rfl
          · rw [n1]; omega
          · rw [n2]; omega
          · rw [n3]; omega)
      clear hdone hcell hgB
      rcases hkd with ⟨q1, q2, q3⟩ | ⟨q1, q2, q3⟩
      · have e1 : ((j : Int) == 1) = true := by simp; omega
        have hdp' : ¬ dp ≥ 0 := by omega
        have hdp2 : ¬ (0 : Int) ≤ dp := by omega
        have hdd : decide (dp ≥ 0) = false := decide_eq_false hdp'
        replace q1 := Lib.hid q1
        replace q3 := Lib.hid q3
        go_wp2
        go_ret2
        first
          | exact ⟨newA D O Q BS bb tb tq, gcap, rfl, DD.out, rfl, rfl, HUX.out, KB.out⟩
          | exact ⟨newA D O Q BS bb tb tq, rfl, ⟨gcap, DD.out⟩, rfl, rfl, HUX.out, KB.out⟩
      · have e1 : ((j : Int) == 1) = false := by simp; omega
        replace q1 := Lib.hid q1
        replace q2 := Lib.hid q2
        go_wp2
        go_ret2
        first
          | exact ⟨newA D O Q BS bb tb tq, gcap, rfl, DD.out, rfl, rfl, HUX.out, KB.out⟩
          | exact ⟨newA D O Q BS bb tb tq, rfl, ⟨gcap, DD.out⟩, rfl, rfl, HUX.out, KB.out⟩
end
end Go.Proofs.YtolhmibejhldkaaGreatDoor
