/- Texts joined: SpotM DualP DualL Dual DualSeek. No condition but those that stand within. -/
import Derived.Deep.DeepCutAuto
import Derived.Deep.CutBlock
import Derived.Laws.Cover3
import Derived.Test.YtolhmibejhldkaaGreatDoorPkSwar
import Derived.Test.YtolhmibejhldkaaGreatDoorPkMeter
import Derived.Test.YtolhmibejhldkaaGreatDoorPkErrs
import Derived.Test.YtolhmibejhldkaaGreatDoorPkGroup
import Derived.Test.YtolhmibejhldkaaGreatDoorPkTab
import Derived.Test.YtolhmibejhldkaaGreatDoorPkTab2
import Derived.Test.YtolhmibejhldkaaGreatDoorPkTab3
import Derived.Test.YtolhmibejhldkaaGreatDoorPkTab4
import Derived.Test.YtolhmibejhldkaaGreatDoorPkTake
import Derived.Test.YtolhmibejhldkaaGreatDoorPkTabM
import Derived.Test.YtolhmibejhldkaaGreatDoorPkBuild
import Derived.Test.YtolhmibejhldkaaGreatDoorPkEvac
import Derived.Test.YtolhmibejhldkaaGreatDoorPkRef09
import Derived.Test.YtolhmibejhldkaaGreatDoorPkEvac2
import Derived.Test.YtolhmibejhldkaaGreatDoorPkActs
set_option linter.unusedVariables false
set_option linter.unusedSimpArgs false
namespace Go.Proofs.YtolhmibejhldkaaGreatDoor
open Go.RowKit Go.Proofs
theorem placeN_putM {T : TabS} {key : Int} {h : Nat} (hh : T.has key h = false) : T.placeN key h key h = T.putN key h := by
  unfold TabS.placeN TabS.putN
  rw [hh, if_neg (by decide), if_neg (by simp)]
  simp
theorem placeT_putM {T : TabS} {key v : Int} {h : Nat} (hh : T.has key h = false) : T.placeT key h key v h = T.putT key v h := by
  unfold TabS.placeT TabS.putT
  rw [placeN_putM hh]
  unfold TabS.putN
  rw [hh]
  cases hr : T.room key h <;> simp [hr]
theorem putT_yesM {T : TabS} {key v : Int} {h : Nat} (hh : T.has key h = true) : T.putT key v h = T.setV (T.lastG key h) (T.atZ key h).toNat v := by unfold TabS.putT; rw [if_pos hh]
section
variable {w w' w0 : World} {B Q : Nat} {T : TabS} {E : Nat → Addr} {lp : Option Nat} {mt : MeterS}
theorem TN.lens (h : TN w B Q T E w0) (hl : LW w lp mt) (hs : LensOk lp B Q w0.heap.size) : TMW w B Q lp T mt E w0 := ⟨h.t, h.good, hl, h.low, h.bel, h.hB, h.hQ, hs⟩
theorem TN.seek (h : TN w B Q T E w0) (hl : LW w lp mt) (hs : LensOk lp B Q w0.heap.size) (key : Int) (hh : Nat) (hb : hh < 18446744073709551616) (q : Option Addr) (hq : LensAt q lp) (x y z : Int) :
    Calls Tryz.prog 43 #[.pointer (some ⟨B, 0, none⟩), .agg #[.pointer q, .int .i64 x, .int .i64 y, .int .i64 z], .int .u64 key, .int .u64 (hh : Int)] w fun e w' =>
      ∃ fp, e = .returned (.agg (spotC B key hh (T.atP Q key hh) (T.atZ key hh) fp (T.frZ key hh))) ∧ (0 ≤ T.frZ key hh → fp = some ⟨Q, T.freeG key hh * 25, none⟩) ∧ TN w' B Q T E w0 ∧ LW w' lp (addN mt x y z (T.looks key hh)) ∧ Chg (fun b => lp = some b) w w' := by
  have h0 := h.lens hl hs
  refine (seekT_any B Q T h.good key hh hb q lp hq mt x y z w h.t hl (hs.seek hl h.low.lt) h.low.t).mono ?_
  rintro e w' ⟨fp, rfl, hf, h1, h2⟩
  exact ⟨fp, rfl, hf, (h0.turn h1 h2).unmeter, h1, h2⟩
theorem TN.entry (h : TN w B Q T E w0) (key : Int) (hh : Nat) (fp : Option Addr) (fz : Int) :
    Calls Tryz.prog 44 #[.agg (spotC B key hh (T.atP Q key hh) (T.atZ key hh) fp fz)] w fun e w' =>
      e = .returned (.tuple #[(T.ent key hh).val3, .bool (T.has key hh)]) ∧ Below w.heap.size w w' :=
  entry_any B Q T h.good key hh fp fz E w h.t (h.low.e.sub (by decide))
theorem TN.own {T' : TabS} (h : TN w B Q T E w0) (ht : TS w' B Q T') (hg : TGood T') (hc : Chg (fun b => b = B ∨ b = Q) w w') : TN w' B Q T' E w0 :=
  TMW.full h ht hg (fun M e => by cases e) (hc.mono fun b _ e => .inr e)
theorem TN.replace (h : TN w B Q T E w0) (key v : Int) (hh : Nat) (hb : hh < 18446744073709551616) (fp : Option Addr) (fz : Int) (hq : T.has key hh = true) :
    Calls Tryz.prog 45 #[.agg (spotC B key hh (T.atP Q key hh) (T.atZ key hh) fp fz), .int .u64 v] w fun e w' =>
      e = .returned .nilIface ∧ TN w' B Q (T.putT key v hh) E w0 ∧ Chg (fun b => b = B ∨ b = Q) w w' := by
  refine (replace_any B Q T h.good key hh fp fz v E w h.t (h.low.e.sub (by decide))).mono ?_
  rintro e w' ⟨rfl, h1, h2⟩
  rw [hq, if_pos rfl, ← putT_yesM hq] at h1
  rw [hq, if_pos rfl, errN_0]
  exact ⟨rfl, h.own h1 (h.good.putT v hb) h2, h2⟩
theorem TN.remove (h : TN w B Q T E w0) (key : Int) (hh : Nat) (fp : Option Addr) (fz : Int) (hq : T.has key hh = true) :
    Calls Tryz.prog 92 #[.agg (spotC B key hh (T.atP Q key hh) (T.atZ key hh) fp fz)] w fun e w' =>
      e = .returned .nilIface ∧ TN w' B Q (T.delT key hh) E w0 ∧ Chg (fun b => b = B ∨ b = Q) w w' := by
  refine (remove_any B Q T h.good key hh fp fz E w h.t (h.low.e.sub (by decide))).mono ?_
  rintro e w' ⟨rfl, h1, h2⟩
  rw [hq, if_pos rfl, errN_0]
  exact ⟨rfl, h.own h1 h.good.delT h2, h2⟩
theorem TN.place (h : TN w B Q T E w0) (key : Int) (hh : Nat) (hb : hh < 18446744073709551616) (fp : Option Addr) (hfp : 0 ≤ T.frZ key hh → fp = some ⟨Q, T.freeG key hh * 25, none⟩) (v : Int) (hq : T.has key hh = false) :
    Calls Tryz.prog 46 #[.agg (spotC B key hh (T.atP Q key hh) (T.atZ key hh) fp (T.frZ key hh)), .agg #[.int .u64 key, .int .u64 v, .int .u64 (hh : Int)]] w fun e w' =>
      e = .returned (errN E (T.putN key hh)) ∧ TN w' B Q (T.putT key v hh) E w0 ∧ Chg (fun b => b = B ∨ b = Q) w w' := by
  refine (place_any B Q T h.good key hh hb fp hfp key v hh E w h.t (h.low.e.sub (by decide))).mono ?_
  rintro e w' ⟨rfl, h1, h2⟩
  rw [placeN_putM hq]
  rw [placeT_putM hq] at h1
  exact ⟨rfl, h.own h1 (h.good.putT v hb) h2, h2⟩
end
end Go.Proofs.YtolhmibejhldkaaGreatDoor

namespace Go.Proofs.YtolhmibejhldkaaGreatDoor
open Go.RowKit Go.Proofs
structure DuS where
  k : Nat
  d : Nat
  gn : Nat
  bare : Nat
  nx : Nat
  T : TabS
  U : Nat → TabS
namespace DuS
def y (s : DuS) (h : Nat) : Nat := tIx s.k s.d h
def inU (s : DuS) (key : Int) (h : Nat) : Bool := decide (s.bare = 0) && (s.U (s.y h)).has key h
def has (s : DuS) (key : Int) (h : Nat) : Bool := s.inU key h || s.T.has key h
def ent (s : DuS) (key : Int) (h : Nat) : EntS := if s.inU key h = true then (s.U (s.y h)).ent key h else s.T.ent key h
def lkU (s : DuS) (key : Int) (h : Nat) : Nat := if s.bare = 0 then (s.U (s.y h)).looks key h else 0
def lkT (s : DuS) (key : Int) (h : Nat) : Nat := if s.inU key h = true then 0 else s.T.looks key h
def setT (s : DuS) (T : TabS) : DuS := { s with T := T }
def setU (s : DuS) (i : Nat) (V : TabS) : DuS := { s with U := upd s.U i V }
def put (s : DuS) (key v : Int) (h : Nat) (more : Bool) : DuS :=
  if s.inU key h = true then s.setU (s.y h) ((s.U (s.y h)).putT key v h)
  else if s.T.has key h = true then s.setT (s.T.putT key v h)
  else if more = false then s
  else if s.bare = 0 then s.setU (s.y h) ((s.U (s.y h)).putT key v h) else s.setT (s.T.putT key v h)
def fst (s : DuS) (h : Nat) : TabS := if s.bare = 0 then s.U (s.y h) else s.T
def putB (s : DuS) (key : Int) (h : Nat) (more : Bool) : Bool := !s.has key h && more && (s.fst h).putB key h
def putN (s : DuS) (key : Int) (h : Nat) (more : Bool) : Nat := if s.has key h = true then 0 else if more = false then 2 else (s.fst h).putN key h
def del (s : DuS) (key : Int) (h : Nat) : DuS :=
  if s.inU key h = true then s.setU (s.y h) ((s.U (s.y h)).delT key h) else s.setT (s.T.delT key h)
def prep (s : DuS) : DuS := { s with bare := s.bare - 1 }
def move (s : DuS) : DuS := { s with nx := s.nx + 1, T := s.T.takeT s.nx, U := (evF s.k s.d (entsL (s.T.M s.nx) (s.T.S s.nx)) (s.U, 0)).1 }
def selU (s : DuS) (key : Int) (h : Nat) : Bool := decide (s.bare = 0) && ((s.U (s.y h)).has key h || !s.T.has key h)
def selT (s : DuS) (key : Int) (h : Nat) : TabS := if s.selU key h = true then s.U (s.y h) else s.T
def setSel (s : DuS) (key : Int) (h : Nat) (V : TabS) : DuS := if s.selU key h = true then s.setU (s.y h) V else s.setT V
def selB (s : DuS) (a : Nat → Nat) (key : Int) (h : Nat) : Nat := if s.selU key h = true then a (8 + 3 * s.y h) else a 1
def selQ (s : DuS) (a : Nat → Nat) (key : Int) (h : Nat) : Nat := if s.selU key h = true then a (9 + 3 * s.y h) else a 2
def left (s : DuS) : Nat := s.bare + (s.T.n - s.nx)
def all (s : DuS) : Nat → List EntS
  | 0 => s.T.ents
  | i + 1 => s.all i ++ (s.U i).ents
end DuS
theorem sel_has (s : DuS) (key : Int) (h : Nat) : (s.selT key h).has key h = s.has key h := by
  unfold DuS.selT DuS.selU DuS.has DuS.inU
  cases c0 : decide (s.bare = 0) <;> cases c1 : (s.U (s.y h)).has key h <;> cases c2 : s.T.has key h <;> simp [c1, c2]
theorem sel_ent (s : DuS) (key : Int) (h : Nat) : (s.selT key h).ent key h = s.ent key h := by
  unfold DuS.selT DuS.selU DuS.ent DuS.inU
  cases c0 : decide (s.bare = 0) <;> cases c1 : (s.U (s.y h)).has key h <;> cases c2 : s.T.has key h <;> simp [c1]
  rw [TFun.ent_not c1, TFun.ent_not c2]
theorem put_yes {s : DuS} {key : Int} {h : Nat} (hh : s.has key h = true) (v : Int) (more : Bool) : s.put key v h more = s.setSel key h ((s.selT key h).putT key v h) := by
  unfold DuS.put DuS.setSel DuS.selT DuS.selU
  unfold DuS.has at hh
  unfold DuS.inU at hh ⊢
  cases c0 : decide (s.bare = 0) <;> cases c1 : (s.U (s.y h)).has key h <;> cases c2 : s.T.has key h <;> simp [c0, c1, c2] at hh ⊢
theorem put_no {s : DuS} {key : Int} {h : Nat} (hh : s.has key h = false) (v : Int) : s.put key v h false = s := by
  unfold DuS.has at hh
  simp only [Bool.or_eq_false_iff] at hh
  unfold DuS.put
  rw [hh.1, hh.2]; rfl
theorem put_more {s : DuS} {key : Int} {h : Nat} (hh : s.has key h = false) (v : Int) : s.put key v h true = s.setSel key h ((s.selT key h).putT key v h) := by
  unfold DuS.has at hh
  simp only [Bool.or_eq_false_iff] at hh
  unfold DuS.put
  rw [hh.1, hh.2]
  have h1 := hh.1
  unfold DuS.inU at h1
  unfold DuS.setSel DuS.selT DuS.selU
  rw [hh.2]
  by_cases c0 : s.bare = 0
  · simp [c0]
  · simp [c0]
theorem sel_fst {s : DuS} {key : Int} {h : Nat} (hh : s.has key h = false) : s.selT key h = s.fst h := by
  unfold DuS.has at hh
  simp only [Bool.or_eq_false_iff] at hh
  unfold DuS.selT DuS.selU DuS.fst
  rw [hh.2]
  by_cases c0 : s.bare = 0
  · simp [c0]
  · simp [c0]
theorem del_yes {s : DuS} {key : Int} {h : Nat} (hh : s.has key h = true) : s.del key h = s.setSel key h ((s.selT key h).delT key h) := by
  unfold DuS.del DuS.setSel DuS.selT DuS.selU
  unfold DuS.has at hh
  unfold DuS.inU at hh ⊢
  cases c0 : decide (s.bare = 0) <;> cases c1 : (s.U (s.y h)).has key h <;> cases c2 : s.T.has key h <;> simp [c0, c1, c2] at hh ⊢
theorem del_no {s : DuS} {key : Int} {h : Nat} (hh : s.has key h = false) : s.del key h = s := by
  unfold DuS.has at hh
  simp only [Bool.or_eq_false_iff] at hh
  unfold DuS.del
  rw [hh.1]
  simp only [Bool.false_eq_true, if_false]
  unfold TabS.delT
  rw [hh.2]; rfl
structure DuOK (s : DuS) : Prop where
  hk : s.k = 1 ∨ (s.k = 2 ∧ s.d ≤ 15)
  hr : rightB (s.gn : Int) = true
  hb : s.bare ≤ s.k * s.gn
  hx : s.nx ≤ s.T.n
  t : TGood s.T
  u : ∀ i, i < s.k → TGood (s.U i) ∧ (s.U i).n = s.gn
  pre : 0 < s.bare → s.nx = 0 ∧ ∀ i, i < s.k → s.U i = TabS.new s.gn
section
variable {s : DuS}
theorem DuOK.yk (h : DuOK s) (hs : Nat) : s.y hs < s.k := tIx_lt h.hk
theorem putT_nn (T : TabS) (key v : Int) (h : Nat) : (T.putT key v h).n = T.n := by
  unfold TabS.putT; split
  · rfl
  · split <;> rfl
theorem delT_nn (T : TabS) (key : Int) (h : Nat) : (T.delT key h).n = T.n := by
  unfold TabS.delT; split <;> rfl
theorem DuOK.setT {T : TabS} (h : DuOK s) (hT : TGood T) (hn : T.n = s.T.n) : DuOK (s.setT T) := ⟨h.hk, h.hr, h.hb, by show s.nx ≤ T.n; rw [hn]; exact h.hx, hT, h.u, h.pre⟩
theorem DuOK.setU {V : TabS} {i : Nat} (h : DuOK s) (h0 : s.bare = 0) (hV : TGood V) (hn : V.n = s.gn) : DuOK (s.setU i V) :=
  ⟨h.hk, h.hr, h.hb, h.hx, h.t, fun j hj => by
    show TGood (upd s.U i V j) ∧ (upd s.U i V j).n = s.gn
    by_cases e : j = i
    · subst e; rw [upd_same]; exact ⟨hV, hn⟩
    · rw [upd_other _ _ e]; exact h.u j hj, fun hb => by have : 0 < s.bare := hb; omega⟩
theorem DuOK.inU0 {key : Int} {hs : Nat} (hi : s.inU key hs = true) : s.bare = 0 ∧ (s.U (s.y hs)).has key hs = true := by
  unfold DuS.inU at hi
  simpa using hi
theorem DuOK.put (h : DuOK s) (key v : Int) {hs : Nat} (hh : hs < 18446744073709551616) (more : Bool) : DuOK (s.put key v hs more) := by
  have hu := h.u _ (h.yk hs)
  unfold DuS.put
  split
  · rename_i c
    exact h.setU (DuOK.inU0 c).1 (hu.1.putT v hh) ((putT_nn _ _ _ _).trans hu.2)
  · split
    · exact h.setT (h.t.putT v hh) (putT_nn _ _ _ _)
    · split
      · exact h
      · split
        · rename_i c; exact h.setU c (hu.1.putT v hh) ((putT_nn _ _ _ _).trans hu.2)
        · exact h.setT (h.t.putT v hh) (putT_nn _ _ _ _)
theorem DuOK.del (h : DuOK s) (key : Int) (hs : Nat) : DuOK (s.del key hs) := by
  have hu := h.u _ (h.yk hs)
  unfold DuS.del
  split
  · rename_i c
    exact h.setU (DuOK.inU0 c).1 hu.1.delT ((delT_nn _ _ _).trans hu.2)
  · exact h.setT h.t.delT (delT_nn _ _ _)
theorem DuOK.prep (h : DuOK s) : DuOK s.prep := ⟨h.hk, h.hr, Nat.le_trans (Nat.sub_le _ _) h.hb, h.hx, h.t, h.u, fun hb => h.pre (by have : 0 < s.bare - 1 := hb; omega)⟩
theorem evF_good {k d : Nat} (hk : k = 1 ∨ (k = 2 ∧ d ≤ 15)) {gn : Nat} : ∀ (l : List EntS) (U : Nat → TabS) (p : Nat), (∀ e ∈ l, e.hash.toNat < 18446744073709551616) → (∀ i, i < k → TGood (U i) ∧ (U i).n = gn) → ∀ i, i < k → TGood ((evF k d l (U, p)).1 i) ∧ ((evF k d l (U, p)).1 i).n = gn
  | [], U, p, _, h => h
  | e :: l, U, p, hl, h => by
    show ∀ i, i < k → TGood ((evF k d l (evS k d (U, p) e)).1 i) ∧ _
    refine evF_good hk l _ _ (fun a ha => hl a (List.mem_cons_of_mem _ ha)) (fun i hi => ?_)
    have hy := tIx_lt (h := e.hash.toNat) hk
    by_cases c : i = tIx k d e.hash.toNat
    · subst c
      rw [upd_same, putT_nn]
      exact ⟨(h _ hi).1.putT _ (hl e List.mem_cons_self), (h _ hi).2⟩
    · rw [upd_other _ _ c]; exact h i hi
theorem DuOK.move (h : DuOK s) (h0 : s.bare = 0) (hn : s.nx < s.T.n) : DuOK s.move := by
  have hl : ∀ e ∈ entsL (s.T.M s.nx) (s.T.S s.nx), e.hash.toNat < 18446744073709551616 := fun e he => (ents_hash (h.t.good s.nx hn) he).2
  refine ⟨h.hk, h.hr, h.hb, ?_, h.t.takeT hn, evF_good h.hk _ _ _ hl h.u, fun hb => ?_⟩
  · show s.nx + 1 ≤ (s.T.takeT s.nx).n
    rw [takeT_n]; omega
  · have : 0 < s.bare := hb
    omega
end
def ltSum (U : Nat → TabS) (k : Nat) : Int := ((List.range k).map fun i => (U i).lv + (U i).tb).sum
theorem ltSum_one (U : Nat → TabS) : ltSum U 1 = (U 0).lv + (U 0).tb := by simp [ltSum]
theorem ltSum_two (U : Nat → TabS) : ltSum U 2 = (U 0).lv + (U 0).tb + ((U 1).lv + (U 1).tb) := by simp [ltSum, List.range_succ]
theorem ltSum_upd {U : Nat → TabS} {k i : Nat} (hk : k = 1 ∨ k = 2) (hi : i < k) (T' : TabS) : ltSum (upd U i T') k = ltSum U k - ((U i).lv + (U i).tb) + (T'.lv + T'.tb) := by
  rcases hk with rfl | rfl
  · obtain rfl : i = 0 := by omega
    rw [ltSum_one, ltSum_one, upd_same]; omega
  · rw [ltSum_two, ltSum_two]
    obtain rfl | rfl : i = 0 ∨ i = 1 := by omega
    · rw [upd_same, upd_other _ _ (by decide : (1 : Nat) ≠ 0)]; omega
    · rw [upd_same, upd_other _ _ (by decide : (0 : Nat) ≠ 1)]; omega
theorem ltSum_le {U : Nat → TabS} {k i : Nat} (hk : k = 1 ∨ k = 2) (hi : i < k) (h0 : ∀ j, j < k → 0 ≤ (U j).lv + (U j).tb) : (U i).lv + (U i).tb ≤ ltSum U k := by
  rcases hk with rfl | rfl
  · obtain rfl : i = 0 := by omega
    rw [ltSum_one]; omega
  · rw [ltSum_two]
    have h1 := h0 0 (by decide); have h2 := h0 1 (by decide)
    have hi' : i = 0 ∨ i = 1 := by omega
    rcases hi' with rfl | rfl
    · omega
    · omega
theorem put_lt {T : TabS} (key v : Int) (h : Nat) : (T.putT key v h).lv + (T.putT key v h).tb ≤ T.lv + T.tb + (if T.putB key h = true then 1 else 0) := by
  unfold TabS.putT TabS.putB
  cases c : T.has key h with
  | true =>
    rw [if_pos rfl]
    show T.lv + T.tb ≤ _
    simp
  | false =>
    rw [if_neg Bool.false_ne_true]
    cases d : T.room key h with
    | true =>
      rw [if_pos rfl]
      show T.lv + 1 + (if ln _ _ = 254 then T.tb - 1 else T.tb) ≤ _
      simp only [Bool.not_false, Bool.true_and, if_true]
      split <;> omega
    | false => rw [if_neg Bool.false_ne_true]; simp
theorem del_lt {T : TabS} (key : Int) (h : Nat) : (T.delT key h).lv + (T.delT key h).tb ≤ T.lv + T.tb := by
  unfold TabS.delT
  split
  · show T.lv - 1 + (if openB _ = true then T.tb else T.tb + 1) ≤ _
    split <;> omega
  · omega
structure UF (U : Nat → TabS) (k d : Nat) (H : Int → Nat) : Prop where
  f : ∀ i, i < k → TFun (U i) H
  side : ∀ i, i < k → ∀ q, (U i).has q (H q) = true → tIx k d (H q) = i
section
variable {U : Nat → TabS} {k d gn : Nat} {H : Int → Nat}
theorem UF.at (h : UF U k d H) (hk : k = 1 ∨ (k = 2 ∧ d ≤ 15)) (q v : Int) (hh : H q < 18446744073709551616) :
    ∀ i, i < k → ∀ q', (upd U (tIx k d (H q)) ((U (tIx k d (H q))).putT q v (H q)) i).has q' (H q') = (if q' = q ∧ tIx k d (H q) = i then (U (tIx k d (H q))).ok q (H q) else (U i).has q' (H q')) ∧
      (upd U (tIx k d (H q)) ((U (tIx k d (H q))).putT q v (H q)) i).ent q' (H q') = if q' = q ∧ tIx k d (H q) = i then (if (U (tIx k d (H q))).ok q (H q) = true then ⟨q, v, H q⟩ else EntS.zero) else (U i).ent q' (H q') := fun i hik q' => by
  have hi := tIx_lt (h := H q) hk
  generalize hix : tIx k d (H q) = x at *
  by_cases e : i = x
  · subst e
    rw [upd_same]
    have h1 := (h.f i hi).put_at q v hh q'
    rw [h1.1, h1.2]
    simp only [and_true, and_self]
  · rw [upd_other _ _ e]
    have e3 : ¬ x = i := fun e' => e e'.symm
    simp [e3]
theorem UF.put (h : UF U k d H) (hk : k = 1 ∨ (k = 2 ∧ d ≤ 15)) (q v : Int) (hh : H q < 18446744073709551616) : UF (upd U (tIx k d (H q)) ((U (tIx k d (H q))).putT q v (H q))) k d H := by
  have hi := tIx_lt (h := H q) hk
  refine ⟨fun i hik => ?_, fun i hik q' hq' => ?_⟩
  · by_cases e : i = tIx k d (H q)
    · subst e; rw [upd_same]; exact (h.f _ hi).putT q v hh
    · rw [upd_other _ _ e]; exact h.f i hik
  · rw [(h.at hk q v hh i hik q').1] at hq'
    split at hq'
    · rename_i e; rw [e.1]; exact e.2
    · exact h.side i hik q' hq'
theorem UF.del (h : UF U k d H) (hk : k = 1 ∨ (k = 2 ∧ d ≤ 15)) (q : Int) : UF (upd U (tIx k d (H q)) ((U (tIx k d (H q))).delT q (H q))) k d H := by
  have hi := tIx_lt (h := H q) hk
  refine ⟨fun i hik => ?_, fun i hik q' hq' => ?_⟩
  · by_cases e : i = tIx k d (H q)
    · subst e; rw [upd_same]; exact (h.f _ hi).delT q (H q)
    · rw [upd_other _ _ e]; exact h.f i hik
  · by_cases e : i = tIx k d (H q)
    · subst e
      rw [upd_same, ((h.f _ hi).del_at q q').1] at hq'
      split at hq'
      · cases hq'
      · exact h.side _ hi q' hq'
    · rw [upd_other _ _ e] at hq'; exact h.side i hik q' hq'
theorem evF_F (h : UF U k d H) (hk : k = 1 ∨ (k = 2 ∧ d ≤ 15)) (l : List EntS) (hH : ∀ e ∈ l, e.hash = (H e.key : Int) ∧ H e.key < 18446744073709551616) (hok : EvOk k d l U) :
    ∀ j, j ≤ l.length → UF (evF k d (l.take j) (U, 0)).1 k d H ∧
      (∀ i, i < k → ∀ q, ((evF k d (l.take j) (U, 0)).1 i).has q (H q) = true ↔ (U i).has q (H q) = true ∨ ∃ p, ∃ hp : p < l.length, p < j ∧ l[p].key = q ∧ tIx k d (H q) = i) ∧
      (∀ i, i < k → ∀ q, (∀ p (hp : p < l.length), p < j → l[p].key = q → tIx k d (H q) ≠ i) → ((evF k d (l.take j) (U, 0)).1 i).ent q (H q) = (U i).ent q (H q)) ∧
      (∀ p (hp : p < l.length), p < j → ((evF k d (l.take j) (U, 0)).1 (tIx k d (H l[p].key))).ent l[p].key (H l[p].key) = l[p])
  | 0, _ => ⟨h, fun i hi q => ⟨fun e => .inl e, fun e => by rcases e with e | ⟨p, hp, h0, -⟩; exact e; omega⟩, fun i hi q _ => rfl, fun p hp h0 => by omega⟩
  | j + 1, hj => by
    obtain ⟨h1, h3, h4, h5⟩ := evF_F h hk l hH hok j (by omega)
    have hjl : j < l.length := by omega
    have hb := hok j hjl
    rw [evF_take hjl]
    generalize hs : evF k d (l.take j) (U, 0) = s at *
    obtain ⟨hh1, hh2⟩ := hH l[j] (List.getElem_mem hjl)
    have hcv : l[j].hash.toNat = H l[j].key := by rw [hh1]; simp
    rw [hcv] at hb
    have hi := tIx_lt (h := H l[j].key) hk
    have hokj : (s.1 (tIx k d (H l[j].key))).ok l[j].key (H l[j].key) = true := by
      rw [(h1.f _ hi).putB] at hb
      unfold TabS.ok
      simp only [Bool.and_eq_true, decide_eq_true_eq] at hb
      simp [hb.2]
    have hno : (s.1 (tIx k d (H l[j].key))).has l[j].key (H l[j].key) = false := by
      unfold TabS.putB at hb
      simp only [Bool.and_eq_true, Bool.not_eq_true'] at hb
      exact hb.1
    have p4 := h1.at hk l[j].key l[j].val hh2
    unfold evS
    rw [hcv]
    refine ⟨h1.put hk l[j].key l[j].val hh2, fun i hi' q => ?_, fun i hi' q hq => ?_, fun p hp hpj => ?_⟩
    · rw [(p4 i hi' q).1]
      by_cases c : q = l[j].key ∧ tIx k d (H l[j].key) = i
      · rw [if_pos c, hokj]
        exact ⟨fun _ => .inr ⟨j, hjl, by omega, c.1.symm, by rw [c.1]; exact c.2⟩, fun _ => rfl⟩
      · rw [if_neg c, h3 i hi' q]
        constructor
        · rintro (e | ⟨p, hp, hpj, e1, e2⟩)
          · exact .inl e
          · exact .inr ⟨p, hp, by omega, e1, e2⟩
        · rintro (e | ⟨p, hp, hpj, e1, e2⟩)
          · exact .inl e
          · by_cases e : p = j
            · subst e; exact absurd ⟨e1.symm, by rw [e1]; exact e2⟩ c
            · exact .inr ⟨p, hp, by omega, e1, e2⟩
    · rw [(p4 i hi' q).2, if_neg (fun e => hq j hjl (by omega) e.1.symm (by rw [e.1]; exact e.2))]
      exact h4 i hi' q (fun p hp hpj => hq p hp (by omega))
    · by_cases e : p = j
      · subst e
        rw [(p4 _ hi l[p].key).2, if_pos ⟨rfl, rfl⟩, if_pos hokj, ← hh1]
      · have hi2 := tIx_lt (h := H l[p].key) hk
        have hpp : p < j := by omega
        have hne : l[p].key ≠ l[j].key := fun e' => by
          have := (h3 (tIx k d (H l[p].key)) hi2 l[p].key).2 (.inr ⟨p, hp, hpp, rfl, rfl⟩)
          rw [e', hno] at this; cases this
        rw [(p4 _ hi2 l[p].key).2, if_neg (fun e' => hne e'.1)]
        exact h5 p hp hpp
end
structure DuF (s : DuS) (H : Int → Nat) : Prop where
  ok : DuOK s
  t : TFun s.T H
  u : UF s.U s.k s.d H
  apart : ∀ q, s.T.has q (H q) = true → (s.U (s.y (H q))).has q (H q) = false
section
variable {s : DuS} {H : Int → Nat}
theorem DuF.newU (h : DuF s H) (hb : 0 < s.bare) (q : Int) : (s.U (s.y (H q))).has q (H q) = false := by
  rw [(h.ok.pre hb).2 _ (h.ok.yk _), new_no h.ok.hr]
theorem DuF.has_eq (h : DuF s H) (q : Int) : s.has q (H q) = ((s.U (s.y (H q))).has q (H q) || s.T.has q (H q)) := by
  unfold DuS.has DuS.inU
  by_cases hb : s.bare = 0
  · rw [decide_eq_true hb, Bool.true_and]
  · rw [decide_eq_false hb, h.newU (by omega), Bool.false_and]
theorem DuF.ent_eq (h : DuF s H) (q : Int) : s.ent q (H q) = if (s.U (s.y (H q))).has q (H q) = true then (s.U (s.y (H q))).ent q (H q) else s.T.ent q (H q) := by
  unfold DuS.ent DuS.inU
  by_cases hb : s.bare = 0
  · rw [decide_eq_true hb, Bool.true_and]
  · rw [decide_eq_false hb, h.newU (by omega), Bool.false_and]
theorem DuF.inU_eq (h : DuF s H) (q : Int) : s.inU q (H q) = (s.U (s.y (H q))).has q (H q) := by
  unfold DuS.inU
  by_cases hb : s.bare = 0
  · rw [decide_eq_true hb, Bool.true_and]
  · rw [decide_eq_false hb, h.newU (by omega), Bool.false_and]
theorem DuF.setT {T : TabS} (h : DuF s H) (hT : TFun T H) (hn : T.n = s.T.n) (ha : ∀ q, T.has q (H q) = true → (s.U (s.y (H q))).has q (H q) = false) : DuF (s.setT T) H := ⟨h.ok.setT hT.good hn, hT, h.u, ha⟩
theorem DuF.put (h : DuF s H) (q v : Int) (hh : H q < 18446744073709551616) (more : Bool) : DuF (s.put q v (H q) more) H := by
  refine ⟨h.ok.put q v hh more, ?_, ?_, ?_⟩
  · unfold DuS.put
    split
    · exact h.t
    · split
      · exact h.t.putT q v hh
      · split
        · exact h.t
        · split
          · exact h.t
          · exact h.t.putT q v hh
  · unfold DuS.put
    split
    · exact h.u.put h.ok.hk q v hh
    · split
      · exact h.u
      · split
        · exact h.u
        · split
          · exact h.u.put h.ok.hk q v hh
          · exact h.u
  · have hT : ∀ (hc : (s.U (s.y (H q))).has q (H q) = false) q', (s.T.putT q v (H q)).has q' (H q') = true → (s.U (s.y (H q'))).has q' (H q') = false := fun hc q' hq' => by
      rw [(h.t.put_at q v hh q').1] at hq'
      by_cases e : q' = q
      · subst e; exact hc
      · rw [if_neg e] at hq'; exact h.apart q' hq'
    have hU : ∀ (hc : s.T.has q (H q) = false) q', s.T.has q' (H q') = true → (upd s.U (s.y (H q)) ((s.U (s.y (H q))).putT q v (H q)) (s.y (H q'))).has q' (H q') = false := fun hc q' hq' => by
      have hne : q' ≠ q := fun e => by subst e; rw [hc] at hq'; cases hq'
      show (upd s.U (tIx s.k s.d (H q)) ((s.U (tIx s.k s.d (H q))).putT q v (H q)) (s.y (H q'))).has q' (H q') = false
      rw [(h.u.at h.ok.hk q v hh _ (h.ok.yk (H q')) q').1, if_neg (fun e => hne e.1)]
      exact h.apart q' hq'
    unfold DuS.put
    split
    · rename_i c
      rw [h.inU_eq] at c
      refine hU ?_
      cases c2 : s.T.has q (H q) with
      | false => rfl
      | true => rw [h.apart q c2] at c; cases c
    · rename_i c
      rw [h.inU_eq, Bool.not_eq_true] at c
      split
      · exact hT c
      · rename_i c2
        rw [Bool.not_eq_true] at c2
        split
        · exact h.apart
        · split
          · exact hU c2
          · exact hT c
theorem DuF.del (h : DuF s H) (q : Int) : DuF (s.del q (H q)) H := by
  refine ⟨h.ok.del q (H q), ?_, ?_, ?_⟩
  · unfold DuS.del
    split
    · exact h.t
    · exact h.t.delT q (H q)
  · unfold DuS.del
    split
    · exact h.u.del h.ok.hk q
    · exact h.u
  · unfold DuS.del
    split
    · intro q' hq'
      have hq'' : s.T.has q' (H q') = true := hq'
      have ha := h.apart q' hq''
      show (upd s.U (s.y (H q)) ((s.U (s.y (H q))).delT q (H q)) (s.y (H q'))).has q' (H q') = false
      by_cases e : s.y (H q') = s.y (H q)
      · rw [e] at ha ⊢
        rw [upd_same, ((h.u.f _ (h.ok.yk (H q))).del_at q q').1]
        split
        · rfl
        · exact ha
      · rw [upd_other _ _ e]; exact ha
    · intro q' hq'
      have hq'' : (s.T.delT q (H q)).has q' (H q') = true := hq'
      rw [(h.t.del_at q q').1] at hq''
      split at hq''
      · cases hq''
      · exact h.apart q' hq''
theorem DuF.prep (h : DuF s H) : DuF s.prep H := ⟨h.ok.prep, h.t, h.u, h.apart⟩
theorem DuF.move (h : DuF s H) (hHb : ∀ q, H q < 18446744073709551616) (h0 : s.bare = 0) (hn : s.nx < s.T.n) (hok : EvOk s.k s.d (entsL (s.T.M s.nx) (s.T.S s.nx)) s.U) :
    DuF s.move H ∧ ∀ q, s.move.has q (H q) = s.has q (H q) ∧ s.move.ent q (H q) = s.ent q (H q) := by
  obtain ⟨g1, g2, g3⟩ := group_ents h.t hHb hn
  have hT' := h.t.takeT hn
  have hent : ∀ e ∈ entsL (s.T.M s.nx) (s.T.S s.nx), s.T.has e.key (H e.key) = true ∧ e = s.T.ent e.key (H e.key) := fun e he => by
    unfold entsL at he
    obtain ⟨k', hk', rfl⟩ := List.mem_map.1 he
    have ha : s.T.At (s.T.S s.nx k').key s.nx k' := by
      unfold lanesL at hk'
      simp only [List.mem_filter, List.mem_range] at hk'
      exact ⟨hn, hk'.1, hk'.2, rfl⟩
    exact ⟨h.t.has_of ha, (h.t.ent_of ha).symm⟩
  have hmk := h.ok.move h0 hn
  obtain ⟨l, hl⟩ : ∃ l, l = entsL (s.T.M s.nx) (s.T.S s.nx) := ⟨_, rfl⟩
  rw [← hl] at g1 g2 g3 hent hok
  have hmU : s.move.U = (evF s.k s.d l (s.U, 0)).1 := by rw [hl]; rfl
  obtain ⟨i1, i3, i4, i5⟩ := evF_F h.u h.ok.hk l g1 hok l.length (Nat.le_refl _)
  rw [List.take_length, ← hmU] at i1 i3 i4 i5
  have hold : ∀ q, (s.T.takeT s.nx).has q (H q) = true ↔ s.T.has q (H q) = true ∧ ¬ ∃ p, ∃ hp : p < l.length, l[p].key = q := fun q => by
    rw [hT'.has_iff, h.t.has_iff]
    constructor
    · rintro ⟨g', k', ha⟩
      rw [at_takeT hn] at ha
      refine ⟨⟨g', k', ha.2⟩, ?_⟩
      rintro ⟨p, hp, hq⟩
      obtain ⟨k2, ha2⟩ := (g3 q).1 ⟨l[p], List.getElem_mem hp, hq⟩
      exact ha.1 (h.t.one _ _ _ _ _ ha.2 ha2).1
    · rintro ⟨⟨g', k', ha⟩, hno⟩
      refine ⟨g', k', (at_takeT hn q g' k').2 ⟨fun e => ?_, ha⟩⟩
      subst e
      obtain ⟨e, he, hq⟩ := (g3 q).2 ⟨k', ha⟩
      obtain ⟨p, hp, rfl⟩ := List.getElem_of_mem he
      exact hno ⟨p, hp, hq⟩
  have hF : DuF s.move H := by
    refine ⟨hmk, hT', i1, fun q hq => ?_⟩
    have hq2 := (hold q).1 hq
    show (s.move.U (tIx s.k s.d (H q))).has q (H q) = false
    rw [← Bool.not_eq_true, i3 _ (tIx_lt h.ok.hk)]
    rintro (e | ⟨p, hp, -, hkey, -⟩)
    · have := h.apart q hq2.1
      rw [show s.y (H q) = tIx s.k s.d (H q) from rfl, e] at this; cases this
    · exact hq2.2 ⟨p, hp, hkey⟩
  refine ⟨hF, fun q => ?_⟩
  have hy := h.ok.yk (H q)
  rw [hF.has_eq, hF.ent_eq, h.has_eq, h.ent_eq]
  show ((s.move.U (tIx s.k s.d (H q))).has q (H q) || (s.T.takeT s.nx).has q (H q)) = _ ∧ (if (s.move.U (tIx s.k s.d (H q))).has q (H q) = true then (s.move.U (tIx s.k s.d (H q))).ent q (H q) else (s.T.takeT s.nx).ent q (H q)) = _
  rw [show s.y (H q) = tIx s.k s.d (H q) from rfl] at hy ⊢
  by_cases e : ∃ p, ∃ hp : p < l.length, l[p].key = q
  · obtain ⟨p, hp, rfl⟩ := e
    obtain ⟨e1, e2⟩ := hent _ (List.getElem_mem hp)
    have u1 := (i3 _ hy l[p].key).2 (.inr ⟨p, hp, hp, rfl, rfl⟩)
    have u0 : (s.U (tIx s.k s.d (H l[p].key))).has l[p].key (H l[p].key) = false := h.apart _ e1
    rw [u1, u0, e1, if_pos rfl, if_neg (by decide), i5 p hp hp]
    exact ⟨rfl, e2⟩
  · have u1 : (s.move.U (tIx s.k s.d (H q))).has q (H q) = (s.U (tIx s.k s.d (H q))).has q (H q) := by
      rw [Bool.eq_iff_iff, i3 _ hy q]
      exact ⟨fun c => by rcases c with c | ⟨p, hp, -, c, -⟩; exact c; exact absurd ⟨p, hp, c⟩ e, fun c => .inl c⟩
    have u2 := i4 _ hy q (fun p hp _ c => absurd ⟨p, hp, c⟩ e)
    have t1 : (s.T.takeT s.nx).has q (H q) = s.T.has q (H q) := by
      rw [Bool.eq_iff_iff, hold q]
      exact ⟨fun c => c.1, fun c => ⟨c, e⟩⟩
    have t2 : (s.T.takeT s.nx).ent q (H q) = s.T.ent q (H q) := by
      cases c : s.T.has q (H q) with
      | false =>
        rw [TFun.ent_not c, TFun.ent_not (t1.trans c)]
      | true =>
        obtain ⟨g', k', ha⟩ := hT'.has_iff.1 (t1.trans c)
        have ha2 := (at_takeT hn q g' k').1 ha
        rw [hT'.ent_of ha, (takeT_other s.T ha2.1).2, ← h.t.ent_of ha2.2]
    rw [u1, u2, t1, t2]
    exact ⟨rfl, rfl⟩
end
end Go.Proofs.YtolhmibejhldkaaGreatDoor

namespace Go.Proofs.YtolhmibejhldkaaGreatDoor
open Go.RowKit Go.Proofs
theorem mem_entsTo {T : TabS} {a : EntS} : ∀ {n : Nat}, a ∈ entsTo' T n ↔ ∃ g, g < n ∧ a ∈ entsL (T.M g) (T.S g)
  | 0 => ⟨fun h => by simp [entsTo'] at h, fun ⟨g, h, _⟩ => by omega⟩
  | n + 1 => by
    rw [entsTo_snoc, List.mem_append, mem_entsTo]
    constructor
    · rintro (⟨g, h1, h2⟩ | h)
      · exact ⟨g, by omega, h2⟩
      · exact ⟨n, by omega, h⟩
    · rintro ⟨g, h1, h2⟩
      by_cases e : g = n
      · subst e; exact .inr h2
      · exact .inl ⟨g, by omega, h2⟩
theorem mem_ents {T : TabS} {H : Int → Nat} (hT : TFun T H) {a : EntS} (h : a ∈ T.ents) : T.has a.key (H a.key) = true ∧ T.ent a.key (H a.key) = a := by
  unfold TabS.ents at h
  obtain ⟨g, hg, hm⟩ := mem_entsTo.1 h
  unfold entsL at hm
  obtain ⟨k', hk', rfl⟩ := List.mem_map.1 hm
  have ha : T.At (T.S g k').key g k' := by
    unfold lanesL at hk'
    simp only [List.mem_filter, List.mem_range] at hk'
    exact ⟨hg, hk'.1, hk'.2, rfl⟩
  exact ⟨hT.has_of ha, hT.ent_of ha⟩
theorem new_ents (n : Nat) : (TabS.new n).ents = [] := by
  rw [List.eq_nil_iff_forall_not_mem]
  intro a h
  unfold TabS.ents at h
  obtain ⟨g, hg, hm⟩ := mem_entsTo.1 h
  unfold entsL at hm
  obtain ⟨k', hk', -⟩ := List.mem_map.1 hm
  unfold lanesL at hk'
  simp only [List.mem_filter, List.mem_range] at hk'
  have h1 := hk'.2
  rw [show (TabS.new n).M g = rep 128 from rfl, full_iff, ln_rep 128 _ (by decide) hk'.1] at h1
  omega
def DuS.entsU (s : DuS) : Nat → List EntS
  | 0 => []
  | i + 1 => s.entsU i ++ (s.U i).ents
theorem all_entsU (s : DuS) : ∀ i, s.all i = s.T.ents ++ s.entsU i
  | 0 => (List.append_nil _).symm
  | i + 1 => by show s.all i ++ _ = _ ++ (s.entsU i ++ _); rw [all_entsU s i, List.append_assoc]
section
variable {s : DuS} {H : Int → Nat}
end
end Go.Proofs.YtolhmibejhldkaaGreatDoor

namespace Go.Proofs.YtolhmibejhldkaaGreatDoor
open Go.RowKit Go.Proofs
def DuS.pr (s : DuS) (i : Nat) : Nat := min s.gn (s.k * s.gn - s.bare - i * s.gn)
def Used (k : Nat) (b0 : Bool) (x : Nat) : Prop := x < 4 ∨ (b0 = true ∧ x < 7) ∨ (7 ≤ x ∧ x < 7 + 3 * k)
structure DuN (a : Nat → Nat) (k : Nat) (b0 : Bool) (n0 : Nat) : Prop where
  inj : ∀ x y, Used k b0 x → Used k b0 y → a x = a y → x = y
  ge : ∀ x, Used k b0 x → n0 ≤ a x
structure DuA (w : World) (a : Nat → Nat) (s : DuS) (bcap : Nat) (tk : Bool) (E : Nat → Addr) (w0 : World) : Prop where
  hb : 0 < s.bare
  hd : Blk w (a 0) 165 #[.pointer (some ⟨a 1, 0, none⟩), .int .i64 (s.d : Int), .slice (some ⟨a 3, 0, none⟩) s.k bcap, .slice none 0 0, .pointer none, .bool tk]
  bl : ∀ i, i < s.k → w.cell? ⟨a 3, i, none⟩ = some (.pointer (some ⟨a (7 + 3 * i), 0, none⟩))
  bz : a 3 < w.heap.size
  bw : ∀ i, i < s.k → BW w (a (7 + 3 * i)) (a (8 + 3 * i)) (a (9 + 3 * i)) s.gn (s.pr i) false
  t : TN w (a 1) (a 2) s.T E w0
  n : DuN a s.k false w0.heap.size
structure DuB (w : World) (a : Nat → Nat) (s : DuS) (bcap fcap cap5 : Nat) (tk : Bool) (E : Nat → Addr) (w0 : World) : Prop where
  hb : s.bare = 0
  hd : Blk w (a 0) 165 #[.pointer (some ⟨a 1, 0, none⟩), .int .i64 (s.d : Int), .slice (some ⟨a 3, 0, none⟩) s.k bcap, .slice (some ⟨a 4, 0, none⟩) s.k fcap, .pointer (some ⟨a 5, 0, none⟩), .bool tk]
  bl : ∀ i, i < s.k → w.cell? ⟨a 3, i, none⟩ = some (.pointer (some ⟨a (7 + 3 * i), 0, none⟩))
  bz : a 3 < w.heap.size
  bb : ∀ i, i < s.k → Blk w (a (7 + 3 * i)) 211 #[.pointer none, .int .i64 (s.gn : Int), .int .i64 (s.gn : Int)]
  fl : ∀ i, i < s.k → w.cell? ⟨a 4, i, none⟩ = some (.pointer (some ⟨a (8 + 3 * i), 0, none⟩))
  fz : a 4 < w.heap.size
  e : EW w (a 5) (a 1) (a 6) cap5 s.k (fun i => a (8 + 3 * i)) s.d s.nx
  t : TN w (a 1) (a 2) s.T E w0
  u : ∀ i, i < s.k → TN w (a (8 + 3 * i)) (a (9 + 3 * i)) (s.U i) E w0
  n : DuN a s.k true w0.heap.size
theorem Used.lt4 {k x : Nat} {b : Bool} (h : x < 4) : Used k b x := .inl h
theorem Used.lt7 {k x : Nat} (h : x < 7) : Used k true x := by unfold Used; by_cases c : x < 4; exact .inl c; exact .inr (.inl ⟨rfl, h⟩)
theorem Used.of {k x i : Nat} {b : Bool} (hi : i < k) (h1 : 7 + 3 * i ≤ x) (h2 : x < 10 + 3 * i) : Used k b x := .inr (.inr ⟨by omega, by omega⟩)
theorem DuN.ne {a : Nat → Nat} {k n0 : Nat} {b : Bool} (h : DuN a k b n0) {x y : Nat} (hx : Used k b x) (hy : Used k b y) (hne : x ≠ y) : a x ≠ a y := fun e => hne (h.inj x y hx hy e)
section
variable {w w' w0 : World} {a : Nat → Nat} {s : DuS} {bcap fcap cap5 : Nat} {tk : Bool} {E : Nat → Addr}
theorem DuA.later (h : DuA w a s bcap tk E w0) (hb : Below w.heap.size w w') : DuA w' a s bcap tk E w0 :=
  ⟨h.hb, h.hd.below hb h.hd.lt, fun i hi => (hb.cell (p := ⟨a 3, i, none⟩) h.bz).trans (h.bl i hi), Nat.lt_of_lt_of_le h.bz hb.size, fun i hi => (h.bw i hi).later hb, h.t.later hb, h.n⟩
theorem DuB.later (h : DuB w a s bcap fcap cap5 tk E w0) (hb : Below w.heap.size w w') : DuB w' a s bcap fcap cap5 tk E w0 :=
  ⟨h.hb, h.hd.below hb h.hd.lt, fun i hi => (hb.cell (p := ⟨a 3, i, none⟩) h.bz).trans (h.bl i hi), Nat.lt_of_lt_of_le h.bz hb.size, fun i hi => (h.bb i hi).below hb (h.bb i hi).lt,
    fun i hi => (hb.cell (p := ⟨a 4, i, none⟩) h.fz).trans (h.fl i hi), Nat.lt_of_lt_of_le h.fz hb.size, h.e.later hb, h.t.later hb, fun i hi => (h.u i hi).later hb, h.n⟩
theorem DuA.chg {Y : Nat → Prop} (h : DuA w a s bcap tk E w0) (hc : Chg Y w w') (h0 : ∀ b, Y b → w0.heap.size ≤ b) (hY : ∀ x, Used s.k false x → ¬ Y (a x)) : DuA w' a s bcap tk E w0 :=
  ⟨h.hb, h.hd.chg hc (hY 0 (.lt4 (by decide))), fun i hi => (hc.cell (p := ⟨a 3, i, none⟩) h.bz (hY 3 (.lt4 (by decide)))).trans (h.bl i hi), Nat.lt_of_lt_of_le h.bz hc.size,
    fun i hi => (h.bw i hi).chg hc (hY _ (.of hi (by omega) (by omega))) (hY _ (.of hi (by omega) (by omega))) (hY _ (.of hi (by omega) (by omega))),
    TMW.chg h.t hc h0 (hY 1 (.lt4 (by decide))) (hY 2 (.lt4 (by decide))) (fun b e => by cases e), h.n⟩
theorem DuB.chg {Y : Nat → Prop} (h : DuB w a s bcap fcap cap5 tk E w0) (hc : Chg Y w w') (h0 : ∀ b, Y b → w0.heap.size ≤ b) (hY : ∀ x, Used s.k true x → ¬ Y (a x)) : DuB w' a s bcap fcap cap5 tk E w0 :=
  ⟨h.hb, h.hd.chg hc (hY 0 (.lt4 (by decide))), fun i hi => (hc.cell (p := ⟨a 3, i, none⟩) h.bz (hY 3 (.lt4 (by decide)))).trans (h.bl i hi), Nat.lt_of_lt_of_le h.bz hc.size,
    fun i hi => (h.bb i hi).chg hc (hY _ (.of hi (by omega) (by omega))),
    fun i hi => (hc.cell (p := ⟨a 4, i, none⟩) h.fz (hY 4 (.lt7 (by decide)))).trans (h.fl i hi), Nat.lt_of_lt_of_le h.fz hc.size,
    h.e.chg hc (hY 5 (.lt7 (by decide))) (hY 6 (.lt7 (by decide))),
    TMW.chg h.t hc h0 (hY 1 (.lt4 (by decide))) (hY 2 (.lt4 (by decide))) (fun b e => by cases e),
    fun i hi => TMW.chg (h.u i hi) hc h0 (hY _ (.of hi (by omega) (by omega))) (hY _ (.of hi (by omega) (by omega))) (fun b e => by cases e), h.n⟩
theorem DuA.old {T' : TabS} (h : DuA w a s bcap tk E w0) (ht : TN w' (a 1) (a 2) T' E w0) (hc : Chg (fun b => b = a 1 ∨ b = a 2) w w') : DuA w' a (s.setT T') bcap tk E w0 := by
  have hn : ∀ x, Used s.k false x → x ≠ 1 → x ≠ 2 → ¬ (a x = a 1 ∨ a x = a 2) := fun x hx h1 h2 e => by
    rcases e with e | e
    · exact h1 (h.n.inj _ _ hx (.lt4 (by decide)) e)
    · exact h2 (h.n.inj _ _ hx (.lt4 (by decide)) e)
  exact ⟨h.hb, h.hd.chg hc (hn 0 (.lt4 (by decide)) (by decide) (by decide)), fun i hi => (hc.cell (p := ⟨a 3, i, none⟩) h.bz (hn 3 (.lt4 (by decide)) (by decide) (by decide))).trans (h.bl i hi), Nat.lt_of_lt_of_le h.bz hc.size,
    fun i hi => (h.bw i hi).chg hc (hn _ (.of hi (by omega) (by omega)) (by omega) (by omega)) (hn _ (.of hi (by omega) (by omega)) (by omega) (by omega)) (hn _ (.of hi (by omega) (by omega)) (by omega) (by omega)), ht, h.n⟩
theorem DuB.old {T' : TabS} (h : DuB w a s bcap fcap cap5 tk E w0) (ht : TN w' (a 1) (a 2) T' E w0) (hc : Chg (fun b => b = a 1 ∨ b = a 2) w w') : DuB w' a (s.setT T') bcap fcap cap5 tk E w0 := by
  have hn : ∀ x, Used s.k true x → x ≠ 1 → x ≠ 2 → ¬ (a x = a 1 ∨ a x = a 2) := fun x hx h1 h2 e => by
    rcases e with e | e
    · exact h1 (h.n.inj _ _ hx (.lt4 (by decide)) e)
    · exact h2 (h.n.inj _ _ hx (.lt4 (by decide)) e)
  have h0 : ∀ b, (b = a 1 ∨ b = a 2) → w0.heap.size ≤ b := fun b e => by rcases e with e | e <;> rw [e] <;> exact h.n.ge _ (.lt4 (by decide))
  exact ⟨h.hb, h.hd.chg hc (hn 0 (.lt4 (by decide)) (by decide) (by decide)), fun i hi => (hc.cell (p := ⟨a 3, i, none⟩) h.bz (hn 3 (.lt4 (by decide)) (by decide) (by decide))).trans (h.bl i hi), Nat.lt_of_lt_of_le h.bz hc.size,
    fun i hi => (h.bb i hi).chg hc (hn _ (.of hi (by omega) (by omega)) (by omega) (by omega)),
    fun i hi => (hc.cell (p := ⟨a 4, i, none⟩) h.fz (hn 4 (.lt7 (by decide)) (by decide) (by decide))).trans (h.fl i hi), Nat.lt_of_lt_of_le h.fz hc.size,
    h.e.chg hc (hn 5 (.lt7 (by decide)) (by decide) (by decide)) (hn 6 (.lt7 (by decide)) (by decide) (by decide)), ht,
    fun i hi => TMW.chg (h.u i hi) hc h0 (hn _ (.of hi (by omega) (by omega)) (by omega) (by omega)) (hn _ (.of hi (by omega) (by omega)) (by omega) (by omega)) (fun b e => by cases e), h.n⟩
theorem DuB.target {T' : TabS} {j : Nat} (hj : j < s.k) (h : DuB w a s bcap fcap cap5 tk E w0) (ht : TN w' (a (8 + 3 * j)) (a (9 + 3 * j)) T' E w0) (hc : Chg (fun b => b = a (8 + 3 * j) ∨ b = a (9 + 3 * j)) w w') : DuB w' a (s.setU j T') bcap fcap cap5 tk E w0 := by
  have hn : ∀ x, Used s.k true x → x ≠ 8 + 3 * j → x ≠ 9 + 3 * j → ¬ (a x = a (8 + 3 * j) ∨ a x = a (9 + 3 * j)) := fun x hx h1 h2 e => by
    rcases e with e | e
    · exact h1 (h.n.inj _ _ hx (.of hj (by omega) (by omega)) e)
    · exact h2 (h.n.inj _ _ hx (.of hj (by omega) (by omega)) e)
  have h0 : ∀ b, (b = a (8 + 3 * j) ∨ b = a (9 + 3 * j)) → w0.heap.size ≤ b := fun b e => by rcases e with e | e <;> rw [e] <;> exact h.n.ge _ (.of hj (by omega) (by omega))
  exact ⟨h.hb, h.hd.chg hc (hn 0 (.lt4 (by decide)) (by omega) (by omega)), fun i hi => (hc.cell (p := ⟨a 3, i, none⟩) h.bz (hn 3 (.lt4 (by decide)) (by omega) (by omega))).trans (h.bl i hi), Nat.lt_of_lt_of_le h.bz hc.size,
    fun i hi => (h.bb i hi).chg hc (hn _ (.of hi (by omega) (by omega)) (by omega) (by omega)),
    fun i hi => (hc.cell (p := ⟨a 4, i, none⟩) h.fz (hn 4 (.lt7 (by decide)) (by omega) (by omega))).trans (h.fl i hi), Nat.lt_of_lt_of_le h.fz hc.size,
    h.e.chg hc (hn 5 (.lt7 (by decide)) (by omega) (by omega)) (hn 6 (.lt7 (by decide)) (by omega) (by omega)),
    TMW.chg h.t hc h0 (hn 1 (.lt4 (by decide)) (by omega) (by omega)) (hn 2 (.lt4 (by decide)) (by omega) (by omega)) (fun b e => by cases e),
    fun i hi => by
      by_cases e : i = j
      · subst e; show TN w' _ _ (upd s.U i T' i) E w0; rw [upd_same]; exact ht
      · show TN w' _ _ (upd s.U j T' i) E w0
        rw [upd_other _ _ e]
        exact TMW.chg (h.u i hi) hc h0 (hn _ (.of hi (by omega) (by omega)) (by omega) (by omega)) (hn _ (.of hi (by omega) (by omega)) (by omega) (by omega)) (fun b e => by cases e), h.n⟩
theorem DuA.cells (h : DuA w a s bcap tk E w0) : w.cell? ⟨a 0, 0, none⟩ = some (.pointer (some ⟨a 1, 0, none⟩)) ∧ w.cell? ⟨a 0, 1, none⟩ = some (.int .i64 (s.d : Int)) ∧ w.cell? ⟨a 0, 2, none⟩ = some (.slice (some ⟨a 3, 0, none⟩) s.k bcap) ∧ w.cell? ⟨a 0, 3, none⟩ = some (.slice none 0 0) ∧
    w.cell? ⟨a 0, 4, none⟩ = some (.pointer none) ∧ w.cell? ⟨a 0, 5, none⟩ = some (.bool tk) ∧ a 0 < w.heap.size := ⟨h.hd.cell 0, h.hd.cell 1, h.hd.cell 2, h.hd.cell 3, h.hd.cell 4, h.hd.cell 5, h.hd.lt⟩
theorem DuB.cells (h : DuB w a s bcap fcap cap5 tk E w0) : w.cell? ⟨a 0, 0, none⟩ = some (.pointer (some ⟨a 1, 0, none⟩)) ∧ w.cell? ⟨a 0, 1, none⟩ = some (.int .i64 (s.d : Int)) ∧ w.cell? ⟨a 0, 2, none⟩ = some (.slice (some ⟨a 3, 0, none⟩) s.k bcap) ∧ w.cell? ⟨a 0, 3, none⟩ = some (.slice (some ⟨a 4, 0, none⟩) s.k fcap) ∧
    w.cell? ⟨a 0, 4, none⟩ = some (.pointer (some ⟨a 5, 0, none⟩)) ∧ w.cell? ⟨a 0, 5, none⟩ = some (.bool tk) ∧ a 0 < w.heap.size := ⟨h.hd.cell 0, h.hd.cell 1, h.hd.cell 2, h.hd.cell 3, h.hd.cell 4, h.hd.cell 5, h.hd.lt⟩
end
end Go.Proofs.YtolhmibejhldkaaGreatDoor

namespace Go.Proofs.YtolhmibejhldkaaGreatDoor
open Go.RowKit Go.Proofs
theorem sets7 {w : World} {P : Nat} {Ty : TypeId} {z0 z1 z2 z3 z4 z5 z6 : Value} (h : Blk w P Ty #[z0, z1, z2, z3, z4, z5, z6]) (v0 v1 v2 v3 v4 v5 v6 : Value) :
    Blk (((((((w.setCell ⟨P, 0, none⟩ v0).setCell ⟨P, 1, none⟩ v1).setCell ⟨P, 2, none⟩ v2).setCell ⟨P, 3, none⟩ v3).setCell ⟨P, 4, none⟩ v4).setCell ⟨P, 5, none⟩ v5).setCell ⟨P, 6, none⟩ v6) P Ty #[v0, v1, v2, v3, v4, v5, v6] := by
  have h1 := ((((((h.set 0 v0).set 1 v1).set 2 v2).set 3 v3).set 4 v4).set 5 v5).set 6 v6
  simp only [List.setIfInBounds_toArray, List.set_cons_zero, List.set_cons_succ] at h1
  exact h1
theorem chg7 (w : World) (P : Nat) (v0 v1 v2 v3 v4 v5 v6 : Value) : Chg (fun b => b = P) w (((((((w.setCell ⟨P, 0, none⟩ v0).setCell ⟨P, 1, none⟩ v1).setCell ⟨P, 2, none⟩ v2).setCell ⟨P, 3, none⟩ v3).setCell ⟨P, 4, none⟩ v4).setCell ⟨P, 5, none⟩ v5).setCell ⟨P, 6, none⟩ v6) :=
  (((((((Chg.refl _ w).set1 _ _).set1 _ _).set1 _ _).set1 _ _).set1 _ _).set1 _ _).set1 _ _
theorem cells7 {w : World} {C : Nat} {T : TypeId} {a b c d e f g : Value} (h : Blk w C T #[a, b, c, d, e, f, g]) : w.cell? ⟨C, 0, none⟩ = some a ∧ w.cell? ⟨C, 1, none⟩ = some b ∧ w.cell? ⟨C, 2, none⟩ = some c ∧ w.cell? ⟨C, 3, none⟩ = some d ∧ w.cell? ⟨C, 4, none⟩ = some e ∧ w.cell? ⟨C, 5, none⟩ = some f ∧ w.cell? ⟨C, 6, none⟩ = some g :=
  ⟨h.cell 0, h.cell 1, h.cell 2, h.cell 3, h.cell 4, h.cell 5, h.cell 6⟩
section
variable {w w' w0 : World} {a : Nat → Nat} {s : DuS} {bcap fcap cap5 : Nat} {tk : Bool} {E : Nat → Addr} {lp : Option Nat} {mt : MeterS}
theorem DuA.lt (h : DuA w a s bcap tk E w0) : ∀ x, Used s.k false x → a x < w.heap.size := fun x hx => by
  rcases hx with hx | ⟨e, -⟩ | ⟨h1, h2⟩
  · match x, hx with
    | 0, _ => exact h.hd.lt
    | 1, _ => exact h.t.ltB
    | 2, _ => exact h.t.ltQ
    | 3, _ => exact h.bz
  · cases e
  · obtain ⟨i, j, hi, hj, rfl⟩ : ∃ i j, i < s.k ∧ j < 3 ∧ x = 7 + j + 3 * i := ⟨(x - 7) / 3, (x - 7) % 3, by omega, by omega, by omega⟩
    have hw := h.bw i hi
    match j, hj with
    | 0, _ => exact hw.b.lt
    | 1, _ => exact (hw.t rfl).head.lt
    | 2, _ => exact (hw.t rfl).lt
theorem DuB.lt (h : DuB w a s bcap fcap cap5 tk E w0) : ∀ x, Used s.k true x → a x < w.heap.size := fun x hx => by
  rcases hx with hx | ⟨-, hx⟩ | ⟨h1, h2⟩
  · match x, hx with
    | 0, _ => exact h.hd.lt
    | 1, _ => exact h.t.ltB
    | 2, _ => exact h.t.ltQ
    | 3, _ => exact h.bz
  · match x, hx with
    | 0, _ => exact h.hd.lt
    | 1, _ => exact h.t.ltB
    | 2, _ => exact h.t.ltQ
    | 3, _ => exact h.bz
    | 4, _ => exact h.fz
    | 5, _ => exact h.e.b.lt
    | 6, _ => exact h.e.lt
  · obtain ⟨i, j, hi, hj, rfl⟩ : ∃ i j, i < s.k ∧ j < 3 ∧ x = 7 + j + 3 * i := ⟨(x - 7) / 3, (x - 7) % 3, by omega, by omega, by omega⟩
    match j, hj with
    | 0, _ => exact (h.bb i hi).lt
    | 1, _ => exact (h.u i hi).ltB
    | 2, _ => exact (h.u i hi).ltQ
def LensD (lp : Option Nat) (a : Nat → Nat) (k : Nat) (b0 : Bool) (n0 : Nat) : Prop := ∀ b, lp = some b → n0 ≤ b ∧ ∀ x, Used k b0 x → b ≠ a x
theorem LensD.ok {k n0 : Nat} {b0 : Bool} (h : LensD lp a k b0 n0) {x y : Nat} (hx : Used k b0 x) (hy : Used k b0 y) : LensOk lp (a x) (a y) n0 := fun b e => ⟨(h b e).2 x hx, (h b e).2 y hy, (h b e).1⟩
theorem DuA.lens (h : DuA w a s bcap tk E w0) (hs : LensD lp a s.k false w0.heap.size) (hc : Chg (fun b => lp = some b) w w') : DuA w' a s bcap tk E w0 := h.chg hc (fun b e => (hs b e).1) (fun x hx e => (hs _ e).2 x hx rfl)
theorem DuB.lens (h : DuB w a s bcap fcap cap5 tk E w0) (hs : LensD lp a s.k true w0.heap.size) (hc : Chg (fun b => lp = some b) w w') : DuB w' a s bcap fcap cap5 tk E w0 := h.chg hc (fun b e => (hs b e).1) (fun x hx e => (hs _ e).2 x hx rfl)
set_option maxRecDepth 100000 in
theorem DuA.ready (h : DuA w a s bcap tk E w0) : Calls Tryz.prog 106 #[.pointer (some ⟨a 0, 0, none⟩)] w fun e w' => e = .returned (.bool false) ∧ w = w' := by
  obtain ⟨c0, c1, c2, c3, c4, c5, zc⟩ := h.cells
  clear h
  go_enter Tryz.func106, Tryz.ntmps106
  go_wp2
  go_ret
  exact ⟨rfl, rfl⟩
set_option maxRecDepth 100000 in
theorem DuB.ready (h : DuB w a s bcap fcap cap5 tk E w0) : Calls Tryz.prog 106 #[.pointer (some ⟨a 0, 0, none⟩)] w fun e w' => e = .returned (.bool true) ∧ w = w' := by
  obtain ⟨c0, c1, c2, c3, c4, c5, zc⟩ := h.cells
  clear h
  go_enter Tryz.func106, Tryz.ntmps106
  go_wp2
  go_ret
  exact ⟨rfl, rfl⟩
set_option maxRecDepth 100000 in
set_option maxHeartbeats 8000000 in
theorem DuA.seek (h : DuA w a s bcap tk E w0) (hl : LW w lp mt) (hs : LensD lp a s.k false w0.heap.size) (key : Int) (hh : Nat) (hb : hh < 18446744073709551616) (q : Option Addr) (hq : LensAt q lp) (x y z : Int) :
    Calls Tryz.prog 91 #[.pointer (some ⟨a 0, 0, none⟩), .agg #[.pointer q, .int .i64 x, .int .i64 y, .int .i64 z], .int .u64 key, .int .u64 (hh : Int)] w fun e w' =>
      ∃ fp, e = .returned (.tuple #[.agg (spotC (a 1) key hh (s.T.atP (a 2) key hh) (s.T.atZ key hh) fp (s.T.frZ key hh)), .bool (s.T.has key hh)]) ∧ (0 ≤ s.T.frZ key hh → fp = some ⟨a 2, s.T.freeG key hh * 25, none⟩) ∧ DuA w' a s bcap tk E w0 ∧ LW w' lp (addN mt x y z (s.T.looks key hh)) ∧ Chg (fun b => lp = some b) w w' := by
  have HS := Lib.hid hs
  have HD := Lib.hid h
  have HL := Lib.hid hl
  have SK := Lib.hid (fun (w' : World) (h' : DuA w' a s bcap tk E w0) (hl' : LW w' lp mt) => TN.seek h'.t hl' (hs.ok (.lt4 (by decide)) (.lt4 (by decide))) key hh hb q hq x y z)
  have EN := Lib.hid (fun (fp : Option Addr) (w' : World) (h' : DuA w' a s bcap tk E w0) => TN.entry h'.t key hh fp (s.T.frZ key hh))
  have RD := Lib.hid (fun (w' : World) (h' : DuA w' a s bcap tk E w0) => h'.ready)
  have z0 := h.hd.lt
  have hz0 := h.t.bel.size
  unfold spotC at *
  unfold EntS.val3 at EN
  generalize s.T.atP (a 2) key hh = ap at *
  generalize s.T.atZ key hh = az at *
  generalize s.T.frZ key hh = fz at *
  generalize s.T.has key hh = hs' at *
  generalize (s.T.ent key hh).key = k0 at *
  generalize (s.T.ent key hh).val = k1 at *
  generalize (s.T.ent key hh).hash = k2 at *
  generalize s.T.looks key hh = lk at *
  generalize s.T.freeG key hh = fg at *
  clear h hl hs
  go_enter Tryz.func91, Tryz.ntmps91
  go_upto_region 2 with (go_at_call 106; (with_reducible refine (RD.out _ (HD.out.later (by go_grown))).mono ?_); rintro e w1 ⟨rfl, rfl⟩)
  refine wp_at (fun w1 hw1 => ?_)
  have hb1 : Below w.heap.size w w1 := by rw [hw1]; go_grown
  obtain ⟨B5, hB5⟩ : ∃ B5, B5 = w.heap.size := ⟨_, rfl⟩
  have X5 := Lib.hid (show Blk w1 B5 50 #[.pointer q, .int .i64 x, .int .i64 y, .int .i64 z] by rw [hw1, hB5]; exact (Blk.new _ _ _).alloc _)
  have X8 := Lib.hid (show Blk w1 (B5 + 1) 100 #[.pointer none, .int .u64 0, .int .u64 0, .pointer none, .int .i64 0, .pointer none, .int .i64 0] by rw [hw1, hB5]; exact Blk.new_at (by simp))
  have D1 := Lib.hid (HD.out.later hb1)
  have L1 := Lib.hid (HL.out.later hb1)
  have hw1s : B5 + 1 + 1 ≤ w1.heap.size := by rw [hw1, hB5]; simp
  have hB5' : w.heap.size ≤ B5 := Nat.le_of_eq hB5.symm
  have hNL : ∀ b, B5 ≤ b → ¬ lp = some b := fun b hb e => by have := (HL.out b e).lt; omega
  have HLT := Lib.hid D1.out.lt
  have HLT5 := Lib.hid (show ∀ x, Used s.k false x → a x < B5 from fun x hx => by have := HD.out.lt x hx; omega)
  have HLZ := Lib.hid (show ∀ b, lp = some b → b < w1.heap.size from fun b e => (L1.out b e).lt)
  rw [← hB5]
  replace hB5 := Lib.hid hB5
  replace hw1 := Lib.hid hw1
  have HC1 := Lib.hid (show Chg (fun b => lp = some b) w w1 from Chg.of_below hb1)
  clear hb1
  obtain ⟨c0, c1, c2, c3, c4, c5, zc⟩ := D1.out.cells
  obtain ⟨l0, l1, l2, l3⟩ := cells4 X5.out
  have zl := X5.out.lt
  have hn0 : ¬ lp = some (a 0) := fun e => (HS.out _ e).2 0 (.lt4 (by decide)) rfl
  have hn5 : ¬ lp = some B5 := hNL _ (Nat.le_refl _)
  go_cut [10] (fun v10 wx => ∃ (P : Nat) (fp : Option Addr), v10 = .pointer (some ⟨P, 0, none⟩) ∧ (0 ≤ fz → fp = some ⟨a 2, fg * 25, none⟩) ∧ w1.heap.size ≤ P ∧ Blk wx P 100 #[.pointer (some ⟨a 1, 0, none⟩), .int .u64 key, .int .u64 (hh : Int), .pointer ap, .int .i64 az, .pointer fp, .int .i64 fz] ∧ DuA wx a s bcap tk E w0 ∧ LW wx lp (addN mt x y z lk) ∧ Chg (fun b => lp = some b) w1 wx)
  case first =>
    refine wp_region_T (fun b => lp = some b) #[⟨0, 0, 4194304, 1, 0⟩, ⟨1, 1, 8388608, 4194304, 0⟩, ⟨2, 3, 16777216, 8388608, 0⟩, ⟨4, 7, 33554432, 16777216, 1⟩, ⟨0, 0, 67108864, 32, 1⟩, ⟨0, 0, 134217728, 4, 0⟩, ⟨0, 0, 268435456, 8, 0⟩, ⟨120, 127, 536870912, 503316480, 3⟩, ⟨0, 0, 1024, 0, 2⟩, ⟨511, 511, 0, 536871936, 3⟩] 24 (.step 0 0 (.step 1 0 (.step 2 0 (.step 3 1 (.step 4 1 (.step 5 0 (.step 6 0 (.fork (.alt 7 (.step 8 2 (.step 9 3 Plan.done)) (.alt 8 (.step 7 3 (.step 9 3 Plan.done)) Plan.none)))))))))) (by kernel_rfl) (by kernel_rfl) (by kernel_rfl) (by kernel_rfl) (by kernel_rfl) (by kernel_rfl) (fun c a d v w h => by cases d <;> exact h) ?_
    refine ztC ?_; refine ztC ?_; refine ztC ?_
    refine zt1 Tryz.underlying85 ?_
    try refine ztP ?_
    refine ztL [_, _, _, _] Tryz.underlying50 ?_
    try refine ztP ?_; refine ztC ?_; refine ztC ?_
    refine zt2 (fun K hK => ?_) fun K hK => ?_
    (go_wp2_with ((go_at_call 43; (with_reducible refine (SK.out _ (by first | exact D1.out.later (Below.refl _ _).drew | exact D1.out.later ((Below.refl _ _).alloc (Nat.le_refl _) _).drew) (by first | exact L1.out.later (Below.refl _ _).drew | exact L1.out.later ((Below.refl _ _).alloc (Nat.le_refl _) _).drew)).mono ?_); rintro e w9 ⟨fp9, rfl, hf9, -, hl9, hc9⟩; have C9 : Hid (Chg (fun b => lp = some b) w1 w9) := Lib.hid (by first | exact hc9.undrew | exact (((Chg.refl _ w1).alloc _).drew).trans hc9); have D9 := Lib.hid (D1.out.lens HS.out C9.out); have L9 := Lib.hid hl9; have z9 := C9.out.size; (try have P9 : Hid (Blk w9 w1.heap.size 100 #[.pointer none, .int .u64 0, .int .u64 0, .pointer none, .int .i64 0, .pointer none, .int .i64 0]) := Lib.hid (Blk.chg (Blk.drew (Blk.new w1 _ _)) hc9 (hNL _ (by omega)))); (try have p9 := cells7 P9.out); (try have p90 := p9.1); (try have p91 := p9.2.1); (try have p92 := p9.2.2.1); (try have p93 := p9.2.2.2.1); (try have p94 := p9.2.2.2.2.1); (try have p95 := p9.2.2.2.2.2.1); (try have p96 := p9.2.2.2.2.2.2); (try clear p9); (try have pf9 := fun j => P9.out.frozen j); (try have zP9 := P9.out.lt))); refine hkI hK (h := ?_); clear hK K)
    try refine ztP ?_
    refine ztD fun K hK => ?_; go_wp2_with (fail); refine hkI hK (h := ?_); clear hK K
    try refine ztP ?_
    refine ztE fun K hK => ?_; go_wp2_with (fail); refine hK.out _ _ ?_; clear hK K
    try refine ztP ?_
    refine T_done ?_
    rotate_left 1
    (go_wp2_with (fail); refine hkI hK (h := ?_); clear hK K)
    try refine ztP ?_
    refine ztE fun K hK => ?_; go_wp2_with ((go_at_call 43; (with_reducible refine (SK.out _ (by first | exact D1.out.later (Below.refl _ _).drew | exact D1.out.later ((Below.refl _ _).alloc (Nat.le_refl _) _).drew) (by first | exact L1.out.later (Below.refl _ _).drew | exact L1.out.later ((Below.refl _ _).alloc (Nat.le_refl _) _).drew)).mono ?_); rintro e w9 ⟨fp9, rfl, hf9, -, hl9, hc9⟩; have C9 : Hid (Chg (fun b => lp = some b) w1 w9) := Lib.hid (by first | exact hc9.undrew | exact (((Chg.refl _ w1).alloc _).drew).trans hc9); have D9 := Lib.hid (D1.out.lens HS.out C9.out); have L9 := Lib.hid hl9; have z9 := C9.out.size; (try have P9 : Hid (Blk w9 w1.heap.size 100 #[.pointer none, .int .u64 0, .int .u64 0, .pointer none, .int .i64 0, .pointer none, .int .i64 0]) := Lib.hid (Blk.chg (Blk.drew (Blk.new w1 _ _)) hc9 (hNL _ (by omega)))); (try have p9 := cells7 P9.out); (try have p90 := p9.1); (try have p91 := p9.2.1); (try have p92 := p9.2.2.1); (try have p93 := p9.2.2.2.1); (try have p94 := p9.2.2.2.2.1); (try have p95 := p9.2.2.2.2.2.1); (try have p96 := p9.2.2.2.2.2.2); (try clear p9); (try have pf9 := fun j => P9.out.frozen j); (try have zP9 := P9.out.lt))); refine hK.out _ _ ?_; clear hK K
    try refine ztP ?_
    refine ztE fun K hK => ?_; go_wp2_with (fail); refine hK.out _ _ ?_; clear hK K
    try refine ztP ?_
    refine T_done ?_
    rotate_left 1
    rotate_right 2
    all_goals (go_wp2; go_meet)
    all_goals
      first
        | with_reducible exact ⟨_, _, rfl, hf9, by omega, Blk.new _ _ _, D9.out.later ((Below.refl _ _).alloc (Nat.le_refl _) _), L9.out.later ((Below.refl _ _).alloc (Nat.le_refl _) _), C9.out.alloc _⟩
        | with_reducible exact ⟨_, _, rfl, hf9, Nat.le_refl _, sets7 P9.out _ _ _ _ _ _ _, D9.out.chg (chg7 _ _ _ _ _ _ _ _ _) (fun b e => by subst e; omega) (fun x hx e => by have := HLT.out x hx; omega), L9.out.chg (chg7 _ _ _ _ _ _ _ _ _) (fun b e e2 => by have := HLZ.out b e; omega), C9.out.trans' (chg7 _ _ _ _ _ _ _ _ _) (fun b hb e => by omega)⟩
  case rest =>
    obtain ⟨P, fp, rfl, hfp0, hPz, hP, hD, hL, hC⟩ := hcut
    have HFP := Lib.hid hfp0
    clear hfp0
    have DC := Lib.hid hD
    have LC := Lib.hid hL
    have CC := Lib.hid hC
    have PC := Lib.hid hP
    have XC := Lib.hid (X8.out.chg hC (hNL _ (by omega)))
    obtain ⟨e0, e1, e2, e3, e4, e5, e6⟩ := cells7 hP
    have zP := hP.lt
    have zc1 := hC.size
    clear hD hL hC hP c0 c1 c2 c3 c4 c5 zc l0 l1 l2 l3 zl X5 X8 D1 L1
    go_wp2_with (first | (go_at_call 44; (with_reducible refine (EN.out fp _ DC.out).mono ?_); rintro e w2 ⟨rfl, hb2⟩; have P2 := PC.out.below hb2 PC.out.lt; have p2 := cells7 P2; have p20 := p2.1; have p21 := p2.2.1; have p22 := p2.2.2.1; have p23 := p2.2.2.2.1; have p24 := p2.2.2.2.2.1; have p25 := p2.2.2.2.2.2.1; have p26 := p2.2.2.2.2.2.2; have zP2 := P2.lt; have X2 := XC.out.below hb2 XC.out.lt; have x2 := cells7 X2; have x20 := x2.1; have x21 := x2.2.1; have x22 := x2.2.2.1; have x23 := x2.2.2.2.1; have x24 := x2.2.2.2.2.1; have x25 := x2.2.2.2.2.2.1; have x26 := x2.2.2.2.2.2.2; have xf2 := fun j => X2.frozen j; have zX2 := X2.lt; have HB2 := Lib.hid hb2; have HX2 := Lib.hid X2; clear p2 x2) | (refine wpList_unit rfl (exec_storeAll (t := 100) rfl rfl rfl (HX2.out.alloc (.cells #[.int .u64 k0, .int .u64 k1, .int .u64 k2] 46)) (by rfl) (Tryz.sizeOf100 _) (by simp [Value.oneCell'])) ?_))
    refine wp_end_at (fun Wf hWf => ?_)
    have hR : Blk Wf (B5 + 1) 100 #[.pointer (some ⟨a 1, 0, none⟩), .int .u64 key, .int .u64 (hh : Int), .pointer ap, .int .i64 az, .pointer fp, .int .i64 fz] := by rw [hWf]; exact (HX2.out.alloc _).setRow _
    obtain ⟨r0, r1, r2, r3, r4, r5, r6⟩ := cells7 hR
    have hCf : Chg (fun b => b = B5 + 1) (w2.alloc (.cells #[.int .u64 k0, .int .u64 k1, .int .u64 k2] 46)) Wf := by rw [hWf]; exact (Chg.refl (fun b => b = B5 + 1) _).setRow (.inl rfl) _
    have hDA := ((DC.out.later HB2.out).later ((Below.refl _ _).alloc (Nat.le_refl _) (.cells #[.int .u64 k0, .int .u64 k1, .int .u64 k2] 46)))
    refine bodyPost_ret (v := .tuple #[.agg #[.pointer (some ⟨a 1, 0, none⟩), .int .u64 key, .int .u64 (hh : Int), .pointer ap, .int .i64 az, .pointer fp, .int .i64 fz], .bool hs']) (by simp [results, Tryz.results91, go_sem, r0, r1, r2, r3, r4, r5, r6]) rfl ⟨fp, rfl, HFP.out, hDA.chg hCf (fun b e => by omega) (fun x hx e => by have := HLT5.out x hx; omega), ((LC.out.later HB2.out).later ((Below.refl _ _).alloc (Nat.le_refl _) _)).chg hCf (fun b e e2 => hNL b (by omega) e), ?_⟩
    exact ((((HC1.out.trans CC.out).thenBelow HB2.out).alloc _).trans' hCf (fun b hb e => by omega))
set_option maxRecDepth 100000 in
set_option maxHeartbeats 16000000 in
theorem DuB.seek (h : DuB w a s bcap fcap cap5 tk E w0) (hok : DuOK s) (hl : LW w lp mt) (hs : LensD lp a s.k true w0.heap.size) (key : Int) (hh : Nat) (hb : hh < 18446744073709551616) (q : Option Addr) (hq : LensAt q lp) (x y z : Int) :
    Calls Tryz.prog 91 #[.pointer (some ⟨a 0, 0, none⟩), .agg #[.pointer q, .int .i64 x, .int .i64 y, .int .i64 z], .int .u64 key, .int .u64 (hh : Int)] w fun e w' =>
      ∃ fp, e = .returned (.tuple #[.agg (spotC (s.selB a key hh) key hh ((s.selT key hh).atP (s.selQ a key hh) key hh) ((s.selT key hh).atZ key hh) fp ((s.selT key hh).frZ key hh)), .bool (s.has key hh)]) ∧ (0 ≤ (s.selT key hh).frZ key hh → fp = some ⟨s.selQ a key hh, (s.selT key hh).freeG key hh * 25, none⟩) ∧ DuB w' a s bcap fcap cap5 tk E w0 ∧ LW w' lp (addN mt x y z (s.lkU key hh + s.lkT key hh)) ∧ Chg (fun b => lp = some b) w w' := by
  have hyk := hok.yk hh
  have HS := Lib.hid hs
  have HD := Lib.hid h
  have HL := Lib.hid hl
  have TG := Lib.hid (fun (w' : World) (h' : DuB w' a s bcap fcap cap5 tk E w0) => etarget_any (a 5) (a 1) (a 6) cap5 s.k (fun i => a (8 + 3 * i)) s.d s.nx hh hb w' h'.e)
  have SU := Lib.hid (fun (w' : World) (h' : DuB w' a s bcap fcap cap5 tk E w0) (hl' : LW w' lp mt) => TN.seek (h'.u _ hyk) hl' (hs.ok (.of hyk (by omega) (by omega)) (.of hyk (by omega) (by omega))) key hh hb q hq x y z)
  have SK := Lib.hid (fun (mt' : MeterS) (w' : World) (h' : DuB w' a s bcap fcap cap5 tk E w0) (hl' : LW w' lp mt') => TN.seek h'.t hl' (hs.ok (.lt4 (by decide)) (.lt4 (by decide))) key hh hb q hq x y z)
  have EU := Lib.hid (fun (fp : Option Addr) (fz : Int) (w' : World) (h' : DuB w' a s bcap fcap cap5 tk E w0) => TN.entry (h'.u _ hyk) key hh fp fz)
  have EN := Lib.hid (fun (fp : Option Addr) (fz : Int) (w' : World) (h' : DuB w' a s bcap fcap cap5 tk E w0) => TN.entry h'.t key hh fp fz)
  have RD := Lib.hid (fun (w' : World) (h' : DuB w' a s bcap fcap cap5 tk E w0) => h'.ready)
  have hz0 := h.t.bel.size
  have hb0 := h.hb
  unfold DuS.selB DuS.selQ DuS.selT DuS.has DuS.lkU DuS.lkT
  unfold DuS.selU DuS.inU
  rw [hb0]
  simp only [decide_true, Bool.true_and, if_true]
  unfold spotC at *
  unfold EntS.val3 at EN EU
  rw [show tIx s.k s.d hh = s.y hh from rfl] at TG
  clear h hl hs hb0
  generalize hyy : s.y hh = yy at *
  obtain ⟨V, hV⟩ : ∃ V, V = s.U yy := ⟨_, rfl⟩
  rw [← hV] at SU EU ⊢
  replace hV := Lib.hid hV
  replace hyy := Lib.hid hyy
  cases hU : V.has key hh with
  | true =>
    rw [hU] at EU
    simp only [Bool.true_or, if_true, Nat.add_zero]
    generalize V.atP (a (9 + 3 * yy)) key hh = uap at *
    generalize V.atZ key hh = uaz at *
    generalize V.frZ key hh = ufz at *
    generalize V.has key hh = uh at *
    generalize (V.ent key hh).key = u0 at *
    generalize (V.ent key hh).val = u1 at *
    generalize (V.ent key hh).hash = u2 at *
    generalize V.looks key hh = ulk at *
    generalize V.freeG key hh = ufg at *
    generalize s.T.atP (a 2) key hh = ap at *
    generalize s.T.atZ key hh = az at *
    generalize s.T.frZ key hh = fz at *
    generalize s.T.has key hh = th at *
    generalize (s.T.ent key hh).key = k0 at *
    generalize (s.T.ent key hh).val = k1 at *
    generalize (s.T.ent key hh).hash = k2 at *
    generalize s.T.looks key hh = lk at *
    generalize s.T.freeG key hh = fg at *
    clear hU
    go_enter Tryz.func91, Tryz.ntmps91
    go_upto_region 5 with (go_at_call 106; (with_reducible refine (RD.out _ (HD.out.later (by go_grown))).mono ?_); rintro e w1 ⟨rfl, rfl⟩)
    refine wp_at (fun w1 hw1 => ?_)
    have hb1 : Below w.heap.size w w1 := by rw [hw1]; go_grown
    obtain ⟨B5, hB5⟩ : ∃ B5, B5 = w.heap.size := ⟨_, rfl⟩
    have X5 := Lib.hid (show Blk w1 B5 50 #[.pointer q, .int .i64 x, .int .i64 y, .int .i64 z] by rw [hw1, hB5]; exact (Blk.new _ _ _).alloc _)
    have X8 := Lib.hid (show Blk w1 (B5 + 1) 100 #[.pointer none, .int .u64 0, .int .u64 0, .pointer none, .int .i64 0, .pointer none, .int .i64 0] by rw [hw1, hB5]; exact Blk.new_at (by simp))
    have D1 := Lib.hid (HD.out.later hb1)
    have L1 := Lib.hid (HL.out.later hb1)
    have hw1s : B5 + 1 + 1 ≤ w1.heap.size := by rw [hw1, hB5]; simp
    have hB5' : w.heap.size ≤ B5 := Nat.le_of_eq hB5.symm
    have hNL : ∀ b, B5 ≤ b → ¬ lp = some b := fun b hb e => by have := (HL.out b e).lt; omega
    have HLT := Lib.hid D1.out.lt
    have HLZ := Lib.hid (show ∀ b, lp = some b → b < w1.heap.size from fun b e => (L1.out b e).lt)
    have HLT5 := Lib.hid (show ∀ x, Used s.k true x → a x < B5 from fun x hx => by have := HD.out.lt x hx; omega)
    have HLZ5 := Lib.hid (show ∀ b, lp = some b → b < B5 from fun b e => by have := (HL.out b e).lt; omega)
    rw [← hB5]
    replace hB5 := Lib.hid hB5
    replace hw1 := Lib.hid hw1
    have HC1 := Lib.hid (show Chg (fun b => lp = some b) w w1 from Chg.of_below hb1)
    clear hb1
    obtain ⟨c0, c1, c2, c3, c4, c5, zc⟩ := D1.out.cells
    obtain ⟨l0, l1, l2, l3⟩ := cells4 X5.out
    have zl := X5.out.lt
    have hn0 : ¬ lp = some (a 0) := fun e => (HS.out _ e).2 0 (.lt4 (by decide)) rfl
    have hn5 : ¬ lp = some B5 := hNL _ (Nat.le_refl _)
    go_cut [13] (fun v13 wx => ∃ (P : Nat) (fp : Option Addr), v13 = .pointer (some ⟨P, 0, none⟩) ∧ (0 ≤ ufz → fp = some ⟨a (9 + 3 * yy), ufg * 25, none⟩) ∧ w1.heap.size ≤ P ∧ Blk wx P 100 #[.pointer (some ⟨a (8 + 3 * yy), 0, none⟩), .int .u64 key, .int .u64 (hh : Int), .pointer uap, .int .i64 uaz, .pointer fp, .int .i64 ufz] ∧ DuB wx a s bcap fcap cap5 tk E w0 ∧ LW wx lp (addN mt x y z ulk) ∧ Chg (fun b => lp = some b) w1 wx)
    case first =>
      refine wp_region_T (fun b => lp = some b) #[⟨0, 0, 137438953472, 1, 0⟩, ⟨1, 1, 274877906944, 137438953472, 0⟩, ⟨2, 3, 549755813888, 274877906944, 0⟩, ⟨4, 7, 1099511627776, 549755813888, 1⟩, ⟨0, 0, 2199023255552, 8, 0⟩, ⟨24, 31, 4398046511104, 3298534883328, 2⟩, ⟨0, 0, 8796093022208, 32, 1⟩, ⟨0, 0, 17592186044416, 4, 0⟩, ⟨0, 0, 35184372088832, 8, 0⟩, ⟨480, 511, 70368744177664, 65970697666560, 3⟩, ⟨0, 0, 8192, 0, 2⟩, ⟨2047, 2047, 0, 70368744185856, 3⟩] 72 (.step 0 0 (.step 1 0 (.step 2 0 (.step 3 1 (.step 4 0 (.step 6 1 (.step 7 0 (.step 8 0 (.fork (.alt 5 (.fork (.alt 9 (.step 10 2 (.step 11 3 Plan.done)) (.alt 10 (.step 9 3 (.step 11 3 Plan.done)) Plan.none))) (.alt 10 (.step 5 2 (.step 9 3 (.step 11 3 Plan.done))) Plan.none))))))))))) (by kernel_rfl) (by kernel_rfl) (by kernel_rfl) (by kernel_rfl) (by kernel_rfl) (by kernel_rfl) (fun c a d v w h => by cases d <;> exact h) ?_
      refine ztC ?_; refine ztC ?_; refine ztC ?_
      refine zt1 Tryz.underlying163 ?_
      try refine ztP ?_; refine ztC ?_
      refine ztL [_, _, _, _] Tryz.underlying50 ?_
      try refine ztP ?_; refine ztC ?_; refine ztC ?_
      refine zt2 (fun K hK => ?_) fun K hK => ?_
      (go_wp2_with (first | (go_at_call 137; (with_reducible refine (TG.out _ (by first | exact D1.out.later (Below.refl _ _).drew | exact D1.out.later ((Below.refl _ _).alloc (Nat.le_refl _) _).drew)).mono ?_); rintro e wt ⟨rfl, hbt⟩; have Bt : Below w1.heap.size w1 wt := (by first | exact Below.undrew hbt | exact (((Below.refl _ w1).alloc (Nat.le_refl _) _).drew).trans (hbt.mono (by simp))); (try have P9 : Hid (Blk wt w1.heap.size 100 #[.pointer none, .int .u64 0, .int .u64 0, .pointer none, .int .i64 0, .pointer none, .int .i64 0]) := Lib.hid (Blk.below (Blk.drew (Blk.new w1 _ _)) hbt (by simp))); have Xt := X5.out.below Bt X5.out.lt; have xt := cells4 Xt; have xt0 := xt.1; have xt1 := xt.2.1; have xt2 := xt.2.2.1; have xt3 := xt.2.2.2; have zxt := Xt.lt; have Dt := Lib.hid (D1.out.later Bt); have Lt := Lib.hid (L1.out.later Bt); have zt := Bt.size; clear xt Xt) | (go_at_call 43; (with_reducible refine (SU.out _ (by first | exact Dt.out | exact Dt.out.later ((Below.refl _ _).alloc (Nat.le_refl _) _)) (by first | exact Lt.out | exact Lt.out.later ((Below.refl _ _).alloc (Nat.le_refl _) _))).mono ?_); rintro e w9 ⟨fp9, rfl, hf9, -, hl9, hc9⟩; have C9 : Hid (Chg (fun b => lp = some b) w1 w9) := Lib.hid (by first | exact (Chg.of_below Bt).trans hc9 | exact ((Chg.of_below Bt).alloc _).trans hc9); have D9 := Lib.hid (D1.out.lens HS.out C9.out); have L9 := Lib.hid hl9; have z9 := C9.out.size; (try replace P9 : Hid (Blk w9 w1.heap.size 100 #[.pointer none, .int .u64 0, .int .u64 0, .pointer none, .int .i64 0, .pointer none, .int .i64 0]) := Lib.hid (Blk.chg P9.out hc9 (hNL _ (by omega)))); (try have P8 : Hid (Blk w9 wt.heap.size 100 #[.pointer none, .int .u64 0, .int .u64 0, .pointer none, .int .i64 0, .pointer none, .int .i64 0]) := Lib.hid (Blk.chg (Blk.new wt _ _) hc9 (hNL _ (by omega)))); (first | have p9 := cells7 P9.out | have p9 := cells7 P8.out | skip); (try have p90 := p9.1); (try have p91 := p9.2.1); (try have p92 := p9.2.2.1); (try have p93 := p9.2.2.2.1); (try have p94 := p9.2.2.2.2.1); (try have p95 := p9.2.2.2.2.2.1); (try have p96 := p9.2.2.2.2.2.2); (try clear p9); (first | have pf9 := fun j => P9.out.frozen j | have pf9 := fun j => P8.out.frozen j | skip); (first | have zP9 := P9.out.lt | have zP9 := P8.out.lt | skip))); refine hkI hK (h := ?_); clear hK K)
      try refine ztP ?_
      refine zt2 (fun K hK => ?_) fun K hK => ?_
      (go_wp2_with (first | (go_at_call 137; (with_reducible refine (TG.out _ (by first | exact D1.out.later (Below.refl _ _).drew | exact D1.out.later ((Below.refl _ _).alloc (Nat.le_refl _) _).drew)).mono ?_); rintro e wt ⟨rfl, hbt⟩; have Bt : Below w1.heap.size w1 wt := (by first | exact Below.undrew hbt | exact (((Below.refl _ w1).alloc (Nat.le_refl _) _).drew).trans (hbt.mono (by simp))); (try have P9 : Hid (Blk wt w1.heap.size 100 #[.pointer none, .int .u64 0, .int .u64 0, .pointer none, .int .i64 0, .pointer none, .int .i64 0]) := Lib.hid (Blk.below (Blk.drew (Blk.new w1 _ _)) hbt (by simp))); have Xt := X5.out.below Bt X5.out.lt; have xt := cells4 Xt; have xt0 := xt.1; have xt1 := xt.2.1; have xt2 := xt.2.2.1; have xt3 := xt.2.2.2; have zxt := Xt.lt; have Dt := Lib.hid (D1.out.later Bt); have Lt := Lib.hid (L1.out.later Bt); have zt := Bt.size; clear xt Xt) | (go_at_call 43; (with_reducible refine (SU.out _ (by first | exact Dt.out | exact Dt.out.later ((Below.refl _ _).alloc (Nat.le_refl _) _)) (by first | exact Lt.out | exact Lt.out.later ((Below.refl _ _).alloc (Nat.le_refl _) _))).mono ?_); rintro e w9 ⟨fp9, rfl, hf9, -, hl9, hc9⟩; have C9 : Hid (Chg (fun b => lp = some b) w1 w9) := Lib.hid (by first | exact (Chg.of_below Bt).trans hc9 | exact ((Chg.of_below Bt).alloc _).trans hc9); have D9 := Lib.hid (D1.out.lens HS.out C9.out); have L9 := Lib.hid hl9; have z9 := C9.out.size; (try replace P9 : Hid (Blk w9 w1.heap.size 100 #[.pointer none, .int .u64 0, .int .u64 0, .pointer none, .int .i64 0, .pointer none, .int .i64 0]) := Lib.hid (Blk.chg P9.out hc9 (hNL _ (by omega)))); (try have P8 : Hid (Blk w9 wt.heap.size 100 #[.pointer none, .int .u64 0, .int .u64 0, .pointer none, .int .i64 0, .pointer none, .int .i64 0]) := Lib.hid (Blk.chg (Blk.new wt _ _) hc9 (hNL _ (by omega)))); (first | have p9 := cells7 P9.out | have p9 := cells7 P8.out | skip); (try have p90 := p9.1); (try have p91 := p9.2.1); (try have p92 := p9.2.2.1); (try have p93 := p9.2.2.2.1); (try have p94 := p9.2.2.2.2.1); (try have p95 := p9.2.2.2.2.2.1); (try have p96 := p9.2.2.2.2.2.2); (try clear p9); (first | have pf9 := fun j => P9.out.frozen j | have pf9 := fun j => P8.out.frozen j | skip); (first | have zP9 := P9.out.lt | have zP9 := P8.out.lt | skip))); refine hkI hK (h := ?_); clear hK K)
      try refine ztP ?_
      refine ztD fun K hK => ?_; go_wp2_with (fail); refine hkI hK (h := ?_); clear hK K
      try refine ztP ?_
      refine ztE fun K hK => ?_; go_wp2_with (fail); refine hK.out _ _ ?_; clear hK K
      try refine ztP ?_
      refine T_done ?_
      rotate_left 1
      (go_wp2_with (fail); refine hkI hK (h := ?_); clear hK K)
      try refine ztP ?_
      refine ztE fun K hK => ?_; go_wp2_with (first | (go_at_call 137; (with_reducible refine (TG.out _ (by first | exact D1.out.later (Below.refl _ _).drew | exact D1.out.later ((Below.refl _ _).alloc (Nat.le_refl _) _).drew)).mono ?_); rintro e wt ⟨rfl, hbt⟩; have Bt : Below w1.heap.size w1 wt := (by first | exact Below.undrew hbt | exact (((Below.refl _ w1).alloc (Nat.le_refl _) _).drew).trans (hbt.mono (by simp))); (try have P9 : Hid (Blk wt w1.heap.size 100 #[.pointer none, .int .u64 0, .int .u64 0, .pointer none, .int .i64 0, .pointer none, .int .i64 0]) := Lib.hid (Blk.below (Blk.drew (Blk.new w1 _ _)) hbt (by simp))); have Xt := X5.out.below Bt X5.out.lt; have xt := cells4 Xt; have xt0 := xt.1; have xt1 := xt.2.1; have xt2 := xt.2.2.1; have xt3 := xt.2.2.2; have zxt := Xt.lt; have Dt := Lib.hid (D1.out.later Bt); have Lt := Lib.hid (L1.out.later Bt); have zt := Bt.size; clear xt Xt) | (go_at_call 43; (with_reducible refine (SU.out _ (by first | exact Dt.out | exact Dt.out.later ((Below.refl _ _).alloc (Nat.le_refl _) _)) (by first | exact Lt.out | exact Lt.out.later ((Below.refl _ _).alloc (Nat.le_refl _) _))).mono ?_); rintro e w9 ⟨fp9, rfl, hf9, -, hl9, hc9⟩; have C9 : Hid (Chg (fun b => lp = some b) w1 w9) := Lib.hid (by first | exact (Chg.of_below Bt).trans hc9 | exact ((Chg.of_below Bt).alloc _).trans hc9); have D9 := Lib.hid (D1.out.lens HS.out C9.out); have L9 := Lib.hid hl9; have z9 := C9.out.size; (try replace P9 : Hid (Blk w9 w1.heap.size 100 #[.pointer none, .int .u64 0, .int .u64 0, .pointer none, .int .i64 0, .pointer none, .int .i64 0]) := Lib.hid (Blk.chg P9.out hc9 (hNL _ (by omega)))); (try have P8 : Hid (Blk w9 wt.heap.size 100 #[.pointer none, .int .u64 0, .int .u64 0, .pointer none, .int .i64 0, .pointer none, .int .i64 0]) := Lib.hid (Blk.chg (Blk.new wt _ _) hc9 (hNL _ (by omega)))); (first | have p9 := cells7 P9.out | have p9 := cells7 P8.out | skip); (try have p90 := p9.1); (try have p91 := p9.2.1); (try have p92 := p9.2.2.1); (try have p93 := p9.2.2.2.1); (try have p94 := p9.2.2.2.2.1); (try have p95 := p9.2.2.2.2.2.1); (try have p96 := p9.2.2.2.2.2.2); (try clear p9); (first | have pf9 := fun j => P9.out.frozen j | have pf9 := fun j => P8.out.frozen j | skip); (first | have zP9 := P9.out.lt | have zP9 := P8.out.lt | skip))); refine hK.out _ _ ?_; clear hK K
      try refine ztP ?_
      refine ztE fun K hK => ?_; go_wp2_with (fail); refine hK.out _ _ ?_; clear hK K
      try refine ztP ?_
      refine T_done ?_
      rotate_left 1
      rotate_right 2
      rotate_left 2
      (go_wp2_with (fail); refine hkI hK (h := ?_); clear hK K)
      try refine ztP ?_
      refine ztD fun K hK => ?_; go_wp2_with (first | (go_at_call 137; (with_reducible refine (TG.out _ (by first | exact D1.out.later (Below.refl _ _).drew | exact D1.out.later ((Below.refl _ _).alloc (Nat.le_refl _) _).drew)).mono ?_); rintro e wt ⟨rfl, hbt⟩; have Bt : Below w1.heap.size w1 wt := (by first | exact Below.undrew hbt | exact (((Below.refl _ w1).alloc (Nat.le_refl _) _).drew).trans (hbt.mono (by simp))); (try have P9 : Hid (Blk wt w1.heap.size 100 #[.pointer none, .int .u64 0, .int .u64 0, .pointer none, .int .i64 0, .pointer none, .int .i64 0]) := Lib.hid (Blk.below (Blk.drew (Blk.new w1 _ _)) hbt (by simp))); have Xt := X5.out.below Bt X5.out.lt; have xt := cells4 Xt; have xt0 := xt.1; have xt1 := xt.2.1; have xt2 := xt.2.2.1; have xt3 := xt.2.2.2; have zxt := Xt.lt; have Dt := Lib.hid (D1.out.later Bt); have Lt := Lib.hid (L1.out.later Bt); have zt := Bt.size; clear xt Xt) | (go_at_call 43; (with_reducible refine (SU.out _ (by first | exact Dt.out | exact Dt.out.later ((Below.refl _ _).alloc (Nat.le_refl _) _)) (by first | exact Lt.out | exact Lt.out.later ((Below.refl _ _).alloc (Nat.le_refl _) _))).mono ?_); rintro e w9 ⟨fp9, rfl, hf9, -, hl9, hc9⟩; have C9 : Hid (Chg (fun b => lp = some b) w1 w9) := Lib.hid (by first | exact (Chg.of_below Bt).trans hc9 | exact ((Chg.of_below Bt).alloc _).trans hc9); have D9 := Lib.hid (D1.out.lens HS.out C9.out); have L9 := Lib.hid hl9; have z9 := C9.out.size; (try replace P9 : Hid (Blk w9 w1.heap.size 100 #[.pointer none, .int .u64 0, .int .u64 0, .pointer none, .int .i64 0, .pointer none, .int .i64 0]) := Lib.hid (Blk.chg P9.out hc9 (hNL _ (by omega)))); (try have P8 : Hid (Blk w9 wt.heap.size 100 #[.pointer none, .int .u64 0, .int .u64 0, .pointer none, .int .i64 0, .pointer none, .int .i64 0]) := Lib.hid (Blk.chg (Blk.new wt _ _) hc9 (hNL _ (by omega)))); (first | have p9 := cells7 P9.out | have p9 := cells7 P8.out | skip); (try have p90 := p9.1); (try have p91 := p9.2.1); (try have p92 := p9.2.2.1); (try have p93 := p9.2.2.2.1); (try have p94 := p9.2.2.2.2.1); (try have p95 := p9.2.2.2.2.2.1); (try have p96 := p9.2.2.2.2.2.2); (try clear p9); (first | have pf9 := fun j => P9.out.frozen j | have pf9 := fun j => P8.out.frozen j | skip); (first | have zP9 := P9.out.lt | have zP9 := P8.out.lt | skip))); refine hkI hK (h := ?_); clear hK K
      try refine ztP ?_
      refine ztE fun K hK => ?_; go_wp2_with (first | (go_at_call 137; (with_reducible refine (TG.out _ (by first | exact D1.out.later (Below.refl _ _).drew | exact D1.out.later ((Below.refl _ _).alloc (Nat.le_refl _) _).drew)).mono ?_); rintro e wt ⟨rfl, hbt⟩; have Bt : Below w1.heap.size w1 wt := (by first | exact Below.undrew hbt | exact (((Below.refl _ w1).alloc (Nat.le_refl _) _).drew).trans (hbt.mono (by simp))); (try have P9 : Hid (Blk wt w1.heap.size 100 #[.pointer none, .int .u64 0, .int .u64 0, .pointer none, .int .i64 0, .pointer none, .int .i64 0]) := Lib.hid (Blk.below (Blk.drew (Blk.new w1 _ _)) hbt (by simp))); have Xt := X5.out.below Bt X5.out.lt; have xt := cells4 Xt; have xt0 := xt.1; have xt1 := xt.2.1; have xt2 := xt.2.2.1; have xt3 := xt.2.2.2; have zxt := Xt.lt; have Dt := Lib.hid (D1.out.later Bt); have Lt := Lib.hid (L1.out.later Bt); have zt := Bt.size; clear xt Xt) | (go_at_call 43; (with_reducible refine (SU.out _ (by first | exact Dt.out | exact Dt.out.later ((Below.refl _ _).alloc (Nat.le_refl _) _)) (by first | exact Lt.out | exact Lt.out.later ((Below.refl _ _).alloc (Nat.le_refl _) _))).mono ?_); rintro e w9 ⟨fp9, rfl, hf9, -, hl9, hc9⟩; have C9 : Hid (Chg (fun b => lp = some b) w1 w9) := Lib.hid (by first | exact (Chg.of_below Bt).trans hc9 | exact ((Chg.of_below Bt).alloc _).trans hc9); have D9 := Lib.hid (D1.out.lens HS.out C9.out); have L9 := Lib.hid hl9; have z9 := C9.out.size; (try replace P9 : Hid (Blk w9 w1.heap.size 100 #[.pointer none, .int .u64 0, .int .u64 0, .pointer none, .int .i64 0, .pointer none, .int .i64 0]) := Lib.hid (Blk.chg P9.out hc9 (hNL _ (by omega)))); (try have P8 : Hid (Blk w9 wt.heap.size 100 #[.pointer none, .int .u64 0, .int .u64 0, .pointer none, .int .i64 0, .pointer none, .int .i64 0]) := Lib.hid (Blk.chg (Blk.new wt _ _) hc9 (hNL _ (by omega)))); (first | have p9 := cells7 P9.out | have p9 := cells7 P8.out | skip); (try have p90 := p9.1); (try have p91 := p9.2.1); (try have p92 := p9.2.2.1); (try have p93 := p9.2.2.2.1); (try have p94 := p9.2.2.2.2.1); (try have p95 := p9.2.2.2.2.2.1); (try have p96 := p9.2.2.2.2.2.2); (try clear p9); (first | have pf9 := fun j => P9.out.frozen j | have pf9 := fun j => P8.out.frozen j | skip); (first | have zP9 := P9.out.lt | have zP9 := P8.out.lt | skip))); refine hK.out _ _ ?_; clear hK K
      try refine ztP ?_
      refine ztE fun K hK => ?_; go_wp2_with (fail); refine hK.out _ _ ?_; clear hK K
      try refine ztP ?_
      refine T_done ?_
      rotate_left 1
      rotate_right 3
      all_goals (go_wp2; go_meet)
      all_goals
        first
          | with_reducible exact ⟨_, _, rfl, hf9, by omega, Blk.new _ _ _, D9.out.later ((Below.refl _ _).alloc (Nat.le_refl _) _), L9.out.later ((Below.refl _ _).alloc (Nat.le_refl _) _), C9.out.alloc _⟩
          | with_reducible exact ⟨_, _, rfl, hf9, Nat.le_refl _, sets7 P9.out _ _ _ _ _ _ _, D9.out.chg (chg7 _ _ _ _ _ _ _ _ _) (fun b e => by subst e; omega) (fun x hx e => by have := HLT5.out x hx; omega), L9.out.chg (chg7 _ _ _ _ _ _ _ _ _) (fun b e e2 => by have := HLZ5.out b e; omega), C9.out.trans' (chg7 _ _ _ _ _ _ _ _ _) (fun b hb e => by omega)⟩
          | with_reducible exact ⟨_, _, rfl, hf9, zt, sets7 P8.out _ _ _ _ _ _ _, D9.out.chg (chg7 _ _ _ _ _ _ _ _ _) (fun b e => by subst e; omega) (fun x hx e => by have := HLT5.out x hx; omega), L9.out.chg (chg7 _ _ _ _ _ _ _ _ _) (fun b e e2 => by have := HLZ5.out b e; omega), C9.out.trans' (chg7 _ _ _ _ _ _ _ _ _) (fun b hb e => by omega)⟩
    case rest =>
      obtain ⟨P, fp, rfl, hfp0, hPz, hP, hD, hL, hC⟩ := hcut
      have HFP := Lib.hid hfp0
      clear hfp0
      have DE := Lib.hid hD
      have LE := Lib.hid hL
      have CE := Lib.hid hC
      have PE := Lib.hid hP
      have XE := Lib.hid (X8.out.chg hC (hNL _ (by omega)))
      have XL := Lib.hid (X5.out.chg hC (hNL _ (by omega)))
      obtain ⟨e0, e1, e2, e3, e4, e5, e6⟩ := cells7 hP
      have zP := hP.lt
      have zc1 := hC.size
      clear hD hL hC hP c0 c1 c2 c3 c4 c5 zc l0 l1 l2 l3 zl X5 X8 D1 L1
      go_wp2_with (first | (go_at_call 44; (with_reducible refine (EU.out _ _ _ DE.out).mono ?_); rintro e w2 ⟨rfl, hb2⟩; have P2 := PE.out.below hb2 PE.out.lt; have p2 := cells7 P2; have p20 := p2.1; have p21 := p2.2.1; have p22 := p2.2.2.1; have p23 := p2.2.2.2.1; have p24 := p2.2.2.2.2.1; have p25 := p2.2.2.2.2.2.1; have p26 := p2.2.2.2.2.2.2; have zP2 := P2.lt; have X2 := XE.out.below hb2 XE.out.lt; have x2 := cells7 X2; have x20 := x2.1; have x21 := x2.2.1; have x22 := x2.2.2.1; have x23 := x2.2.2.2.1; have x24 := x2.2.2.2.2.1; have x25 := x2.2.2.2.2.2.1; have x26 := x2.2.2.2.2.2.2; have xf2 := fun j => X2.frozen j; have zX2 := X2.lt; have HB2 := Lib.hid hb2; have HX2 := Lib.hid X2; have HP2 := Lib.hid P2; clear p2 x2) | (refine wpList_unit rfl (exec_storeAll (t := 100) rfl rfl rfl (HX2.out.alloc (.cells #[.int .u64 u0, .int .u64 u1, .int .u64 u2] 46)) (by rfl) (Tryz.sizeOf100 _) (by simp [Value.oneCell'])) ?_))
      refine wp_end_at (fun Wf hWf => ?_)
      have hR : Blk Wf (B5 + 1) 100 #[.pointer (some ⟨a (8 + 3 * yy), 0, none⟩), .int .u64 key, .int .u64 (hh : Int), .pointer uap, .int .i64 uaz, .pointer fp, .int .i64 ufz] := by rw [hWf]; exact (HX2.out.alloc _).setRow _
      obtain ⟨r0, r1, r2, r3, r4, r5, r6⟩ := cells7 hR
      obtain ⟨WE, hWE, hCf⟩ : ∃ WE, Below w2.heap.size w2 WE ∧ Chg (fun b => b = B5 + 1) WE Wf := ⟨_, (Below.refl _ _).alloc (Nat.le_refl _) _, by rw [hWf]; exact (Chg.refl (fun b => b = B5 + 1) _).setRow (.inl rfl) _⟩
      have hDA := (DE.out.later HB2.out).later hWE
      refine bodyPost_ret (v := .tuple #[.agg #[.pointer (some ⟨a (8 + 3 * yy), 0, none⟩), .int .u64 key, .int .u64 (hh : Int), .pointer uap, .int .i64 uaz, .pointer fp, .int .i64 ufz], .bool true]) (by simp [results, Tryz.results91, go_sem, r0, r1, r2, r3, r4, r5, r6]) rfl ⟨_, rfl, HFP.out, hDA.chg hCf (fun b e => by omega) (fun x hx e => by have := HLT5.out x hx; omega), ((LE.out.later HB2.out).later hWE).chg hCf (fun b e e2 => hNL b (by omega) e), ?_⟩
      exact (((HC1.out.trans CE.out).thenBelow HB2.out).thenBelow hWE).trans' hCf (fun b hb e => by omega)
  | false =>
    rw [hU] at EU
    cases hT : s.T.has key hh with
    | true =>
      rw [hT] at EN
      simp only [Bool.false_or, Bool.or_true, Bool.not_true, Bool.false_eq_true, if_false]
      generalize V.atP (a (9 + 3 * yy)) key hh = uap at *
      generalize V.atZ key hh = uaz at *
      generalize V.frZ key hh = ufz at *
      generalize V.has key hh = uh at *
      generalize (V.ent key hh).key = u0 at *
      generalize (V.ent key hh).val = u1 at *
      generalize (V.ent key hh).hash = u2 at *
      generalize V.looks key hh = ulk at *
      generalize V.freeG key hh = ufg at *
      generalize s.T.atP (a 2) key hh = ap at *
      generalize s.T.atZ key hh = az at *
      generalize s.T.frZ key hh = fz at *
      generalize s.T.has key hh = th at *
      generalize (s.T.ent key hh).key = k0 at *
      generalize (s.T.ent key hh).val = k1 at *
      generalize (s.T.ent key hh).hash = k2 at *
      generalize s.T.looks key hh = lk at *
      generalize s.T.freeG key hh = fg at *
      clear hU hT
      go_enter Tryz.func91, Tryz.ntmps91
      go_upto_region 5 with (go_at_call 106; (with_reducible refine (RD.out _ (HD.out.later (by go_grown))).mono ?_); rintro e w1 ⟨rfl, rfl⟩)
      refine wp_at (fun w1 hw1 => ?_)
      have hb1 : Below w.heap.size w w1 := by rw [hw1]; go_grown
      obtain ⟨B5, hB5⟩ : ∃ B5, B5 = w.heap.size := ⟨_, rfl⟩
      have X5 := Lib.hid (show Blk w1 B5 50 #[.pointer q, .int .i64 x, .int .i64 y, .int .i64 z] by rw [hw1, hB5]; exact (Blk.new _ _ _).alloc _)
      have X8 := Lib.hid (show Blk w1 (B5 + 1) 100 #[.pointer none, .int .u64 0, .int .u64 0, .pointer none, .int .i64 0, .pointer none, .int .i64 0] by rw [hw1, hB5]; exact Blk.new_at (by simp))
      have D1 := Lib.hid (HD.out.later hb1)
      have L1 := Lib.hid (HL.out.later hb1)
      have hw1s : B5 + 1 + 1 ≤ w1.heap.size := by rw [hw1, hB5]; simp
      have hB5' : w.heap.size ≤ B5 := Nat.le_of_eq hB5.symm
      have hNL : ∀ b, B5 ≤ b → ¬ lp = some b := fun b hb e => by have := (HL.out b e).lt; omega
      have HLT := Lib.hid D1.out.lt
      have HLZ := Lib.hid (show ∀ b, lp = some b → b < w1.heap.size from fun b e => (L1.out b e).lt)
      have HLT5 := Lib.hid (show ∀ x, Used s.k true x → a x < B5 from fun x hx => by have := HD.out.lt x hx; omega)
      have HLZ5 := Lib.hid (show ∀ b, lp = some b → b < B5 from fun b e => by have := (HL.out b e).lt; omega)
      rw [← hB5]
      replace hB5 := Lib.hid hB5
      replace hw1 := Lib.hid hw1
      have HC1 := Lib.hid (show Chg (fun b => lp = some b) w w1 from Chg.of_below hb1)
      clear hb1
      obtain ⟨c0, c1, c2, c3, c4, c5, zc⟩ := D1.out.cells
      obtain ⟨l0, l1, l2, l3⟩ := cells4 X5.out
      have zl := X5.out.lt
      have hn0 : ¬ lp = some (a 0) := fun e => (HS.out _ e).2 0 (.lt4 (by decide)) rfl
      have hn5 : ¬ lp = some B5 := hNL _ (Nat.le_refl _)
      go_cut [13] (fun v13 wx => ∃ (P : Nat) (fp : Option Addr), v13 = .pointer (some ⟨P, 0, none⟩) ∧ (0 ≤ ufz → fp = some ⟨a (9 + 3 * yy), ufg * 25, none⟩) ∧ w1.heap.size ≤ P ∧ Blk wx P 100 #[.pointer (some ⟨a (8 + 3 * yy), 0, none⟩), .int .u64 key, .int .u64 (hh : Int), .pointer uap, .int .i64 uaz, .pointer fp, .int .i64 ufz] ∧ DuB wx a s bcap fcap cap5 tk E w0 ∧ LW wx lp (addN mt x y z ulk) ∧ Chg (fun b => lp = some b) w1 wx)
      case first =>
        refine wp_region_T (fun b => lp = some b) #[⟨0, 0, 137438953472, 1, 0⟩, ⟨1, 1, 274877906944, 137438953472, 0⟩, ⟨2, 3, 549755813888, 274877906944, 0⟩, ⟨4, 7, 1099511627776, 549755813888, 1⟩, ⟨0, 0, 2199023255552, 8, 0⟩, ⟨24, 31, 4398046511104, 3298534883328, 2⟩, ⟨0, 0, 8796093022208, 32, 1⟩, ⟨0, 0, 17592186044416, 4, 0⟩, ⟨0, 0, 35184372088832, 8, 0⟩, ⟨480, 511, 70368744177664, 65970697666560, 3⟩, ⟨0, 0, 8192, 0, 2⟩, ⟨2047, 2047, 0, 70368744185856, 3⟩] 72 (.step 0 0 (.step 1 0 (.step 2 0 (.step 3 1 (.step 4 0 (.step 6 1 (.step 7 0 (.step 8 0 (.fork (.alt 5 (.fork (.alt 9 (.step 10 2 (.step 11 3 Plan.done)) (.alt 10 (.step 9 3 (.step 11 3 Plan.done)) Plan.none))) (.alt 10 (.step 5 2 (.step 9 3 (.step 11 3 Plan.done))) Plan.none))))))))))) (by kernel_rfl) (by kernel_rfl) (by kernel_rfl) (by kernel_rfl) (by kernel_rfl) (by kernel_rfl) (fun c a d v w h => by cases d <;> exact h) ?_
        refine ztC ?_; refine ztC ?_; refine ztC ?_
        refine zt1 Tryz.underlying163 ?_
        try refine ztP ?_; refine ztC ?_
        refine ztL [_, _, _, _] Tryz.underlying50 ?_
        try refine ztP ?_; refine ztC ?_; refine ztC ?_
        refine zt2 (fun K hK => ?_) fun K hK => ?_
        (go_wp2_with (first | (go_at_call 137; (with_reducible refine (TG.out _ (by first | exact D1.out.later (Below.refl _ _).drew | exact D1.out.later ((Below.refl _ _).alloc (Nat.le_refl _) _).drew)).mono ?_); rintro e wt ⟨rfl, hbt⟩; have Bt : Below w1.heap.size w1 wt := (by first | exact Below.undrew hbt | exact (((Below.refl _ w1).alloc (Nat.le_refl _) _).drew).trans (hbt.mono (by simp))); (try have P9 : Hid (Blk wt w1.heap.size 100 #[.pointer none, .int .u64 0, .int .u64 0, .pointer none, .int .i64 0, .pointer none, .int .i64 0]) := Lib.hid (Blk.below (Blk.drew (Blk.new w1 _ _)) hbt (by simp))); have Xt := X5.out.below Bt X5.out.lt; have xt := cells4 Xt; have xt0 := xt.1; have xt1 := xt.2.1; have xt2 := xt.2.2.1; have xt3 := xt.2.2.2; have zxt := Xt.lt; have Dt := Lib.hid (D1.out.later Bt); have Lt := Lib.hid (L1.out.later Bt); have zt := Bt.size; clear xt Xt) | (go_at_call 43; (with_reducible refine (SU.out _ (by first | exact Dt.out | exact Dt.out.later ((Below.refl _ _).alloc (Nat.le_refl _) _)) (by first | exact Lt.out | exact Lt.out.later ((Below.refl _ _).alloc (Nat.le_refl _) _))).mono ?_); rintro e w9 ⟨fp9, rfl, hf9, -, hl9, hc9⟩; have C9 : Hid (Chg (fun b => lp = some b) w1 w9) := Lib.hid (by first | exact (Chg.of_below Bt).trans hc9 | exact ((Chg.of_below Bt).alloc _).trans hc9); have D9 := Lib.hid (D1.out.lens HS.out C9.out); have L9 := Lib.hid hl9; have z9 := C9.out.size; (try replace P9 : Hid (Blk w9 w1.heap.size 100 #[.pointer none, .int .u64 0, .int .u64 0, .pointer none, .int .i64 0, .pointer none, .int .i64 0]) := Lib.hid (Blk.chg P9.out hc9 (hNL _ (by omega)))); (try have P8 : Hid (Blk w9 wt.heap.size 100 #[.pointer none, .int .u64 0, .int .u64 0, .pointer none, .int .i64 0, .pointer none, .int .i64 0]) := Lib.hid (Blk.chg (Blk.new wt _ _) hc9 (hNL _ (by omega)))); (first | have p9 := cells7 P9.out | have p9 := cells7 P8.out | skip); (try have p90 := p9.1); (try have p91 := p9.2.1); (try have p92 := p9.2.2.1); (try have p93 := p9.2.2.2.1); (try have p94 := p9.2.2.2.2.1); (try have p95 := p9.2.2.2.2.2.1); (try have p96 := p9.2.2.2.2.2.2); (try clear p9); (first | have pf9 := fun j => P9.out.frozen j | have pf9 := fun j => P8.out.frozen j | skip); (first | have zP9 := P9.out.lt | have zP9 := P8.out.lt | skip))); refine hkI hK (h := ?_); clear hK K)
        try refine ztP ?_
        refine zt2 (fun K hK => ?_) fun K hK => ?_
        (go_wp2_with (first | (go_at_call 137; (with_reducible refine (TG.out _ (by first | exact D1.out.later (Below.refl _ _).drew | exact D1.out.later ((Below.refl _ _).alloc (Nat.le_refl _) _).drew)).mono ?_); rintro e wt ⟨rfl, hbt⟩; have Bt : Below w1.heap.size w1 wt := (by first | exact Below.undrew hbt | exact (((Below.refl _ w1).alloc (Nat.le_refl _) _).drew).trans (hbt.mono (by simp))); (try have P9 : Hid (Blk wt w1.heap.size 100 #[.pointer none, .int .u64 0, .int .u64 0, .pointer none, .int .i64 0, .pointer none, .int .i64 0]) := Lib.hid (Blk.below (Blk.drew (Blk.new w1 _ _)) hbt (by simp))); have Xt := X5.out.below Bt X5.out.lt; have xt := cells4 Xt; have xt0 := xt.1; have xt1 := xt.2.1; have xt2 := xt.2.2.1; have xt3 := xt.2.2.2; have zxt := Xt.lt; have Dt := Lib.hid (D1.out.later Bt); have Lt := Lib.hid (L1.out.later Bt); have zt := Bt.size; clear xt Xt) | (go_at_call 43; (with_reducible refine (SU.out _ (by first | exact Dt.out | exact Dt.out.later ((Below.refl _ _).alloc (Nat.le_refl _) _)) (by first | exact Lt.out | exact Lt.out.later ((Below.refl _ _).alloc (Nat.le_refl _) _))).mono ?_); rintro e w9 ⟨fp9, rfl, hf9, -, hl9, hc9⟩; have C9 : Hid (Chg (fun b => lp = some b) w1 w9) := Lib.hid (by first | exact (Chg.of_below Bt).trans hc9 | exact ((Chg.of_below Bt).alloc _).trans hc9); have D9 := Lib.hid (D1.out.lens HS.out C9.out); have L9 := Lib.hid hl9; have z9 := C9.out.size; (try replace P9 : Hid (Blk w9 w1.heap.size 100 #[.pointer none, .int .u64 0, .int .u64 0, .pointer none, .int .i64 0, .pointer none, .int .i64 0]) := Lib.hid (Blk.chg P9.out hc9 (hNL _ (by omega)))); (try have P8 : Hid (Blk w9 wt.heap.size 100 #[.pointer none, .int .u64 0, .int .u64 0, .pointer none, .int .i64 0, .pointer none, .int .i64 0]) := Lib.hid (Blk.chg (Blk.new wt _ _) hc9 (hNL _ (by omega)))); (first | have p9 := cells7 P9.out | have p9 := cells7 P8.out | skip); (try have p90 := p9.1); (try have p91 := p9.2.1); (try have p92 := p9.2.2.1); (try have p93 := p9.2.2.2.1); (try have p94 := p9.2.2.2.2.1); (try have p95 := p9.2.2.2.2.2.1); (try have p96 := p9.2.2.2.2.2.2); (try clear p9); (first | have pf9 := fun j => P9.out.frozen j | have pf9 := fun j => P8.out.frozen j | skip); (first | have zP9 := P9.out.lt | have zP9 := P8.out.lt | skip))); refine hkI hK (h := ?_); clear hK K)
        try refine ztP ?_
        refine ztD fun K hK => ?_; go_wp2_with (fail); refine hkI hK (h := ?_); clear hK K
        try refine ztP ?_
        refine ztE fun K hK => ?_; go_wp2_with (fail); refine hK.out _ _ ?_; clear hK K
        try refine ztP ?_
        refine T_done ?_
        rotate_left 1
        (go_wp2_with (fail); refine hkI hK (h := ?_); clear hK K)
        try refine ztP ?_
        refine ztE fun K hK => ?_; go_wp2_with (first | (go_at_call 137; (with_reducible refine (TG.out _ (by first | exact D1.out.later (Below.refl _ _).drew | exact D1.out.later ((Below.refl _ _).alloc (Nat.le_refl _) _).drew)).mono ?_); rintro e wt ⟨rfl, hbt⟩; have Bt : Below w1.heap.size w1 wt := (by first | exact Below.undrew hbt | exact (((Below.refl _ w1).alloc (Nat.le_refl _) _).drew).trans (hbt.mono (by simp))); (try have P9 : Hid (Blk wt w1.heap.size 100 #[.pointer none, .int .u64 0, .int .u64 0, .pointer none, .int .i64 0, .pointer none, .int .i64 0]) := Lib.hid (Blk.below (Blk.drew (Blk.new w1 _ _)) hbt (by simp))); have Xt := X5.out.below Bt X5.out.lt; have xt := cells4 Xt; have xt0 := xt.1; have xt1 := xt.2.1; have xt2 := xt.2.2.1; have xt3 := xt.2.2.2; have zxt := Xt.lt; have Dt := Lib.hid (D1.out.later Bt); have Lt := Lib.hid (L1.out.later Bt); have zt := Bt.size; clear xt Xt) | (go_at_call 43; (with_reducible refine (SU.out _ (by first | exact Dt.out | exact Dt.out.later ((Below.refl _ _).alloc (Nat.le_refl _) _)) (by first | exact Lt.out | exact Lt.out.later ((Below.refl _ _).alloc (Nat.le_refl _) _))).mono ?_); rintro e w9 ⟨fp9, rfl, hf9, -, hl9, hc9⟩; have C9 : Hid (Chg (fun b => lp = some b) w1 w9) := Lib.hid (by first | exact (Chg.of_below Bt).trans hc9 | exact ((Chg.of_below Bt).alloc _).trans hc9); have D9 := Lib.hid (D1.out.lens HS.out C9.out); have L9 := Lib.hid hl9; have z9 := C9.out.size; (try replace P9 : Hid (Blk w9 w1.heap.size 100 #[.pointer none, .int .u64 0, .int .u64 0, .pointer none, .int .i64 0, .pointer none, .int .i64 0]) := Lib.hid (Blk.chg P9.out hc9 (hNL _ (by omega)))); (try have P8 : Hid (Blk w9 wt.heap.size 100 #[.pointer none, .int .u64 0, .int .u64 0, .pointer none, .int .i64 0, .pointer none, .int .i64 0]) := Lib.hid (Blk.chg (Blk.new wt _ _) hc9 (hNL _ (by omega)))); (first | have p9 := cells7 P9.out | have p9 := cells7 P8.out | skip); (try have p90 := p9.1); (try have p91 := p9.2.1); (try have p92 := p9.2.2.1); (try have p93 := p9.2.2.2.1); (try have p94 := p9.2.2.2.2.1); (try have p95 := p9.2.2.2.2.2.1); (try have p96 := p9.2.2.2.2.2.2); (try clear p9); (first | have pf9 := fun j => P9.out.frozen j | have pf9 := fun j => P8.out.frozen j | skip); (first | have zP9 := P9.out.lt | have zP9 := P8.out.lt | skip))); refine hK.out _ _ ?_; clear hK K
        try refine ztP ?_
        refine ztE fun K hK => ?_; go_wp2_with (fail); refine hK.out _ _ ?_; clear hK K
        try refine ztP ?_
        refine T_done ?_
        rotate_left 1
        rotate_right 2
        rotate_left 2
        (go_wp2_with (fail); refine hkI hK (h := ?_); clear hK K)
        try refine ztP ?_
        refine ztD fun K hK => ?_; go_wp2_with (first | (go_at_call 137; (with_reducible refine (TG.out _ (by first | exact D1.out.later (Below.refl _ _).drew | exact D1.out.later ((Below.refl _ _).alloc (Nat.le_refl _) _).drew)).mono ?_); rintro e wt ⟨rfl, hbt⟩; have Bt : Below w1.heap.size w1 wt := (by first | exact Below.undrew hbt | exact (((Below.refl _ w1).alloc (Nat.le_refl _) _).drew).trans (hbt.mono (by simp))); (try have P9 : Hid (Blk wt w1.heap.size 100 #[.pointer none, .int .u64 0, .int .u64 0, .pointer none, .int .i64 0, .pointer none, .int .i64 0]) := Lib.hid (Blk.below (Blk.drew (Blk.new w1 _ _)) hbt (by simp))); have Xt := X5.out.below Bt X5.out.lt; have xt := cells4 Xt; have xt0 := xt.1; have xt1 := xt.2.1; have xt2 := xt.2.2.1; have xt3 := xt.2.2.2; have zxt := Xt.lt; have Dt := Lib.hid (D1.out.later Bt); have Lt := Lib.hid (L1.out.later Bt); have zt := Bt.size; clear xt Xt) | (go_at_call 43; (with_reducible refine (SU.out _ (by first | exact Dt.out | exact Dt.out.later ((Below.refl _ _).alloc (Nat.le_refl _) _)) (by first | exact Lt.out | exact Lt.out.later ((Below.refl _ _).alloc (Nat.le_refl _) _))).mono ?_); rintro e w9 ⟨fp9, rfl, hf9, -, hl9, hc9⟩; have C9 : Hid (Chg (fun b => lp = some b) w1 w9) := Lib.hid (by first | exact (Chg.of_below Bt).trans hc9 | exact ((Chg.of_below Bt).alloc _).trans hc9); have D9 := Lib.hid (D1.out.lens HS.out C9.out); have L9 := Lib.hid hl9; have z9 := C9.out.size; (try replace P9 : Hid (Blk w9 w1.heap.size 100 #[.pointer none, .int .u64 0, .int .u64 0, .pointer none, .int .i64 0, .pointer none, .int .i64 0]) := Lib.hid (Blk.chg P9.out hc9 (hNL _ (by omega)))); (try have P8 : Hid (Blk w9 wt.heap.size 100 #[.pointer none, .int .u64 0, .int .u64 0, .pointer none, .int .i64 0, .pointer none, .int .i64 0]) := Lib.hid (Blk.chg (Blk.new wt _ _) hc9 (hNL _ (by omega)))); (first | have p9 := cells7 P9.out | have p9 := cells7 P8.out | skip); (try have p90 := p9.1); (try have p91 := p9.2.1); (try have p92 := p9.2.2.1); (try have p93 := p9.2.2.2.1); (try have p94 := p9.2.2.2.2.1); (try have p95 := p9.2.2.2.2.2.1); (try have p96 := p9.2.2.2.2.2.2); (try clear p9); (first | have pf9 := fun j => P9.out.frozen j | have pf9 := fun j => P8.out.frozen j | skip); (first | have zP9 := P9.out.lt | have zP9 := P8.out.lt | skip))); refine hkI hK (h := ?_); clear hK K
        try refine ztP ?_
        refine ztE fun K hK => ?_; go_wp2_with (first | (go_at_call 137; (with_reducible refine (TG.out _ (by first | exact D1.out.later (Below.refl _ _).drew | exact D1.out.later ((Below.refl _ _).alloc (Nat.le_refl _) _).drew)).mono ?_); rintro e wt ⟨rfl, hbt⟩; have Bt : Below w1.heap.size w1 wt := (by first | exact Below.undrew hbt | exact (((Below.refl _ w1).alloc (Nat.le_refl _) _).drew).trans (hbt.mono (by simp))); (try have P9 : Hid (Blk wt w1.heap.size 100 #[.pointer none, .int .u64 0, .int .u64 0, .pointer none, .int .i64 0, .pointer none, .int .i64 0]) := Lib.hid (Blk.below (Blk.drew (Blk.new w1 _ _)) hbt (by simp))); have Xt := X5.out.below Bt X5.out.lt; have xt := cells4 Xt; have xt0 := xt.1; have xt1 := xt.2.1; have xt2 := xt.2.2.1; have xt3 := xt.2.2.2; have zxt := Xt.lt; have Dt := Lib.hid (D1.out.later Bt); have Lt := Lib.hid (L1.out.later Bt); have zt := Bt.size; clear xt Xt) | (go_at_call 43; (with_reducible refine (SU.out _ (by first | exact Dt.out | exact Dt.out.later ((Below.refl _ _).alloc (Nat.le_refl _) _)) (by first | exact Lt.out | exact Lt.out.later ((Below.refl _ _).alloc (Nat.le_refl _) _))).mono ?_); rintro e w9 ⟨fp9, rfl, hf9, -, hl9, hc9⟩; have C9 : Hid (Chg (fun b => lp = some b) w1 w9) := Lib.hid (by first | exact (Chg.of_below Bt).trans hc9 | exact ((Chg.of_below Bt).alloc _).trans hc9); have D9 := Lib.hid (D1.out.lens HS.out C9.out); have L9 := Lib.hid hl9; have z9 := C9.out.size; (try replace P9 : Hid (Blk w9 w1.heap.size 100 #[.pointer none, .int .u64 0, .int .u64 0, .pointer none, .int .i64 0, .pointer none, .int .i64 0]) := Lib.hid (Blk.chg P9.out hc9 (hNL _ (by omega)))); (try have P8 : Hid (Blk w9 wt.heap.size 100 #[.pointer none, .int .u64 0, .int .u64 0, .pointer none, .int .i64 0, .pointer none, .int .i64 0]) := Lib.hid (Blk.chg (Blk.new wt _ _) hc9 (hNL _ (by omega)))); (first | have p9 := cells7 P9.out | have p9 := cells7 P8.out | skip); (try have p90 := p9.1); (try have p91 := p9.2.1); (try have p92 := p9.2.2.1); (try have p93 := p9.2.2.2.1); (try have p94 := p9.2.2.2.2.1); (try have p95 := p9.2.2.2.2.2.1); (try have p96 := p9.2.2.2.2.2.2); (try clear p9); (first | have pf9 := fun j => P9.out.frozen j | have pf9 := fun j => P8.out.frozen j | skip); (first | have zP9 := P9.out.lt | have zP9 := P8.out.lt | skip))); refine hK.out _ _ ?_; clear hK K
        try refine ztP ?_
        refine ztE fun K hK => ?_; go_wp2_with (fail); refine hK.out _ _ ?_; clear hK K
        try refine ztP ?_
        refine T_done ?_
        rotate_left 1
        rotate_right 3
        all_goals (go_wp2; go_meet)
        all_goals
          first
            | with_reducible exact ⟨_, _, rfl, hf9, by omega, Blk.new _ _ _, D9.out.later ((Below.refl _ _).alloc (Nat.le_refl _) _), L9.out.later ((Below.refl _ _).alloc (Nat.le_refl _) _), C9.out.alloc _⟩
            | with_reducible exact ⟨_, _, rfl, hf9, Nat.le_refl _, sets7 P9.out _ _ _ _ _ _ _, D9.out.chg (chg7 _ _ _ _ _ _ _ _ _) (fun b e => by subst e; omega) (fun x hx e => by have := HLT5.out x hx; omega), L9.out.chg (chg7 _ _ _ _ _ _ _ _ _) (fun b e e2 => by have := HLZ5.out b e; omega), C9.out.trans' (chg7 _ _ _ _ _ _ _ _ _) (fun b hb e => by omega)⟩
            | with_reducible exact ⟨_, _, rfl, hf9, zt, sets7 P8.out _ _ _ _ _ _ _, D9.out.chg (chg7 _ _ _ _ _ _ _ _ _) (fun b e => by subst e; omega) (fun x hx e => by have := HLT5.out x hx; omega), L9.out.chg (chg7 _ _ _ _ _ _ _ _ _) (fun b e e2 => by have := HLZ5.out b e; omega), C9.out.trans' (chg7 _ _ _ _ _ _ _ _ _) (fun b hb e => by omega)⟩
      case rest =>
        obtain ⟨P, fp, rfl, hfp0, hPz, hP, hD, hL, hC⟩ := hcut
        have HFP := Lib.hid hfp0
        clear hfp0
        have DE := Lib.hid hD
        have LE := Lib.hid hL
        have CE := Lib.hid hC
        have PE := Lib.hid hP
        have XE := Lib.hid (X8.out.chg hC (hNL _ (by omega)))
        have XL := Lib.hid (X5.out.chg hC (hNL _ (by omega)))
        obtain ⟨e0, e1, e2, e3, e4, e5, e6⟩ := cells7 hP
        have zP := hP.lt
        have zc1 := hC.size
        clear hD hL hC hP c0 c1 c2 c3 c4 c5 zc l0 l1 l2 l3 zl X5 X8 D1 L1
        go_upto_region 9 with (go_at_call 44; (with_reducible refine (EU.out _ _ _ DE.out).mono ?_); rintro e w2 ⟨rfl, hb2⟩; have P2 := PE.out.below hb2 PE.out.lt; have p2 := cells7 P2; have p20 := p2.1; have p21 := p2.2.1; have p22 := p2.2.2.1; have p23 := p2.2.2.2.1; have p24 := p2.2.2.2.2.1; have p25 := p2.2.2.2.2.2.1; have p26 := p2.2.2.2.2.2.2; have zP2 := P2.lt; have X2 := XE.out.below hb2 XE.out.lt; have x2 := cells7 X2; have x20 := x2.1; have x21 := x2.2.1; have x22 := x2.2.2.1; have x23 := x2.2.2.2.1; have x24 := x2.2.2.2.2.1; have x25 := x2.2.2.2.2.2.1; have x26 := x2.2.2.2.2.2.2; have xf2 := fun j => X2.frozen j; have zX2 := X2.lt; have HB2 := Lib.hid hb2; have HX2 := Lib.hid X2; have HP2 := Lib.hid P2; clear p2 x2)
        refine wp_at (fun w3 hw3 => ?_)
        obtain ⟨WE, hWE, hCf⟩ : ∃ WE, Below w2.heap.size w2 WE ∧ Below WE.heap.size WE w3 := ⟨_, (Below.refl _ _).alloc (Nat.le_refl _) _, by rw [hw3]; exact Below.refl _ _⟩
        have hb3 : Below w2.heap.size w2 w3 := hWE.trans (hCf.mono hWE.size)
        replace hw3 := Lib.hid hw3
        have D3 := Lib.hid ((DE.out.later HB2.out).later hb3)
        have L3 := Lib.hid ((LE.out.later HB2.out).later hb3)
        have P3 := Lib.hid (HP2.out.below hb3 HP2.out.lt)
        have X3 := Lib.hid (HX2.out.below hb3 HX2.out.lt)
        have XL3 := Lib.hid ((XL.out.below HB2.out XL.out.lt).below hb3 (XL.out.below HB2.out XL.out.lt).lt)
        have CE3 := Lib.hid ((CE.out.thenBelow HB2.out).thenBelow hb3)
        have hLT3 := CE3.out.size
        clear hCf hWE hb3 p20 p21 p22 p23 p24 p25 p26 zP2 x20 x21 x22 x23 x24 x25 x26 xf2 zX2 e0 e1 e2 e3 e4 e5 e6 zP HB2 HX2 HP2 DE LE CE PE XE XL
        obtain ⟨c0, c1, c2, c3, c4, c5, zc⟩ := D3.out.cells
        obtain ⟨l0, l1, l2, l3⟩ := cells4 XL3.out
        have zl := XL3.out.lt
        go_cut [16] (fun v16 wx => ∃ (P : Nat) (fp : Option Addr), v16 = .pointer (some ⟨P, 0, none⟩) ∧ (0 ≤ fz → fp = some ⟨a 2, fg * 25, none⟩) ∧ w3.heap.size ≤ P ∧ Blk wx P 100 #[.pointer (some ⟨a 1, 0, none⟩), .int .u64 key, .int .u64 (hh : Int), .pointer ap, .int .i64 az, .pointer fp, .int .i64 fz] ∧ DuB wx a s bcap fcap cap5 tk E w0 ∧ LW wx lp (addN (addN mt x y z ulk) x y z lk) ∧ Chg (fun b => lp = some b) w3 wx)
        case first =>
          refine wp_region_T (fun b => lp = some b) #[⟨0, 0, 18014398509481984, 1, 0⟩, ⟨1, 1, 36028797018963968, 18014398509481984, 0⟩, ⟨2, 3, 72057594037927936, 36028797018963968, 0⟩, ⟨4, 7, 144115188075855872, 72057594037927936, 1⟩, ⟨0, 0, 288230376151711744, 32, 1⟩, ⟨0, 0, 576460752303423488, 4, 0⟩, ⟨0, 0, 1152921504606846976, 8, 0⟩, ⟨120, 127, 2305843009213693952, 2161727821137838080, 3⟩, ⟨0, 0, 65536, 0, 2⟩, ⟨511, 511, 0, 2305843009213759488, 3⟩] 24 (.step 0 0 (.step 1 0 (.step 2 0 (.step 3 1 (.step 4 1 (.step 5 0 (.step 6 0 (.fork (.alt 7 (.step 8 2 (.step 9 3 Plan.done)) (.alt 8 (.step 7 3 (.step 9 3 Plan.done)) Plan.none)))))))))) (by kernel_rfl) (by kernel_rfl) (by kernel_rfl) (by kernel_rfl) (by kernel_rfl) (by kernel_rfl) (fun c a d v w h => by cases d <;> exact h) ?_
          refine ztC ?_; refine ztC ?_; refine ztC ?_
          refine zt1 Tryz.underlying85 ?_
          try refine ztP ?_
          refine ztL [_, _, _, _] Tryz.underlying50 ?_
          try refine ztP ?_; refine ztC ?_; refine ztC ?_
          refine zt2 (fun K hK => ?_) fun K hK => ?_
          (go_wp2_with ((go_at_call 43; (with_reducible refine (SK.out _ _ (by first | exact D3.out.later (Below.refl _ _).drew | exact D3.out.later ((Below.refl _ _).alloc (Nat.le_refl _) _).drew) (by first | exact L3.out.later (Below.refl _ _).drew | exact L3.out.later ((Below.refl _ _).alloc (Nat.le_refl _) _).drew)).mono ?_); rintro e w9 ⟨fp9, rfl, hf9, -, hl9, hc9⟩; have C9 : Hid (Chg (fun b => lp = some b) w3 w9) := Lib.hid (by first | exact hc9.undrew | exact (((Chg.refl _ w3).alloc _).drew).trans hc9); have D9 := Lib.hid (D3.out.lens HS.out C9.out); have L9 := Lib.hid hl9; have z9 := C9.out.size; (try have P9 : Hid (Blk w9 w3.heap.size 100 #[.pointer none, .int .u64 0, .int .u64 0, .pointer none, .int .i64 0, .pointer none, .int .i64 0]) := Lib.hid (Blk.chg (Blk.drew (Blk.new w3 _ _)) hc9 (hNL _ (by omega)))); (first | have p9 := cells7 P9.out | have p9 := cells7 P8.out | skip); (try have p90 := p9.1); (try have p91 := p9.2.1); (try have p92 := p9.2.2.1); (try have p93 := p9.2.2.2.1); (try have p94 := p9.2.2.2.2.1); (try have p95 := p9.2.2.2.2.2.1); (try have p96 := p9.2.2.2.2.2.2); (try clear p9); (first | have pf9 := fun j => P9.out.frozen j | have pf9 := fun j => P8.out.frozen j | skip); (first | have zP9 := P9.out.lt | have zP9 := P8.out.lt | skip))); refine hkI hK (h := ?_); clear hK K)
          try refine ztP ?_
          refine ztD fun K hK => ?_; go_wp2_with (fail); refine hkI hK (h := ?_); clear hK K
          try refine ztP ?_
          refine ztE fun K hK => ?_; go_wp2_with (fail); refine hK.out _ _ ?_; clear hK K
          try refine ztP ?_
          refine T_done ?_
          rotate_left 1
          (go_wp2_with (fail); refine hkI hK (h := ?_); clear hK K)
          try refine ztP ?_
          refine ztE fun K hK => ?_; go_wp2_with ((go_at_call 43; (with_reducible refine (SK.out _ _ (by first | exact D3.out.later (Below.refl _ _).drew | exact D3.out.later ((Below.refl _ _).alloc (Nat.le_refl _) _).drew) (by first | exact L3.out.later (Below.refl _ _).drew | exact L3.out.later ((Below.refl _ _).alloc (Nat.le_refl _) _).drew)).mono ?_); rintro e w9 ⟨fp9, rfl, hf9, -, hl9, hc9⟩; have C9 : Hid (Chg (fun b => lp = some b) w3 w9) := Lib.hid (by first | exact hc9.undrew | exact (((Chg.refl _ w3).alloc _).drew).trans hc9); have D9 := Lib.hid (D3.out.lens HS.out C9.out); have L9 := Lib.hid hl9; have z9 := C9.out.size; (try have P9 : Hid (Blk w9 w3.heap.size 100 #[.pointer none, .int .u64 0, .int .u64 0, .pointer none, .int .i64 0, .pointer none, .int .i64 0]) := Lib.hid (Blk.chg (Blk.drew (Blk.new w3 _ _)) hc9 (hNL _ (by omega)))); (first | have p9 := cells7 P9.out | have p9 := cells7 P8.out | skip); (try have p90 := p9.1); (try have p91 := p9.2.1); (try have p92 := p9.2.2.1); (try have p93 := p9.2.2.2.1); (try have p94 := p9.2.2.2.2.1); (try have p95 := p9.2.2.2.2.2.1); (try have p96 := p9.2.2.2.2.2.2); (try clear p9); (first | have pf9 := fun j => P9.out.frozen j | have pf9 := fun j => P8.out.frozen j | skip); (first | have zP9 := P9.out.lt | have zP9 := P8.out.lt | skip))); refine hK.out _ _ ?_; clear hK K
          try refine ztP ?_
          refine ztE fun K hK => ?_; go_wp2_with (fail); refine hK.out _ _ ?_; clear hK K
          try refine ztP ?_
          refine T_done ?_
          rotate_left 1
          rotate_right 2
          all_goals (go_wp2; go_meet)
          all_goals
            first
              | with_reducible exact ⟨_, _, rfl, hf9, by omega, Blk.new _ _ _, D9.out.later ((Below.refl _ _).alloc (Nat.le_refl _) _), L9.out.later ((Below.refl _ _).alloc (Nat.le_refl _) _), C9.out.alloc _⟩
              | with_reducible exact ⟨_, _, rfl, hf9, Nat.le_refl _, sets7 P9.out _ _ _ _ _ _ _, D9.out.chg (chg7 _ _ _ _ _ _ _ _ _) (fun b e => by subst e; omega) (fun x hx e => by have := HLT5.out x hx; omega), L9.out.chg (chg7 _ _ _ _ _ _ _ _ _) (fun b e e2 => by have := HLZ5.out b e; omega), C9.out.trans' (chg7 _ _ _ _ _ _ _ _ _) (fun b hb e => by omega)⟩
              | with_reducible exact ⟨_, _, rfl, hf9, zt, sets7 P8.out _ _ _ _ _ _ _, D9.out.chg (chg7 _ _ _ _ _ _ _ _ _) (fun b e => by subst e; omega) (fun x hx e => by have := HLT5.out x hx; omega), L9.out.chg (chg7 _ _ _ _ _ _ _ _ _) (fun b e e2 => by have := HLZ5.out b e; omega), C9.out.trans' (chg7 _ _ _ _ _ _ _ _ _) (fun b hb e => by omega)⟩
        case rest =>
          obtain ⟨P4, fp4, rfl, hfp40, hPz4, hP4, hD4, hL4, hC4⟩ := hcut
          have HFP4 := Lib.hid hfp40
          clear hfp40
          have DE := Lib.hid hD4
          have LE := Lib.hid hL4
          have CE := Lib.hid (CE3.out.trans hC4)
          have PE := Lib.hid hP4
          have XE := Lib.hid (X3.out.chg hC4 (hNL _ (by omega)))
          have PU := Lib.hid (P3.out.chg hC4 (hNL _ (by omega)))
          obtain ⟨e0, e1, e2, e3, e4, e5, e6⟩ := cells7 hP4
          have zP := hP4.lt
          have zc4 := hC4.size
          rw [addN_add] at LE
          clear hD4 hL4 hC4 hP4 c0 c1 c2 c3 c4 c5 zc l0 l1 l2 l3 zl X3 P3 XL3 D3 L3 CE3
          go_wp2_with (first | (go_at_call 44; (with_reducible refine (EN.out _ _ _ DE.out).mono ?_); rintro e w2 ⟨rfl, hb2⟩; have P2 := PE.out.below hb2 PE.out.lt; have p2 := cells7 P2; have p20 := p2.1; have p21 := p2.2.1; have p22 := p2.2.2.1; have p23 := p2.2.2.2.1; have p24 := p2.2.2.2.2.1; have p25 := p2.2.2.2.2.2.1; have p26 := p2.2.2.2.2.2.2; have zP2 := P2.lt; have X2 := XE.out.below hb2 XE.out.lt; have x2 := cells7 X2; have x20 := x2.1; have x21 := x2.2.1; have x22 := x2.2.2.1; have x23 := x2.2.2.2.1; have x24 := x2.2.2.2.2.1; have x25 := x2.2.2.2.2.2.1; have x26 := x2.2.2.2.2.2.2; have xf2 := fun j => X2.frozen j; have zX2 := X2.lt; have HB2 := Lib.hid hb2; have HX2 := Lib.hid X2; have HP2 := Lib.hid P2; clear p2 x2) | (refine wpList_unit rfl (exec_storeAll (t := 100) rfl rfl rfl (HX2.out.alloc (.cells #[.int .u64 k0, .int .u64 k1, .int .u64 k2] 46)) (by rfl) (Tryz.sizeOf100 _) (by simp [Value.oneCell'])) ?_))
          refine wp_end_at (fun Wf hWf => ?_)
          have hR : Blk Wf (B5 + 1) 100 #[.pointer (some ⟨a 1, 0, none⟩), .int .u64 key, .int .u64 (hh : Int), .pointer ap, .int .i64 az, .pointer fp4, .int .i64 fz] := by rw [hWf]; exact (HX2.out.alloc _).setRow _
          obtain ⟨r0, r1, r2, r3, r4, r5, r6⟩ := cells7 hR
          obtain ⟨WE, hWE, hCf⟩ : ∃ WE, Below w2.heap.size w2 WE ∧ Chg (fun b => b = B5 + 1) WE Wf := ⟨_, (Below.refl _ _).alloc (Nat.le_refl _) _, by rw [hWf]; exact (Chg.refl (fun b => b = B5 + 1) _).setRow (.inl rfl) _⟩
          have hDA := (DE.out.later HB2.out).later hWE
          refine bodyPost_ret (v := .tuple #[.agg #[.pointer (some ⟨a 1, 0, none⟩), .int .u64 key, .int .u64 (hh : Int), .pointer ap, .int .i64 az, .pointer fp4, .int .i64 fz], .bool true]) (by simp [results, Tryz.results91, go_sem, r0, r1, r2, r3, r4, r5, r6]) rfl ⟨_, rfl, HFP4.out, hDA.chg hCf (fun b e => by omega) (fun x hx e => by have := HLT5.out x hx; omega), ((LE.out.later HB2.out).later hWE).chg hCf (fun b e e2 => hNL b (by omega) e), ?_⟩
          exact (((HC1.out.trans CE.out).thenBelow HB2.out).thenBelow hWE).trans' hCf (fun b hb e => by omega)
    | false =>
      rw [hT] at EN
      simp only [Bool.false_or, Bool.or_false, Bool.not_false, Bool.false_eq_true, if_true, if_false]
      generalize V.atP (a (9 + 3 * yy)) key hh = uap at *
      generalize V.atZ key hh = uaz at *
      generalize V.frZ key hh = ufz at *
      generalize V.has key hh = uh at *
      generalize (V.ent key hh).key = u0 at *
      generalize (V.ent key hh).val = u1 at *
      generalize (V.ent key hh).hash = u2 at *
      generalize V.looks key hh = ulk at *
      generalize V.freeG key hh = ufg at *
      generalize s.T.atP (a 2) key hh = ap at *
      generalize s.T.atZ key hh = az at *
      generalize s.T.frZ key hh = fz at *
      generalize s.T.has key hh = th at *
      generalize (s.T.ent key hh).key = k0 at *
      generalize (s.T.ent key hh).val = k1 at *
      generalize (s.T.ent key hh).hash = k2 at *
      generalize s.T.looks key hh = lk at *
      generalize s.T.freeG key hh = fg at *
      clear hU hT
      go_enter Tryz.func91, Tryz.ntmps91
      go_upto_region 5 with (go_at_call 106; (with_reducible refine (RD.out _ (HD.out.later (by go_grown))).mono ?_); rintro e w1 ⟨rfl, rfl⟩)
      refine wp_at (fun w1 hw1 => ?_)
      have hb1 : Below w.heap.size w w1 := by rw [hw1]; go_grown
      obtain ⟨B5, hB5⟩ : ∃ B5, B5 = w.heap.size := ⟨_, rfl⟩
      have X5 := Lib.hid (show Blk w1 B5 50 #[.pointer q, .int .i64 x, .int .i64 y, .int .i64 z] by rw [hw1, hB5]; exact (Blk.new _ _ _).alloc _)
      have X8 := Lib.hid (show Blk w1 (B5 + 1) 100 #[.pointer none, .int .u64 0, .int .u64 0, .pointer none, .int .i64 0, .pointer none, .int .i64 0] by rw [hw1, hB5]; exact Blk.new_at (by simp))
      have D1 := Lib.hid (HD.out.later hb1)
      have L1 := Lib.hid (HL.out.later hb1)
      have hw1s : B5 + 1 + 1 ≤ w1.heap.size := by rw [hw1, hB5]; simp
      have hB5' : w.heap.size ≤ B5 := Nat.le_of_eq hB5.symm
      have hNL : ∀ b, B5 ≤ b → ¬ lp = some b := fun b hb e => by have := (HL.out b e).lt; omega
      have HLT := Lib.hid D1.out.lt
      have HLZ := Lib.hid (show ∀ b, lp = some b → b < w1.heap.size from fun b e => (L1.out b e).lt)
      have HLT5 := Lib.hid (show ∀ x, Used s.k true x → a x < B5 from fun x hx => by have := HD.out.lt x hx; omega)
      have HLZ5 := Lib.hid (show ∀ b, lp = some b → b < B5 from fun b e => by have := (HL.out b e).lt; omega)
      rw [← hB5]
      replace hB5 := Lib.hid hB5
      replace hw1 := Lib.hid hw1
      have HC1 := Lib.hid (show Chg (fun b => lp = some b) w w1 from Chg.of_below hb1)
      clear hb1
      obtain ⟨c0, c1, c2, c3, c4, c5, zc⟩ := D1.out.cells
      obtain ⟨l0, l1, l2, l3⟩ := cells4 X5.out
      have zl := X5.out.lt
      have hn0 : ¬ lp = some (a 0) := fun e => (HS.out _ e).2 0 (.lt4 (by decide)) rfl
      have hn5 : ¬ lp = some B5 := hNL _ (Nat.le_refl _)
      go_cut [13] (fun v13 wx => ∃ (P : Nat) (fp : Option Addr), v13 = .pointer (some ⟨P, 0, none⟩) ∧ (0 ≤ ufz → fp = some ⟨a (9 + 3 * yy), ufg * 25, none⟩) ∧ w1.heap.size ≤ P ∧ Blk wx P 100 #[.pointer (some ⟨a (8 + 3 * yy), 0, none⟩), .int .u64 key, .int .u64 (hh : Int), .pointer uap, .int .i64 uaz, .pointer fp, .int .i64 ufz] ∧ DuB wx a s bcap fcap cap5 tk E w0 ∧ LW wx lp (addN mt x y z ulk) ∧ Chg (fun b => lp = some b) w1 wx)
      case first =>
        refine wp_region_T (fun b => lp = some b) #[⟨0, 0, 137438953472, 1, 0⟩, ⟨1, 1, 274877906944, 137438953472, 0⟩, ⟨2, 3, 549755813888, 274877906944, 0⟩, ⟨4, 7, 1099511627776, 549755813888, 1⟩, ⟨0, 0, 2199023255552, 8, 0⟩, ⟨24, 31, 4398046511104, 3298534883328, 2⟩, ⟨0, 0, 8796093022208, 32, 1⟩, ⟨0, 0, 17592186044416, 4, 0⟩, ⟨0, 0, 35184372088832, 8, 0⟩, ⟨480, 511, 70368744177664, 65970697666560, 3⟩, ⟨0, 0, 8192, 0, 2⟩, ⟨2047, 2047, 0, 70368744185856, 3⟩] 72 (.step 0 0 (.step 1 0 (.step 2 0 (.step 3 1 (.step 4 0 (.step 6 1 (.step 7 0 (.step 8 0 (.fork (.alt 5 (.fork (.alt 9 (.step 10 2 (.step 11 3 Plan.done)) (.alt 10 (.step 9 3 (.step 11 3 Plan.done)) Plan.none))) (.alt 10 (.step 5 2 (.step 9 3 (.step 11 3 Plan.done))) Plan.none))))))))))) (by kernel_rfl) (by kernel_rfl) (by kernel_rfl) (by kernel_rfl) (by kernel_rfl) (by kernel_rfl) (fun c a d v w h => by cases d <;> exact h) ?_
        refine ztC ?_; refine ztC ?_; refine ztC ?_
        refine zt1 Tryz.underlying163 ?_
        try refine ztP ?_; refine ztC ?_
        refine ztL [_, _, _, _] Tryz.underlying50 ?_
        try refine ztP ?_; refine ztC ?_; refine ztC ?_
        refine zt2 (fun K hK => ?_) fun K hK => ?_
        (go_wp2_with (first | (go_at_call 137; (with_reducible refine (TG.out _ (by first | exact D1.out.later (Below.refl _ _).drew | exact D1.out.later ((Below.refl _ _).alloc (Nat.le_refl _) _).drew)).mono ?_); rintro e wt ⟨rfl, hbt⟩; have Bt : Below w1.heap.size w1 wt := (by first | exact Below.undrew hbt | exact (((Below.refl _ w1).alloc (Nat.le_refl _) _).drew).trans (hbt.mono (by simp))); (try have P9 : Hid (Blk wt w1.heap.size 100 #[.pointer none, .int .u64 0, .int .u64 0, .pointer none, .int .i64 0, .pointer none, .int .i64 0]) := Lib.hid (Blk.below (Blk.drew (Blk.new w1 _ _)) hbt (by simp))); have Xt := X5.out.below Bt X5.out.lt; have xt := cells4 Xt; have xt0 := xt.1; have xt1 := xt.2.1; have xt2 := xt.2.2.1; have xt3 := xt.2.2.2; have zxt := Xt.lt; have Dt := Lib.hid (D1.out.later Bt); have Lt := Lib.hid (L1.out.later Bt); have zt := Bt.size; clear xt Xt) | (go_at_call 43; (with_reducible refine (SU.out _ (by first | exact Dt.out | exact Dt.out.later ((Below.refl _ _).alloc (Nat.le_refl _) _)) (by first | exact Lt.out | exact Lt.out.later ((Below.refl _ _).alloc (Nat.le_refl _) _))).mono ?_); rintro e w9 ⟨fp9, rfl, hf9, -, hl9, hc9⟩; have C9 : Hid (Chg (fun b => lp = some b) w1 w9) := Lib.hid (by first | exact (Chg.of_below Bt).trans hc9 | exact ((Chg.of_below Bt).alloc _).trans hc9); have D9 := Lib.hid (D1.out.lens HS.out C9.out); have L9 := Lib.hid hl9; have z9 := C9.out.size; (try replace P9 : Hid (Blk w9 w1.heap.size 100 #[.pointer none, .int .u64 0, .int .u64 0, .pointer none, .int .i64 0, .pointer none, .int .i64 0]) := Lib.hid (Blk.chg P9.out hc9 (hNL _ (by omega)))); (try have P8 : Hid (Blk w9 wt.heap.size 100 #[.pointer none, .int .u64 0, .int .u64 0, .pointer none, .int .i64 0, .pointer none, .int .i64 0]) := Lib.hid (Blk.chg (Blk.new wt _ _) hc9 (hNL _ (by omega)))); (first | have p9 := cells7 P9.out | have p9 := cells7 P8.out | skip); (try have p90 := p9.1); (try have p91 := p9.2.1); (try have p92 := p9.2.2.1); (try have p93 := p9.2.2.2.1); (try have p94 := p9.2.2.2.2.1); (try have p95 := p9.2.2.2.2.2.1); (try have p96 := p9.2.2.2.2.2.2); (try clear p9); (first | have pf9 := fun j => P9.out.frozen j | have pf9 := fun j => P8.out.frozen j | skip); (first | have zP9 := P9.out.lt | have zP9 := P8.out.lt | skip))); refine hkI hK (h := ?_); clear hK K)
        try refine ztP ?_
        refine zt2 (fun K hK => ?_) fun K hK => ?_
        (go_wp2_with (first | (go_at_call 137; (with_reducible refine (TG.out _ (by first | exact D1.out.later (Below.refl _ _).drew | exact D1.out.later ((Below.refl _ _).alloc (Nat.le_refl _) _).drew)).mono ?_); rintro e wt ⟨rfl, hbt⟩; have Bt : Below w1.heap.size w1 wt := (by first | exact Below.undrew hbt | exact (((Below.refl _ w1).alloc (Nat.le_refl _) _).drew).trans (hbt.mono (by simp))); (try have P9 : Hid (Blk wt w1.heap.size 100 #[.pointer none, .int .u64 0, .int .u64 0, .pointer none, .int .i64 0, .pointer none, .int .i64 0]) := Lib.hid (Blk.below (Blk.drew (Blk.new w1 _ _)) hbt (by simp))); have Xt := X5.out.below Bt X5.out.lt; have xt := cells4 Xt; have xt0 := xt.1; have xt1 := xt.2.1; have xt2 := xt.2.2.1; have xt3 := xt.2.2.2; have zxt := Xt.lt; have Dt := Lib.hid (D1.out.later Bt); have Lt := Lib.hid (L1.out.later Bt); have zt := Bt.size; clear xt Xt) | (go_at_call 43; (with_reducible refine (SU.out _ (by first | exact Dt.out | exact Dt.out.later ((Below.refl _ _).alloc (Nat.le_refl _) _)) (by first | exact Lt.out | exact Lt.out.later ((Below.refl _ _).alloc (Nat.le_refl _) _))).mono ?_); rintro e w9 ⟨fp9, rfl, hf9, -, hl9, hc9⟩; have C9 : Hid (Chg (fun b => lp = some b) w1 w9) := Lib.hid (by first | exact (Chg.of_below Bt).trans hc9 | exact ((Chg.of_below Bt).alloc _).trans hc9); have D9 := Lib.hid (D1.out.lens HS.out C9.out); have L9 := Lib.hid hl9; have z9 := C9.out.size; (try replace P9 : Hid (Blk w9 w1.heap.size 100 #[.pointer none, .int .u64 0, .int .u64 0, .pointer none, .int .i64 0, .pointer none, .int .i64 0]) := Lib.hid (Blk.chg P9.out hc9 (hNL _ (by omega)))); (try have P8 : Hid (Blk w9 wt.heap.size 100 #[.pointer none, .int .u64 0, .int .u64 0, .pointer none, .int .i64 0, .pointer none, .int .i64 0]) := Lib.hid (Blk.chg (Blk.new wt _ _) hc9 (hNL _ (by omega)))); (first | have p9 := cells7 P9.out | have p9 := cells7 P8.out | skip); (try have p90 := p9.1); (try have p91 := p9.2.1); (try have p92 := p9.2.2.1); (try have p93 := p9.2.2.2.1); (try have p94 := p9.2.2.2.2.1); (try have p95 := p9.2.2.2.2.2.1); (try have p96 := p9.2.2.2.2.2.2); (try clear p9); (first | have pf9 := fun j => P9.out.frozen j | have pf9 := fun j => P8.out.frozen j | skip); (first | have zP9 := P9.out.lt | have zP9 := P8.out.lt | skip))); refine hkI hK (h := ?_); clear hK K)
        try refine ztP ?_
        refine ztD fun K hK => ?_; go_wp2_with (fail); refine hkI hK (h := ?_); clear hK K
        try refine ztP ?_
        refine ztE fun K hK => ?_; go_wp2_with (fail); refine hK.out _ _ ?_; clear hK K
        try refine ztP ?_
        refine T_done ?_
        rotate_left 1
        (go_wp2_with (fail); refine hkI hK (h := ?_); clear hK K)
        try refine ztP ?_
        refine ztE fun K hK => ?_; go_wp2_with (first | (go_at_call 137; (with_reducible refine (TG.out _ (by first | exact D1.out.later (Below.refl _ _).drew | exact D1.out.later ((Below.refl _ _).alloc (Nat.le_refl _) _).drew)).mono ?_); rintro e wt ⟨rfl, hbt⟩; have Bt : Below w1.heap.size w1 wt := (by first | exact Below.undrew hbt | exact (((Below.refl _ w1).alloc (Nat.le_refl _) _).drew).trans (hbt.mono (by simp))); (try have P9 : Hid (Blk wt w1.heap.size 100 #[.pointer none, .int .u64 0, .int .u64 0, .pointer none, .int .i64 0, .pointer none, .int .i64 0]) := Lib.hid (Blk.below (Blk.drew (Blk.new w1 _ _)) hbt (by simp))); have Xt := X5.out.below Bt X5.out.lt; have xt := cells4 Xt; have xt0 := xt.1; have xt1 := xt.2.1; have xt2 := xt.2.2.1; have xt3 := xt.2.2.2; have zxt := Xt.lt; have Dt := Lib.hid (D1.out.later Bt); have Lt := Lib.hid (L1.out.later Bt); have zt := Bt.size; clear xt Xt) | (go_at_call 43; (with_reducible refine (SU.out _ (by first | exact Dt.out | exact Dt.out.later ((Below.refl _ _).alloc (Nat.le_refl _) _)) (by first | exact Lt.out | exact Lt.out.later ((Below.refl _ _).alloc (Nat.le_refl _) _))).mono ?_); rintro e w9 ⟨fp9, rfl, hf9, -, hl9, hc9⟩; have C9 : Hid (Chg (fun b => lp = some b) w1 w9) := Lib.hid (by first | exact (Chg.of_below Bt).trans hc9 | exact ((Chg.of_below Bt).alloc _).trans hc9); have D9 := Lib.hid (D1.out.lens HS.out C9.out); have L9 := Lib.hid hl9; have z9 := C9.out.size; (try replace P9 : Hid (Blk w9 w1.heap.size 100 #[.pointer none, .int .u64 0, .int .u64 0, .pointer none, .int .i64 0, .pointer none, .int .i64 0]) := Lib.hid (Blk.chg P9.out hc9 (hNL _ (by omega)))); (try have P8 : Hid (Blk w9 wt.heap.size 100 #[.pointer none, .int .u64 0, .int .u64 0, .pointer none, .int .i64 0, .pointer none, .int .i64 0]) := Lib.hid (Blk.chg (Blk.new wt _ _) hc9 (hNL _ (by omega)))); (first | have p9 := cells7 P9.out | have p9 := cells7 P8.out | skip); (try have p90 := p9.1); (try have p91 := p9.2.1); (try have p92 := p9.2.2.1); (try have p93 := p9.2.2.2.1); (try have p94 := p9.2.2.2.2.1); (try have p95 := p9.2.2.2.2.2.1); (try have p96 := p9.2.2.2.2.2.2); (try clear p9); (first | have pf9 := fun j => P9.out.frozen j | have pf9 := fun j => P8.out.frozen j | skip); (first | have zP9 := P9.out.lt | have zP9 := P8.out.lt | skip))); refine hK.out _ _ ?_; clear hK K
        try refine ztP ?_
        refine ztE fun K hK => ?_; go_wp2_with (fail); refine hK.out _ _ ?_; clear hK K
        try refine ztP ?_
        refine T_done ?_
        rotate_left 1
        rotate_right 2
        rotate_left 2
        (go_wp2_with (fail); refine hkI hK (h := ?_); clear hK K)
        try refine ztP ?_
        refine ztD fun K hK => ?_; go_wp2_with (first | (go_at_call 137; (with_reducible refine (TG.out _ (by first | exact D1.out.later (Below.refl _ _).drew | exact D1.out.later ((Below.refl _ _).alloc (Nat.le_refl _) _).drew)).mono ?_); rintro e wt ⟨rfl, hbt⟩; have Bt : Below w1.heap.size w1 wt := (by first | exact Below.undrew hbt | exact (((Below.refl _ w1).alloc (Nat.le_refl _) _).drew).trans (hbt.mono (by simp))); (try have P9 : Hid (Blk wt w1.heap.size 100 #[.pointer none, .int .u64 0, .int .u64 0, .pointer none, .int .i64 0, .pointer none, .int .i64 0]) := Lib.hid (Blk.below (Blk.drew (Blk.new w1 _ _)) hbt (by simp))); have Xt := X5.out.below Bt X5.out.lt; have xt := cells4 Xt; have xt0 := xt.1; have xt1 := xt.2.1; have xt2 := xt.2.2.1; have xt3 := xt.2.2.2; have zxt := Xt.lt; have Dt := Lib.hid (D1.out.later Bt); have Lt := Lib.hid (L1.out.later Bt); have zt := Bt.size; clear xt Xt) | (go_at_call 43; (with_reducible refine (SU.out _ (by first | exact Dt.out | exact Dt.out.later ((Below.refl _ _).alloc (Nat.le_refl _) _)) (by first | exact Lt.out | exact Lt.out.later ((Below.refl _ _).alloc (Nat.le_refl _) _))).mono ?_); rintro e w9 ⟨fp9, rfl, hf9, -, hl9, hc9⟩; have C9 : Hid (Chg (fun b => lp = some b) w1 w9) := Lib.hid (by first | exact (Chg.of_below Bt).trans hc9 | exact ((Chg.of_below Bt).alloc _).trans hc9); have D9 := Lib.hid (D1.out.lens HS.out C9.out); have L9 := Lib.hid hl9; have z9 := C9.out.size; (try replace P9 : Hid (Blk w9 w1.heap.size 100 #[.pointer none, .int .u64 0, .int .u64 0, .pointer none, .int .i64 0, .pointer none, .int .i64 0]) := Lib.hid (Blk.chg P9.out hc9 (hNL _ (by omega)))); (try have P8 : Hid (Blk w9 wt.heap.size 100 #[.pointer none, .int .u64 0, .int .u64 0, .pointer none, .int .i64 0, .pointer none, .int .i64 0]) := Lib.hid (Blk.chg (Blk.new wt _ _) hc9 (hNL _ (by omega)))); (first | have p9 := cells7 P9.out | have p9 := cells7 P8.out | skip); (try have p90 := p9.1); (try have p91 := p9.2.1); (try have p92 := p9.2.2.1); (try have p93 := p9.2.2.2.1); (try have p94 := p9.2.2.2.2.1); (try have p95 := p9.2.2.2.2.2.1); (try have p96 := p9.2.2.2.2.2.2); (try clear p9); (first | have pf9 := fun j => P9.out.frozen j | have pf9 := fun j => P8.out.frozen j | skip); (first | have zP9 := P9.out.lt | have zP9 := P8.out.lt | skip))); refine hkI hK (h := ?_); clear hK K
        try refine ztP ?_
        refine ztE fun K hK => ?_; go_wp2_with (first | (go_at_call 137; (with_reducible refine (TG.out _ (by first | exact D1.out.later (Below.refl _ _).drew | exact D1.out.later ((Below.refl _ _).alloc (Nat.le_refl _) _).drew)).mono ?_); rintro e wt ⟨rfl, hbt⟩; have Bt : Below w1.heap.size w1 wt := (by first | exact Below.undrew hbt | exact (((Below.refl _ w1).alloc (Nat.le_refl _) _).drew).trans (hbt.mono (by simp))); (try have P9 : Hid (Blk wt w1.heap.size 100 #[.pointer none, .int .u64 0, .int .u64 0, .pointer none, .int .i64 0, .pointer none, .int .i64 0]) := Lib.hid (Blk.below (Blk.drew (Blk.new w1 _ _)) hbt (by simp))); have Xt := X5.out.below Bt X5.out.lt; have xt := cells4 Xt; have xt0 := xt.1; have xt1 := xt.2.1; have xt2 := xt.2.2.1; have xt3 := xt.2.2.2; have zxt := Xt.lt; have Dt := Lib.hid (D1.out.later Bt); have Lt := Lib.hid (L1.out.later Bt); have zt := Bt.size; clear xt Xt) | (go_at_call 43; (with_reducible refine (SU.out _ (by first | exact Dt.out | exact Dt.out.later ((Below.refl _ _).alloc (Nat.le_refl _) _)) (by first | exact Lt.out | exact Lt.out.later ((Below.refl _ _).alloc (Nat.le_refl _) _))).mono ?_); rintro e w9 ⟨fp9, rfl, hf9, -, hl9, hc9⟩; have C9 : Hid (Chg (fun b => lp = some b) w1 w9) := Lib.hid (by first | exact (Chg.of_below Bt).trans hc9 | exact ((Chg.of_below Bt).alloc _).trans hc9); have D9 := Lib.hid (D1.out.lens HS.out C9.out); have L9 := Lib.hid hl9; have z9 := C9.out.size; (try replace P9 : Hid (Blk w9 w1.heap.size 100 #[.pointer none, .int .u64 0, .int .u64 0, .pointer none, .int .i64 0, .pointer none, .int .i64 0]) := Lib.hid (Blk.chg P9.out hc9 (hNL _ (by omega)))); (try have P8 : Hid (Blk w9 wt.heap.size 100 #[.pointer none, .int .u64 0, .int .u64 0, .pointer none, .int .i64 0, .pointer none, .int .i64 0]) := Lib.hid (Blk.chg (Blk.new wt _ _) hc9 (hNL _ (by omega)))); (first | have p9 := cells7 P9.out | have p9 := cells7 P8.out | skip); (try have p90 := p9.1); (try have p91 := p9.2.1); (try have p92 := p9.2.2.1); (try have p93 := p9.2.2.2.1); (try have p94 := p9.2.2.2.2.1); (try have p95 := p9.2.2.2.2.2.1); (try have p96 := p9.2.2.2.2.2.2); (try clear p9); (first | have pf9 := fun j => P9.out.frozen j | have pf9 := fun j => P8.out.frozen j | skip); (first | have zP9 := P9.out.lt | have zP9 := P8.out.lt | skip))); refine hK.out _ _ ?_; clear hK K
        try refine ztP ?_
        refine ztE fun K hK => ?_; go_wp2_with (fail); refine hK.out _ _ ?_; clear hK K
        try refine ztP ?_
        refine T_done ?_
        rotate_left 1
        rotate_right 3
        all_goals (go_wp2; go_meet)
        all_goals
          first
            | with_reducible exact ⟨_, _, rfl, hf9, by omega, Blk.new _ _ _, D9.out.later ((Below.refl _ _).alloc (Nat.le_refl _) _), L9.out.later ((Below.refl _ _).alloc (Nat.le_refl _) _), C9.out.alloc _⟩
            | with_reducible exact ⟨_, _, rfl, hf9, Nat.le_refl _, sets7 P9.out _ _ _ _ _ _ _, D9.out.chg (chg7 _ _ _ _ _ _ _ _ _) (fun b e => by subst e; omega) (fun x hx e => by have := HLT5.out x hx; omega), L9.out.chg (chg7 _ _ _ _ _ _ _ _ _) (fun b e e2 => by have := HLZ5.out b e; omega), C9.out.trans' (chg7 _ _ _ _ _ _ _ _ _) (fun b hb e => by omega)⟩
            | with_reducible exact ⟨_, _, rfl, hf9, zt, sets7 P8.out _ _ _ _ _ _ _, D9.out.chg (chg7 _ _ _ _ _ _ _ _ _) (fun b e => by subst e; omega) (fun x hx e => by have := HLT5.out x hx; omega), L9.out.chg (chg7 _ _ _ _ _ _ _ _ _) (fun b e e2 => by have := HLZ5.out b e; omega), C9.out.trans' (chg7 _ _ _ _ _ _ _ _ _) (fun b hb e => by omega)⟩
      case rest =>
        obtain ⟨P, fp, rfl, hfp0, hPz, hP, hD, hL, hC⟩ := hcut
        have HFP := Lib.hid hfp0
        clear hfp0
        have DE := Lib.hid hD
        have LE := Lib.hid hL
        have CE := Lib.hid hC
        have PE := Lib.hid hP
        have XE := Lib.hid (X8.out.chg hC (hNL _ (by omega)))
        have XL := Lib.hid (X5.out.chg hC (hNL _ (by omega)))
        obtain ⟨e0, e1, e2, e3, e4, e5, e6⟩ := cells7 hP
        have zP := hP.lt
        have zc1 := hC.size
        clear hD hL hC hP c0 c1 c2 c3 c4 c5 zc l0 l1 l2 l3 zl X5 X8 D1 L1
        go_upto_region 9 with (go_at_call 44; (with_reducible refine (EU.out _ _ _ DE.out).mono ?_); rintro e w2 ⟨rfl, hb2⟩; have P2 := PE.out.below hb2 PE.out.lt; have p2 := cells7 P2; have p20 := p2.1; have p21 := p2.2.1; have p22 := p2.2.2.1; have p23 := p2.2.2.2.1; have p24 := p2.2.2.2.2.1; have p25 := p2.2.2.2.2.2.1; have p26 := p2.2.2.2.2.2.2; have zP2 := P2.lt; have X2 := XE.out.below hb2 XE.out.lt; have x2 := cells7 X2; have x20 := x2.1; have x21 := x2.2.1; have x22 := x2.2.2.1; have x23 := x2.2.2.2.1; have x24 := x2.2.2.2.2.1; have x25 := x2.2.2.2.2.2.1; have x26 := x2.2.2.2.2.2.2; have xf2 := fun j => X2.frozen j; have zX2 := X2.lt; have HB2 := Lib.hid hb2; have HX2 := Lib.hid X2; have HP2 := Lib.hid P2; clear p2 x2)
        refine wp_at (fun w3 hw3 => ?_)
        obtain ⟨WE, hWE, hCf⟩ : ∃ WE, Below w2.heap.size w2 WE ∧ Below WE.heap.size WE w3 := ⟨_, (Below.refl _ _).alloc (Nat.le_refl _) _, by rw [hw3]; exact Below.refl _ _⟩
        have hb3 : Below w2.heap.size w2 w3 := hWE.trans (hCf.mono hWE.size)
        replace hw3 := Lib.hid hw3
        have D3 := Lib.hid ((DE.out.later HB2.out).later hb3)
        have L3 := Lib.hid ((LE.out.later HB2.out).later hb3)
        have P3 := Lib.hid (HP2.out.below hb3 HP2.out.lt)
        have X3 := Lib.hid (HX2.out.below hb3 HX2.out.lt)
        have XL3 := Lib.hid ((XL.out.below HB2.out XL.out.lt).below hb3 (XL.out.below HB2.out XL.out.lt).lt)
        have CE3 := Lib.hid ((CE.out.thenBelow HB2.out).thenBelow hb3)
        have hLT3 := CE3.out.size
        clear hCf hWE hb3 p20 p21 p22 p23 p24 p25 p26 zP2 x20 x21 x22 x23 x24 x25 x26 xf2 zX2 e0 e1 e2 e3 e4 e5 e6 zP HB2 HX2 HP2 DE LE CE PE XE XL
        obtain ⟨c0, c1, c2, c3, c4, c5, zc⟩ := D3.out.cells
        obtain ⟨l0, l1, l2, l3⟩ := cells4 XL3.out
        have zl := XL3.out.lt
        go_cut [16] (fun v16 wx => ∃ (P : Nat) (fp : Option Addr), v16 = .pointer (some ⟨P, 0, none⟩) ∧ (0 ≤ fz → fp = some ⟨a 2, fg * 25, none⟩) ∧ w3.heap.size ≤ P ∧ Blk wx P 100 #[.pointer (some ⟨a 1, 0, none⟩), .int .u64 key, .int .u64 (hh : Int), .pointer ap, .int .i64 az, .pointer fp, .int .i64 fz] ∧ DuB wx a s bcap fcap cap5 tk E w0 ∧ LW wx lp (addN (addN mt x y z ulk) x y z lk) ∧ Chg (fun b => lp = some b) w3 wx)
        case first =>
          refine wp_region_T (fun b => lp = some b) #[⟨0, 0, 18014398509481984, 1, 0⟩, ⟨1, 1, 36028797018963968, 18014398509481984, 0⟩, ⟨2, 3, 72057594037927936, 36028797018963968, 0⟩, ⟨4, 7, 144115188075855872, 72057594037927936, 1⟩, ⟨0, 0, 288230376151711744, 32, 1⟩, ⟨0, 0, 576460752303423488, 4, 0⟩, ⟨0, 0, 1152921504606846976, 8, 0⟩, ⟨120, 127, 2305843009213693952, 2161727821137838080, 3⟩, ⟨0, 0, 65536, 0, 2⟩, ⟨511, 511, 0, 2305843009213759488, 3⟩] 24 (.step 0 0 (.step 1 0 (.step 2 0 (.step 3 1 (.step 4 1 (.step 5 0 (.step 6 0 (.fork (.alt 7 (.step 8 2 (.step 9 3 Plan.done)) (.alt 8 (.step 7 3 (.step 9 3 Plan.done)) Plan.none)))))))))) (by kernel_rfl) (by kernel_rfl) (by kernel_rfl) (by kernel_rfl) (by kernel_rfl) (by kernel_rfl) (fun c a d v w h => by cases d <;> exact h) ?_
          refine ztC ?_; refine ztC ?_; refine ztC ?_
          refine zt1 Tryz.underlying85 ?_
          try refine ztP ?_
          refine ztL [_, _, _, _] Tryz.underlying50 ?_
          try refine ztP ?_; refine ztC ?_; refine ztC ?_
          refine zt2 (fun K hK => ?_) fun K hK => ?_
          (go_wp2_with ((go_at_call 43; (with_reducible refine (SK.out _ _ (by first | exact D3.out.later (Below.refl _ _).drew | exact D3.out.later ((Below.refl _ _).alloc (Nat.le_refl _) _).drew) (by first | exact L3.out.later (Below.refl _ _).drew | exact L3.out.later ((Below.refl _ _).alloc (Nat.le_refl _) _).drew)).mono ?_); rintro e w9 ⟨fp9, rfl, hf9, -, hl9, hc9⟩; have C9 : Hid (Chg (fun b => lp = some b) w3 w9) := Lib.hid (by first | exact hc9.undrew | exact (((Chg.refl _ w3).alloc _).drew).trans hc9); have D9 := Lib.hid (D3.out.lens HS.out C9.out); have L9 := Lib.hid hl9; have z9 := C9.out.size; (try have P9 : Hid (Blk w9 w3.heap.size 100 #[.pointer none, .int .u64 0, .int .u64 0, .pointer none, .int .i64 0, .pointer none, .int .i64 0]) := Lib.hid (Blk.chg (Blk.drew (Blk.new w3 _ _)) hc9 (hNL _ (by omega)))); (first | have p9 := cells7 P9.out | have p9 := cells7 P8.out | skip); (try have p90 := p9.1); (try have p91 := p9.2.1); (try have p92 := p9.2.2.1); (try have p93 := p9.2.2.2.1); (try have p94 := p9.2.2.2.2.1); (try have p95 := p9.2.2.2.2.2.1); (try have p96 := p9.2.2.2.2.2.2); (try clear p9); (first | have pf9 := fun j => P9.out.frozen j | have pf9 := fun j => P8.out.frozen j | skip); (first | have zP9 := P9.out.lt | have zP9 := P8.out.lt | skip))); refine hkI hK (h := ?_); clear hK K)
          try refine ztP ?_
          refine ztD fun K hK => ?_; go_wp2_with (fail); refine hkI hK (h := ?_); clear hK K
          try refine ztP ?_
          refine ztE fun K hK => ?_; go_wp2_with (fail); refine hK.out _ _ ?_; clear hK K
          try refine ztP ?_
          refine T_done ?_
          rotate_left 1
          (go_wp2_with (fail); refine hkI hK (h := ?_); clear hK K)
          try refine ztP ?_
          refine ztE fun K hK => ?_; go_wp2_with ((go_at_call 43; (with_reducible refine (SK.out _ _ (by first | exact D3.out.later (Below.refl _ _).drew | exact D3.out.later ((Below.refl _ _).alloc (Nat.le_refl _) _).drew) (by first | exact L3.out.later (Below.refl _ _).drew | exact L3.out.later ((Below.refl _ _).alloc (Nat.le_refl _) _).drew)).mono ?_); rintro e w9 ⟨fp9, rfl, hf9, -, hl9, hc9⟩; have C9 : Hid (Chg (fun b => lp = some b) w3 w9) := Lib.hid (by first | exact hc9.undrew | exact (((Chg.refl _ w3).alloc _).drew).trans hc9); have D9 := Lib.hid (D3.out.lens HS.out C9.out); have L9 := Lib.hid hl9; have z9 := C9.out.size; (try have P9 : Hid (Blk w9 w3.heap.size 100 #[.pointer none, .int .u64 0, .int .u64 0, .pointer none, .int .i64 0, .pointer none, .int .i64 0]) := Lib.hid (Blk.chg (Blk.drew (Blk.new w3 _ _)) hc9 (hNL _ (by omega)))); (first | have p9 := cells7 P9.out | have p9 := cells7 P8.out | skip); (try have p90 := p9.1); (try have p91 := p9.2.1); (try have p92 := p9.2.2.1); (try have p93 := p9.2.2.2.1); (try have p94 := p9.2.2.2.2.1); (try have p95 := p9.2.2.2.2.2.1); (try have p96 := p9.2.2.2.2.2.2); (try clear p9); (first | have pf9 := fun j => P9.out.frozen j | have pf9 := fun j => P8.out.frozen j | skip); (first | have zP9 := P9.out.lt | have zP9 := P8.out.lt | skip))); refine hK.out _ _ ?_; clear hK K
          try refine ztP ?_
          refine ztE fun K hK => ?_; go_wp2_with (fail); refine hK.out _ _ ?_; clear hK K
          try refine ztP ?_
          refine T_done ?_
          rotate_left 1
          rotate_right 2
          all_goals (go_wp2; go_meet)
          all_goals
            first
              | with_reducible exact ⟨_, _, rfl, hf9, by omega, Blk.new _ _ _, D9.out.later ((Below.refl _ _).alloc (Nat.le_refl _) _), L9.out.later ((Below.refl _ _).alloc (Nat.le_refl _) _), C9.out.alloc _⟩
              | with_reducible exact ⟨_, _, rfl, hf9, Nat.le_refl _, sets7 P9.out _ _ _ _ _ _ _, D9.out.chg (chg7 _ _ _ _ _ _ _ _ _) (fun b e => by subst e; omega) (fun x hx e => by have := HLT5.out x hx; omega), L9.out.chg (chg7 _ _ _ _ _ _ _ _ _) (fun b e e2 => by have := HLZ5.out b e; omega), C9.out.trans' (chg7 _ _ _ _ _ _ _ _ _) (fun b hb e => by omega)⟩
              | with_reducible exact ⟨_, _, rfl, hf9, zt, sets7 P8.out _ _ _ _ _ _ _, D9.out.chg (chg7 _ _ _ _ _ _ _ _ _) (fun b e => by subst e; omega) (fun x hx e => by have := HLT5.out x hx; omega), L9.out.chg (chg7 _ _ _ _ _ _ _ _ _) (fun b e e2 => by have := HLZ5.out b e; omega), C9.out.trans' (chg7 _ _ _ _ _ _ _ _ _) (fun b hb e => by omega)⟩
        case rest =>
          obtain ⟨P4, fp4, rfl, hfp40, hPz4, hP4, hD4, hL4, hC4⟩ := hcut
          have HFP4 := Lib.hid hfp40
          clear hfp40
          have DE := Lib.hid hD4
          have LE := Lib.hid hL4
          have CE := Lib.hid (CE3.out.trans hC4)
          have PE := Lib.hid hP4
          have XE := Lib.hid (X3.out.chg hC4 (hNL _ (by omega)))
          have PU := Lib.hid (P3.out.chg hC4 (hNL _ (by omega)))
          obtain ⟨e0, e1, e2, e3, e4, e5, e6⟩ := cells7 hP4
          have zP := hP4.lt
          have zc4 := hC4.size
          rw [addN_add] at LE
          clear hD4 hL4 hC4 hP4 c0 c1 c2 c3 c4 c5 zc l0 l1 l2 l3 zl X3 P3 XL3 D3 L3 CE3
          go_wp2_with (first | (go_at_call 44; (with_reducible refine (EN.out _ _ _ DE.out).mono ?_); rintro e w2 ⟨rfl, hb2⟩; have P2 := PU.out.below hb2 PU.out.lt; have p2 := cells7 P2; have p20 := p2.1; have p21 := p2.2.1; have p22 := p2.2.2.1; have p23 := p2.2.2.2.1; have p24 := p2.2.2.2.2.1; have p25 := p2.2.2.2.2.2.1; have p26 := p2.2.2.2.2.2.2; have zP2 := P2.lt; have X2 := XE.out.below hb2 XE.out.lt; have x2 := cells7 X2; have x20 := x2.1; have x21 := x2.2.1; have x22 := x2.2.2.1; have x23 := x2.2.2.2.1; have x24 := x2.2.2.2.2.1; have x25 := x2.2.2.2.2.2.1; have x26 := x2.2.2.2.2.2.2; have xf2 := fun j => X2.frozen j; have zX2 := X2.lt; have HB2 := Lib.hid hb2; have HX2 := Lib.hid X2; have HP2 := Lib.hid P2; clear p2 x2) | (refine wpList_unit rfl (exec_storeAll (t := 100) rfl rfl rfl (HX2.out.alloc (.cells #[.int .u64 k0, .int .u64 k1, .int .u64 k2] 46)) (by rfl) (Tryz.sizeOf100 _) (by simp [Value.oneCell'])) ?_))
          refine wp_end_at (fun Wf hWf => ?_)
          have hR : Blk Wf (B5 + 1) 100 #[.pointer (some ⟨a (8 + 3 * yy), 0, none⟩), .int .u64 key, .int .u64 (hh : Int), .pointer uap, .int .i64 uaz, .pointer fp, .int .i64 ufz] := by rw [hWf]; exact (HX2.out.alloc _).setRow _
          obtain ⟨r0, r1, r2, r3, r4, r5, r6⟩ := cells7 hR
          obtain ⟨WE, hWE, hCf⟩ : ∃ WE, Below w2.heap.size w2 WE ∧ Chg (fun b => b = B5 + 1) WE Wf := ⟨_, (Below.refl _ _).alloc (Nat.le_refl _) _, by rw [hWf]; exact (Chg.refl (fun b => b = B5 + 1) _).setRow (.inl rfl) _⟩
          have hDA := (DE.out.later HB2.out).later hWE
          refine bodyPost_ret (v := .tuple #[.agg #[.pointer (some ⟨a (8 + 3 * yy), 0, none⟩), .int .u64 key, .int .u64 (hh : Int), .pointer uap, .int .i64 uaz, .pointer fp, .int .i64 ufz], .bool false]) (by simp [results, Tryz.results91, go_sem, r0, r1, r2, r3, r4, r5, r6]) rfl ⟨_, rfl, HFP.out, hDA.chg hCf (fun b e => by omega) (fun x hx e => by have := HLT5.out x hx; omega), ((LE.out.later HB2.out).later hWE).chg hCf (fun b e e2 => hNL b (by omega) e), ?_⟩
          exact (((HC1.out.trans CE.out).thenBelow HB2.out).thenBelow hWE).trans' hCf (fun b hb e => by omega)
end
end Go.Proofs.YtolhmibejhldkaaGreatDoor
