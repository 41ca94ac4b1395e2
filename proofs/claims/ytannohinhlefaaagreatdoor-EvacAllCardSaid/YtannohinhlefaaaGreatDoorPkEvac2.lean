/- Texts joined: EvacPair EvacP EvacJ EvacCase Bits TrapAct Ref03 Ref03b EvacRef EvacMade. No condition but those that stand within. -/
import Derived.Deep.DeepMakePanics
import Derived.LoopTactic
import Derived.IntWalk
import Derived.Deep.Cut
import Derived.Test.YtannohinhlefaaaGreatDoorPkSwar
import Derived.Test.YtannohinhlefaaaGreatDoorPkMeter
import Derived.Test.YtannohinhlefaaaGreatDoorPkErrs
import Derived.Test.YtannohinhlefaaaGreatDoorPkGroup
import Derived.Test.YtannohinhlefaaaGreatDoorPkTab
import Derived.Test.YtannohinhlefaaaGreatDoorPkTab2
import Derived.Test.YtannohinhlefaaaGreatDoorPkTab3
import Derived.Test.YtannohinhlefaaaGreatDoorPkTake
import Derived.Test.YtannohinhlefaaaGreatDoorPkTabM
import Derived.Test.YtannohinhlefaaaGreatDoorPkEvac
import Derived.Test.YtannohinhlefaaaGreatDoorPkSound
import Derived.Test.YtannohinhlefaaaGreatDoorPkRef09
set_option linter.unusedVariables false
set_option linter.unusedSimpArgs false
namespace Go.Proofs.YtannohinhlefaaaGreatDoor
open Go.RowKit Go.Proofs
def DX (w : World) (lo hi D : Nat) (T : TabS) (L : Int) : Prop := ∃ P cap GB, DT w lo hi D P cap GB T L
section
variable {w w' w0 : World} {lo hi D : Nat} {T : TabS} {L : Int}
theorem DX.later (h : DX w lo hi D T L) (hb : Below w.heap.size w w') : DX w' lo hi D T L := by obtain ⟨P, cap, GB, h⟩ := h; exact ⟨P, cap, GB, h.later hb⟩
theorem DX.chg {X : Nat → Prop} (h : DX w lo hi D T L) (hc : Chg X w w') (hX : ∀ b, lo ≤ b → b < hi → ¬ X b) : DX w' lo hi D T L := by obtain ⟨P, cap, GB, h⟩ := h; exact ⟨P, cap, GB, h.chg hc hX⟩
theorem DX.id (h : DX w lo hi D T L) : lo ≤ D ∧ D < hi := by obtain ⟨P, cap, GB, h⟩ := h; exact h.id
theorem DX.lt (h : DX w lo hi D T L) : D < w.heap.size := by obtain ⟨P, cap, GB, h⟩ := h; exact h.head.lt
theorem DX.hz (h : DX w lo hi D T L) : hi ≤ w.heap.size := by obtain ⟨P, cap, GB, h⟩ := h; exact h.hz
theorem DX.cells (h : DX w lo hi D T L) : w.cell? ⟨D, 1, none⟩ = some (.int .i64 L) ∧ (∀ j, w.frozen? ⟨D, j, none⟩ = false) := by obtain ⟨P, cap, GB, h⟩ := h; exact ⟨h.head.cell 1, fun j => h.head.frozen j⟩
theorem DX.looks (h : DX w lo hi D T L) (L' : Int) : DX (w.setCell ⟨D, 1, none⟩ (.int .i64 L')) lo hi D T L' := by obtain ⟨P, cap, GB, h⟩ := h; exact ⟨P, cap, GB, h.looks L'⟩
theorem DX.find (h : DX w lo hi D T L) (hL : 0 ≤ L ∧ L ≤ 1000000000) (key : Int) (hs : Nat) (hh : hs < 18446744073709551616) :
    Calls Tryz.prog 42 #[.pointer (some ⟨D, 0, none⟩), .int .u64 key, .int .u64 (hs : Int)] w fun e w' =>
      e = .returned (.tuple #[.agg #[.int .u64 (T.ent key hs).key, .int .u64 (T.ent key hs).val, .int .u64 (T.ent key hs).hash], .bool (T.has key hs)]) ∧ DX w' lo hi D T (L + T.looks key hs) ∧ Chg (fun b => b = D) w w' := by
  obtain ⟨P, cap, GB, h⟩ := h
  refine (dtfind_any h hL key hs hh).mono ?_
  rintro e w' ⟨rfl, h1, h2⟩
  exact ⟨rfl, ⟨P, cap, GB, h1⟩, h2⟩
theorem DX.put (h : DX w lo hi D T L) (hL : 0 ≤ L ∧ L ≤ 1000000000) (key v : Int) (hs : Nat) (hh : hs < 18446744073709551616) :
    Calls Tryz.prog 39 #[.pointer (some ⟨D, 0, none⟩), .agg #[.int .u64 key, .int .u64 v, .int .u64 (hs : Int)]] w fun e w' =>
      e = .returned (.tuple #[.bool (T.putB key hs), .int .i64 ((T.putN key hs : Nat) : Int)]) ∧ DX w' lo hi D (T.putT key v hs) (L + T.looks key hs) ∧ Chg (fun b => lo ≤ b ∧ b < hi) w w' := by
  obtain ⟨P, cap, GB, h⟩ := h
  refine (dtput_any h hL key v hs hh).mono ?_
  rintro e w' ⟨rfl, h1, h2⟩
  exact ⟨rfl, ⟨P, cap, GB, h1⟩, h2⟩
end
structure PB where
  lo : Nat
  mid : Nat
  hi : Nat
  B : Nat
  Q : Nat
  D : Nat
structure PR (w : World) (p : PB) (T T2 : TabS) (L : Int) (E : Nat → Addr) (w0 : World) : Prop where
  t : TN w p.B p.Q T E w0
  d : DX w p.mid p.hi p.D T2 L
  b : p.lo ≤ p.B ∧ p.B < p.mid ∧ p.lo ≤ p.Q ∧ p.Q < p.mid
  o : w0.heap.size ≤ p.lo ∧ p.mid ≤ p.hi
section
variable {w w' w0 : World} {p : PB} {T T2 : TabS} {L : Int} {E : Nat → Addr}
theorem PR.later (h : PR w p T T2 L E w0) (hb : Below w.heap.size w w') : PR w' p T T2 L E w0 := ⟨h.t.later hb, h.d.later hb, h.b, h.o⟩
theorem PR.chg {X : Nat → Prop} (h : PR w p T T2 L E w0) (hc : Chg X w w') (hX : ∀ b, p.lo ≤ b → b < p.hi → ¬ X b) (hX0 : ∀ b, X b → w0.heap.size ≤ b) : PR w' p T T2 L E w0 :=
  have hb := h.b
  have ho := h.o
  ⟨TMW.chg h.t hc hX0 (hX _ hb.1 (by omega)) (hX _ hb.2.2.1 (by omega)) (fun b e => by cases e), h.d.chg hc (fun b h1 h2 => hX b (by omega) h2), h.b, h.o⟩
theorem PR.put (h : PR w p T T2 L E w0) (key v : Int) (hs : Nat) (hh : hs < 18446744073709551616) :
    Calls Tryz.prog 31 #[.pointer (some ⟨p.B, 0, none⟩), .agg #[.pointer none, .int .i64 0, .int .i64 0, .int .i64 0], .agg #[.int .u64 key, .int .u64 v, .int .u64 (hs : Int)]] w fun e w' =>
      e = .returned (.tuple #[.bool (T.putB key hs), errN E (T.putN key hs)]) ∧ PR w' p (T.putT key v hs) T2 L E w0 ∧ Chg (fun b => p.lo ≤ b ∧ b < p.hi) w w' := by
  have hb := h.b
  have ho := h.o
  refine (TN.put h.t key v hs hh).mono ?_
  rintro e w' ⟨rfl, h1, h2⟩
  exact ⟨rfl, ⟨h1, h.d.chg h2 (fun b h3 h4 => by rintro (e | e) <;> omega), h.b, h.o⟩, h2.mono (fun b _ e => by rcases e with e | e <;> subst e <;> omega)⟩
theorem PR.put2 (h : PR w p T T2 L E w0) (hL : 0 ≤ L ∧ L ≤ 1000000000) (key v : Int) (hs : Nat) (hh : hs < 18446744073709551616) :
    Calls Tryz.prog 39 #[.pointer (some ⟨p.D, 0, none⟩), .agg #[.int .u64 key, .int .u64 v, .int .u64 (hs : Int)]] w fun e w' =>
      e = .returned (.tuple #[.bool (T2.putB key hs), .int .i64 ((T2.putN key hs : Nat) : Int)]) ∧ PR w' p T (T2.putT key v hs) (L + T2.looks key hs) E w0 ∧ Chg (fun b => p.lo ≤ b ∧ b < p.hi) w w' := by
  have hb := h.b
  have ho := h.o
  refine (h.d.put hL key v hs hh).mono ?_
  rintro e w' ⟨rfl, h1, h2⟩
  exact ⟨rfl, ⟨TMW.chg h.t h2 (by rintro b ⟨h3, h4⟩; omega) (by omega) (by omega) (fun b e => by cases e), h1, h.b, h.o⟩, h2.mono (fun b _ e => by omega)⟩
theorem PR.find2 (h : PR w p T T2 L E w0) (hL : 0 ≤ L ∧ L ≤ 1000000000) (key : Int) (hs : Nat) (hh : hs < 18446744073709551616) :
    Calls Tryz.prog 42 #[.pointer (some ⟨p.D, 0, none⟩), .int .u64 key, .int .u64 (hs : Int)] w fun e w' =>
      e = .returned (.tuple #[.agg #[.int .u64 (T2.ent key hs).key, .int .u64 (T2.ent key hs).val, .int .u64 (T2.ent key hs).hash], .bool (T2.has key hs)]) ∧ PR w' p T T2 (L + T2.looks key hs) E w0 ∧ Chg (fun b => p.lo ≤ b ∧ b < p.hi) w w' := by
  have hb := h.b
  have ho := h.o
  have hd := h.d.id
  refine (h.d.find hL key hs hh).mono ?_
  rintro e w' ⟨rfl, h1, h2⟩
  exact ⟨rfl, ⟨TMW.chg h.t h2 (by rintro b rfl; omega) (by omega) (by omega) (fun b e => by cases e), h1, h.b, h.o⟩, h2.mono (fun b _ e => by subst e; omega)⟩
theorem PR.looks (h : PR w p T T2 L E w0) (L' : Int) : PR (w.setCell ⟨p.D, 1, none⟩ (.int .i64 L')) p T T2 L' E w0 := by
  have hb := h.b
  have ho := h.o
  have hd := h.d.id
  have hC : Chg (fun b => b = p.D) w (w.setCell ⟨p.D, 1, none⟩ (.int .i64 L')) := (Chg.refl _ _).set1 _ _
  exact ⟨TMW.chg h.t hC (by rintro b rfl; omega) (by omega) (by omega) (fun b e => by cases e), h.d.looks L', h.b, h.o⟩
end
structure MS (w : World) (p0 : PB) (pt : Nat → PB) (k : Nat) (T T2 : TabS) (U U2 : Nat → TabS) (L0 : Int) (Lc : Nat → Int) (E : Nat → Addr) (w0 : World) : Prop where
  o : PR w p0 T T2 L0 E w0
  t : ∀ i, i < k → PR w (pt i) (U i) (U2 i) (Lc i) E w0
  s0 : ∀ i, i < k → p0.hi ≤ (pt i).lo
  s1 : ∀ i j, i < j → j < k → (pt i).hi ≤ (pt j).lo
def MIn (p0 : PB) (pt : Nat → PB) (k : Nat) (b : Nat) : Prop := (p0.lo ≤ b ∧ b < p0.hi) ∨ ∃ i, i < k ∧ (pt i).lo ≤ b ∧ b < (pt i).hi
section
variable {w w' w0 : World} {p0 : PB} {pt : Nat → PB} {k : Nat} {T T2 : TabS} {U U2 : Nat → TabS} {L0 : Int} {Lc : Nat → Int} {E : Nat → Addr}
theorem MS.later (h : MS w p0 pt k T T2 U U2 L0 Lc E w0) (hb : Below w.heap.size w w') : MS w' p0 pt k T T2 U U2 L0 Lc E w0 := ⟨h.o.later hb, fun i hi => (h.t i hi).later hb, h.s0, h.s1⟩
theorem MS.chg {X : Nat → Prop} (h : MS w p0 pt k T T2 U U2 L0 Lc E w0) (hc : Chg X w w') (hX : ∀ b, MIn p0 pt k b → ¬ X b) (hX0 : ∀ b, X b → w0.heap.size ≤ b) : MS w' p0 pt k T T2 U U2 L0 Lc E w0 :=
  ⟨h.o.chg hc (fun b h1 h2 => hX b (.inl ⟨h1, h2⟩)) hX0, fun i hi => (h.t i hi).chg hc (fun b h1 h2 => hX b (.inr ⟨i, hi, h1, h2⟩)) hX0, h.s0, h.s1⟩
theorem MS.old {T' T2' : TabS} {L' : Int} (h : MS w p0 pt k T T2 U U2 L0 Lc E w0) (h1 : PR w' p0 T' T2' L' E w0) (hc : Chg (fun b => p0.lo ≤ b ∧ b < p0.hi) w w') : MS w' p0 pt k T' T2' U U2 L' Lc E w0 :=
  ⟨h1, fun i hi => (h.t i hi).chg hc (fun b h1 h2 e => by have := h.s0 i hi; omega) (fun b e => by have := h.o.o; omega), h.s0, h.s1⟩
theorem MS.target {i : Nat} (hi : i < k) {T' T2' : TabS} {L' : Int} (h : MS w p0 pt k T T2 U U2 L0 Lc E w0) (h1 : PR w' (pt i) T' T2' L' E w0) (hc : Chg (fun b => (pt i).lo ≤ b ∧ b < (pt i).hi) w w') : MS w' p0 pt k T T2 (upd U i T') (upd U2 i T2') L0 (upd Lc i L') E w0 := by
  refine ⟨h.o.chg hc (fun b h1 h2 e => by have := h.s0 i hi; omega) (fun b e => by have := (h.t i hi).o; omega), fun j hj => ?_, h.s0, h.s1⟩
  by_cases e : j = i
  · subst e; rw [upd_same, upd_same, upd_same]; exact h1
  · rw [upd_other _ _ e, upd_other _ _ e, upd_other _ _ e]
    refine (h.t j hj).chg hc (fun b h1 h2 e2 => ?_) (fun b e => by have := (h.t i hi).o; omega)
    rcases Nat.lt_or_gt_of_ne e with c | c
    · have := h.s1 j i c hi; omega
    · have := h.s1 i j c hj; omega
end
end Go.Proofs.YtannohinhlefaaaGreatDoor

namespace Go.Proofs.YtannohinhlefaaaGreatDoor
open Go.RowKit Go.Proofs
theorem put_tb {T : TabS} (hT : TGood T) (ht : T.tb = 0) (key v : Int) {h : Nat} (hh : h < 18446744073709551616) : (T.putT key v h).tb = 0 := by
  have hg := hT.putT (key := key) v hh
  unfold TabS.putT
  split
  · exact ht
  · split
    · rename_i hr
      unfold TabS.room at hr
      simp only [Bool.and_eq_true, decide_eq_true_eq] at hr
      obtain ⟨k, hz, hk, hfg, hfl⟩ := hT.free' hr.2
      rw [hz, Int.toNat_natCast]
      show (if ln (T.M (T.freeG key h)) k = 254 then T.tb - 1 else T.tb) = 0
      have h2 := (hT.ins hfg hk hfl key v hh).bounds.2.2.2.2.1
      have h3 : (T.ins (T.freeG key h) k ⟨key, v, h⟩ h).tb = (if ln (T.M (T.freeG key h)) k = 254 then T.tb - 1 else T.tb) := rfl
      rw [h3] at h2
      split
      · rename_i e; rw [if_pos e] at h2; omega
      · exact ht
    · exact ht
def lvSum (U : Nat → TabS) (k : Nat) : Int := ((List.range k).map fun i => (U i).lv).sum
theorem lvSum_one (U : Nat → TabS) : lvSum U 1 = (U 0).lv := by simp [lvSum]
theorem lvSum_two (U : Nat → TabS) : lvSum U 2 = (U 0).lv + (U 1).lv := by simp [lvSum, List.range_succ]
theorem lvSum_upd {U : Nat → TabS} {k i : Nat} (hk : k = 1 ∨ k = 2) (hi : i < k) (T' : TabS) : lvSum (upd U i T') k = lvSum U k - (U i).lv + T'.lv := by
  rcases hk with rfl | rfl
  · obtain rfl : i = 0 := by omega
    rw [lvSum_one, lvSum_one, upd_same]; omega
  · rw [lvSum_two, lvSum_two]
    obtain rfl | rfl : i = 0 ∨ i = 1 := by omega
    · rw [upd_same, upd_other _ _ (by decide : (1 : Nat) ≠ 0)]; omega
    · rw [upd_same, upd_other _ _ (by decide : (0 : Nat) ≠ 1)]; omega
theorem lvSum_le {U : Nat → TabS} {k i : Nat} (hk : k = 1 ∨ k = 2) (hi : i < k) (h0 : ∀ j, j < k → 0 ≤ (U j).lv) : (U i).lv ≤ lvSum U k := by
  rcases hk with rfl | rfl
  · obtain rfl : i = 0 := by omega
    rw [lvSum_one]; omega
  · rw [lvSum_two]
    have h1 := h0 0 (by decide); have h2 := h0 1 (by decide)
    have hi' : i = 0 ∨ i = 1 := by omega
    rcases hi' with rfl | rfl
    · omega
    · omega
structure UI (U : Nat → TabS) (k d : Nat) (H : Int → Nat) (gn : Nat) : Prop where
  f : ∀ i, i < k → TFun (U i) H
  tb : ∀ i, i < k → (U i).tb = 0
  n : ∀ i, i < k → (U i).n = gn
  side : ∀ i, i < k → ∀ q, (U i).has q (H q) = true → tIx k d (H q) = i
theorem UI.put {U : Nat → TabS} {k d gn : Nat} {H : Int → Nat} (h : UI U k d H gn) (hk : k = 1 ∨ (k = 2 ∧ d ≤ 15)) (q v : Int) (hh : H q < 18446744073709551616) (hno : (U (tIx k d (H q))).has q (H q) = false) (hroom : lvSum U k < 7 * (gn : Int)) :
    (U (tIx k d (H q))).putB q (H q) = true ∧ UI (upd U (tIx k d (H q)) ((U (tIx k d (H q))).putT q v (H q))) k d H gn ∧ lvSum (upd U (tIx k d (H q)) ((U (tIx k d (H q))).putT q v (H q))) k = lvSum U k + 1 ∧
    ∀ i, i < k → ∀ q', (upd U (tIx k d (H q)) ((U (tIx k d (H q))).putT q v (H q)) i).has q' (H q') = ((U i).has q' (H q') || (decide (q' = q) && decide (tIx k d (H q) = i))) ∧
      (upd U (tIx k d (H q)) ((U (tIx k d (H q))).putT q v (H q)) i).ent q' (H q') = if q' = q ∧ tIx k d (H q) = i then ⟨q, v, H q⟩ else (U i).ent q' (H q') := by
  have hi := tIx_lt (h := H q) hk
  have hk' : k = 1 ∨ k = 2 := by omega
  generalize hix : tIx k d (H q) = x at *
  have hle := lvSum_le hk' hi (fun j hj => (h.f j hj).good.bounds.2.2.1)
  have hl1 : 1 ≤ (U x).left := by unfold TabS.left; rw [h.tb x hi, h.n x hi]; omega
  have hok : (U x).ok q (H q) = true := by unfold TabS.ok; simp [hl1]
  have hpB : (U x).putB q (H q) = true := by rw [(h.f x hi).putB, hno]; simpa using hl1
  have hat : ∀ i, i < k → ∀ q', (upd U x ((U x).putT q v (H q)) i).has q' (H q') = ((U i).has q' (H q') || (decide (q' = q) && decide (x = i))) ∧
      (upd U x ((U x).putT q v (H q)) i).ent q' (H q') = if q' = q ∧ x = i then ⟨q, v, H q⟩ else (U i).ent q' (H q') := fun i hik q' => by
    by_cases e : i = x
    · subst e
      rw [upd_same]
      have h1 := (h.f i hi).put_at q v hh q'
      rw [h1.1, h1.2, hok]
      by_cases e2 : q' = q
      · subst e2; simp
      · simp [e2]
    · rw [upd_other _ _ e]
      have e3 : ¬ x = i := fun e' => e e'.symm
      simp [e3]
  refine ⟨hpB, ⟨fun i hik => ?_, fun i hik => ?_, fun i hik => ?_, fun i hik q' hq' => ?_⟩, ?_, hat⟩
  · by_cases e : i = x
    · subst e; rw [upd_same]; exact (h.f i hi).putT q v hh
    · rw [upd_other _ _ e]; exact h.f i hik
  · by_cases e : i = x
    · subst e; rw [upd_same]; exact put_tb (h.f i hi).good (h.tb i hi) q v hh
    · rw [upd_other _ _ e]; exact h.tb i hik
  · by_cases e : i = x
    · subst e; rw [upd_same, putT_n]; exact h.n i hi
    · rw [upd_other _ _ e]; exact h.n i hik
  · rw [(hat i hik q').1] at hq'
    simp only [Bool.or_eq_true, Bool.and_eq_true, decide_eq_true_eq] at hq'
    rcases hq' with hq' | ⟨rfl, e⟩
    · exact h.side i hik q' hq'
    · rw [hix, e]
  · rw [lvSum_upd hk' hi, ((h.f x hi).put_lv q v).1, hpB]; simp; omega
theorem evF_inv {U : Nat → TabS} {k d gn : Nat} {H : Int → Nat} (h : UI U k d H gn) (hk : k = 1 ∨ (k = 2 ∧ d ≤ 15)) (l : List EntS) (hH : ∀ e ∈ l, e.hash = (H e.key : Int) ∧ H e.key < 18446744073709551616)
    (hnew : ∀ e ∈ l, (U (tIx k d (H e.key))).has e.key (H e.key) = false) (hdup : ∀ i j (hi : i < l.length) (hj : j < l.length), l[i].key = l[j].key → i = j) (hroom : lvSum U k + l.length ≤ 7 * (gn : Int)) :
    ∀ j, j ≤ l.length → UI (evF k d (l.take j) (U, 0)).1 k d H gn ∧ lvSum (evF k d (l.take j) (U, 0)).1 k = lvSum U k + j ∧
      (∀ i, i < k → ∀ q, ((evF k d (l.take j) (U, 0)).1 i).has q (H q) = true ↔ (U i).has q (H q) = true ∨ ∃ p, ∃ hp : p < l.length, p < j ∧ l[p].key = q ∧ tIx k d (H q) = i) ∧
      (∀ i, i < k → ∀ q, (∀ p (hp : p < l.length), p < j → l[p].key = q → tIx k d (H q) ≠ i) → ((evF k d (l.take j) (U, 0)).1 i).ent q (H q) = (U i).ent q (H q)) ∧
      (∀ p (hp : p < l.length), p < j → ((evF k d (l.take j) (U, 0)).1 (tIx k d (H l[p].key))).ent l[p].key (H l[p].key) = l[p]) ∧
      (∀ p (hp : p < l.length), p < j → ((evF k d (l.take p) (U, 0)).1 (tIx k d l[p].hash.toNat)).putB l[p].key l[p].hash.toNat = true)
  | 0, _ => ⟨h, by rw [List.take_zero]; simp [evF], fun i hi q => ⟨fun e => .inl e, fun e => by rcases e with e | ⟨p, hp, h0, -⟩; exact e; omega⟩, fun i hi q _ => rfl, fun p hp h0 => by omega, fun p hp h0 => by omega⟩
  | j + 1, hj => by
    obtain ⟨h1, h2, h3, h4, h5, h6⟩ := evF_inv h hk l hH hnew hdup hroom j (by omega)
    have hjl : j < l.length := by omega
    rw [evF_take hjl]
    generalize hs : evF k d (l.take j) (U, 0) = s at *
    obtain ⟨hh1, hh2⟩ := hH l[j] (List.getElem_mem hjl)
    have hcv : l[j].hash.toNat = H l[j].key := by rw [hh1]; simp
    have hi := tIx_lt (h := H l[j].key) hk
    have hno : (s.1 (tIx k d (H l[j].key))).has l[j].key (H l[j].key) = false := by
      rw [← Bool.not_eq_true, h3 _ hi]
      rintro (e | ⟨p, hp, hpj, hkey, -⟩)
      · rw [hnew _ (List.getElem_mem hjl)] at e; cases e
      · have := hdup p j hp hjl hkey; omega
    obtain ⟨p1, p2, p3, p4⟩ := h1.put hk l[j].key l[j].val hh2 hno (by omega)
    unfold evS
    rw [hcv]
    refine ⟨p2, by rw [p3, h2]; omega, fun i hi' q => ?_, fun i hi' q hq => ?_, fun p hp hpj => ?_, fun p hp hpj => ?_⟩
    · rw [(p4 i hi' q).1]
      simp only [Bool.or_eq_true, Bool.and_eq_true, decide_eq_true_eq]
      rw [h3 i hi' q]
      constructor
      · rintro ((e | ⟨p, hp, hpj, e1, e2⟩) | ⟨e1, e2⟩)
        · exact .inl e
        · exact .inr ⟨p, hp, by omega, e1, e2⟩
        · exact .inr ⟨j, hjl, by omega, e1.symm, by rw [e1]; exact e2⟩
      · rintro (e | ⟨p, hp, hpj, e1, e2⟩)
        · exact .inl (.inl e)
        · by_cases e : p = j
          · subst e; exact .inr ⟨e1.symm, by rw [← e1] at e2; exact e2⟩
          · exact .inl (.inr ⟨p, hp, by omega, e1, e2⟩)
    · rw [(p4 i hi' q).2, if_neg (fun e => hq j hjl (by omega) e.1.symm (by rw [e.1]; exact e.2))]
      exact h4 i hi' q (fun p hp hpj => hq p hp (by omega))
    · by_cases e : p = j
      · subst e
        rw [(p4 _ hi l[p].key).2, if_pos ⟨rfl, rfl⟩, ← hh1]
      · have hi2 := tIx_lt (h := H l[p].key) hk
        rw [(p4 _ hi2 l[p].key).2, if_neg (fun e' => e (hdup p j hp hjl e'.1))]
        exact h5 p hp (by omega)
    · by_cases e : p = j
      · subst e; rw [hs, hcv]; exact p1
      · exact h6 p hp (by omega)
theorem group_ents {T : TabS} {H : Int → Nat} (hT : TFun T H) (hHb : ∀ q, H q < 18446744073709551616) {g : Nat} (hg : g < T.n) :
    (∀ e ∈ entsL (T.M g) (T.S g), e.hash = (H e.key : Int) ∧ H e.key < 18446744073709551616) ∧
    (∀ i j (hi : i < (entsL (T.M g) (T.S g)).length) (hj : j < (entsL (T.M g) (T.S g)).length), (entsL (T.M g) (T.S g))[i].key = (entsL (T.M g) (T.S g))[j].key → i = j) ∧
    (∀ q, (∃ e ∈ entsL (T.M g) (T.S g), e.key = q) ↔ ∃ k, T.At q g k) := by
  have hat : ∀ k, k ∈ lanesL (fullB (T.M g)) → T.At (T.S g k).key g k := fun k hk => by
    unfold lanesL at hk
    simp only [List.mem_filter, List.mem_range] at hk
    exact ⟨hg, hk.1, hk.2, rfl⟩
  refine ⟨fun e he => ?_, fun i j hi hj hij => ?_, fun q => ⟨?_, ?_⟩⟩
  · unfold entsL at he
    obtain ⟨k, hk, rfl⟩ := List.mem_map.1 he
    exact ⟨hT.hash _ _ _ (hat k hk), hHb _⟩
  · have hnd : (lanesL (fullB (T.M g))).Nodup := by unfold lanesL; exact List.nodup_range.filter _
    unfold entsL at hij hi hj
    simp only [List.getElem_map, List.length_map] at hij hi hj
    have h1 := hat _ (List.getElem_mem hi)
    have h2 := hat _ (List.getElem_mem hj)
    rw [hij] at h1
    have h3 := (hT.one _ _ _ _ _ h1 h2).2
    exact (List.getElem_inj hnd).1 h3
  · rintro ⟨e, he, rfl⟩
    unfold entsL at he
    obtain ⟨k, hk, rfl⟩ := List.mem_map.1 he
    exact ⟨k, hat k hk⟩
  · rintro ⟨k, ha⟩
    refine ⟨T.S g k, ?_, ha.key⟩
    unfold entsL
    refine List.mem_map.2 ⟨k, ?_, rfl⟩
    unfold lanesL
    simp only [List.mem_filter, List.mem_range]
    exact ⟨ha.hk, ha.full⟩
structure EI (T : TabS) (U : Nat → TabS) (k d : Nat) (H : Int → Nat) (g gn : Nat) (m : Int) : Prop where
  t : TFun T H
  tn : T.n = g
  u : UI U k d H gn
  apart : ∀ q, T.has q (H q) = true → (U (tIx k d (H q))).has q (H q) = false
  cnt : T.lv + lvSum U k ≤ m
theorem EI.step {T : TabS} {U : Nat → TabS} {k d g gn : Nat} {H : Int → Nat} {m : Int} (h : EI T U k d H g gn m) (hk : k = 1 ∨ (k = 2 ∧ d ≤ 15)) (hHb : ∀ q, H q < 18446744073709551616) (hm : m ≤ 7 * (gn : Int)) {x : Nat} (hx : x < g) :
    EvOk k d (entsL (T.M x) (T.S x)) U ∧ EI (T.takeT x) (evF k d (entsL (T.M x) (T.S x)) (U, 0)).1 k d H g gn m := by
  have hx' : x < T.n := by rw [h.tn]; exact hx
  obtain ⟨g1, g2, g3⟩ := group_ents h.t hHb hx'
  have hT' := h.t.takeT hx'
  have hlv := takeT_lv T x
  have hlv0 := hT'.good.bounds.2.2.1
  have hcnt := h.cnt
  obtain ⟨l, hl⟩ : ∃ l, l = entsL (T.M x) (T.S x) := ⟨_, rfl⟩
  rw [← hl] at g1 g2 g3 hlv ⊢
  have hnew : ∀ e ∈ l, (U (tIx k d (H e.key))).has e.key (H e.key) = false := fun e he => by
    obtain ⟨q, hq⟩ := (g3 e.key).1 ⟨e, he, rfl⟩
    exact h.apart _ (h.t.has_of hq)
  obtain ⟨i1, i2, i3, i4, i5, i6⟩ := evF_inv h.u hk l g1 hnew g2 (by omega) l.length (Nat.le_refl _)
  rw [List.take_length] at i1 i2 i3 i4 i5
  refine ⟨fun j hj => i6 j hj hj, ⟨hT', by rw [takeT_n]; exact h.tn, i1, fun q hq => ?_, by rw [i2, hlv]; omega⟩⟩
  obtain ⟨g', k', ha⟩ := hT'.has_iff.1 hq
  rw [at_takeT hx'] at ha
  rw [← Bool.not_eq_true, i3 _ (tIx_lt hk)]
  rintro (e | ⟨p, hp, -, hkey, -⟩)
  · rw [h.apart q (h.t.has_of ha.2)] at e; cases e
  · obtain ⟨k2, ha2⟩ := (g3 q).1 ⟨l[p], List.getElem_mem hp, hkey⟩
    exact ha.1 (h.t.one _ _ _ _ _ ha.2 ha2).1
theorem EI.putT {T : TabS} {U : Nat → TabS} {k d g gn : Nat} {H : Int → Nat} {m : Int} (h : EI T U k d H g gn m) (hk : k = 1 ∨ (k = 2 ∧ d ≤ 15)) (hU : ∀ i, i < k → ∀ q, (U i).has q (H q) = false) (q v : Int) (hh : H q < 18446744073709551616) : EI (T.putT q v (H q)) U k d H g gn (m + 1) :=
  ⟨h.t.putT q v hh, by rw [putT_n]; exact h.tn, h.u, fun q' _ => hU _ (tIx_lt hk) q', by
    have h1 := h.cnt
    rw [(h.t.put_lv q v).1]; split <;> omega⟩
theorem EI.putU {T : TabS} {U : Nat → TabS} {k d g gn : Nat} {H : Int → Nat} {m : Int} (h : EI T U k d H g gn m) (hk : k = 1 ∨ (k = 2 ∧ d ≤ 15)) (q v : Int) (hh : H q < 18446744073709551616) (hno : T.has q (H q) = false) :
    EI T (upd U (tIx k d (H q)) ((U (tIx k d (H q))).putT q v (H q))) k d H g gn (m + 1) := by
  have hi := tIx_lt (h := H q) hk
  have hk' : k = 1 ∨ k = 2 := by omega
  have hu := h.u
  generalize hix : tIx k d (H q) = x at *
  have hat : ∀ q', ((U x).putT q v (H q)).has q' (H q') = (if q' = q then (U x).ok q (H q) else (U x).has q' (H q')) := fun q' => ((hu.f x hi).put_at q v hh q').1
  refine ⟨h.t, h.tn, ⟨fun i hik => ?_, fun i hik => ?_, fun i hik => ?_, fun i hik q' hq' => ?_⟩, fun q' hq' => ?_, ?_⟩
  · by_cases e : i = x
    · subst e; rw [upd_same]; exact (hu.f i hi).putT q v hh
    · rw [upd_other _ _ e]; exact hu.f i hik
  · by_cases e : i = x
    · subst e; rw [upd_same]; exact put_tb (hu.f i hi).good (hu.tb i hi) q v hh
    · rw [upd_other _ _ e]; exact hu.tb i hik
  · by_cases e : i = x
    · subst e; rw [upd_same, putT_n]; exact hu.n i hi
    · rw [upd_other _ _ e]; exact hu.n i hik
  · by_cases e : i = x
    · subst e
      rw [upd_same, hat] at hq'
      by_cases e2 : q' = q
      · subst e2; exact hix
      · rw [if_neg e2] at hq'; exact hu.side i hi q' hq'
    · rw [upd_other _ _ e] at hq'; exact hu.side i hik q' hq'
  · have hne : q' ≠ q := fun e => by subst e; rw [hno] at hq'; cases hq'
    by_cases e : tIx k d (H q') = x
    · have := h.apart q' hq'
      rw [e] at this ⊢
      rw [upd_same, hat, if_neg hne]; exact this
    · rw [upd_other _ _ e]; exact h.apart q' hq'
  · have h1 := h.cnt
    rw [lvSum_upd hk' hi, ((hu.f x hi).put_lv q v).1]; split <;> omega
theorem new_no {n : Nat} (hr : rightB (n : Int) = true) (H : Int → Nat) (q : Int) : (TabS.new n).has q (H q) = false := by
  cases e : (TabS.new n).has q (H q) with
  | false => rfl
  | true =>
    obtain ⟨a, -⟩ := (TGood.new hr).at_of e
    have h1 := a.full
    rw [show (TabS.new n).M ((TabS.new n).lastG q (H q)) = rep 128 from rfl, full_iff, ln_rep 128 _ (by decide) a.hk] at h1
    omega
theorem EI.new {k d g gn : Nat} {H : Int → Nat} (hk : k = 1 ∨ (k = 2 ∧ d ≤ 15)) (hr : rightB (g : Int) = true) (hrn : rightB (gn : Int) = true) : EI (TabS.new g) (fun _ => TabS.new gn) k d H g gn 0 :=
  ⟨TFun.new hr H, rfl, ⟨fun _ _ => TFun.new hrn H, fun _ _ => rfl, fun _ _ => rfl, fun i _ q hq => by rw [new_no hrn] at hq; cases hq⟩, fun q _ => new_no hrn H q, by
    have : lvSum (fun _ => TabS.new gn) k = 0 := by
      rcases hk with rfl | ⟨rfl, -⟩
      · rw [lvSum_one]; rfl
      · rw [lvSum_two]; rfl
    rw [this]; exact Int.le_refl _⟩
end Go.Proofs.YtannohinhlefaaaGreatDoor

namespace Go.Proofs.YtannohinhlefaaaGreatDoor
open Go.RowKit Go.Proofs
def entK (H : Int → Nat) (q : Int) : EntS := ⟨q, q + 5, H q⟩
structure EK (T : TabS) (U : Nat → TabS) (k : Nat) (H : Int → Nat) (n : Nat) : Prop where
  o : ∀ q, T.has q (H q) = true → (∃ x : Nat, x < n ∧ q = x) ∧ T.ent q (H q) = entK H q
  u : ∀ i, i < k → ∀ q, (U i).has q (H q) = true → (∃ x : Nat, x < n ∧ q = x) ∧ (U i).ent q (H q) = entK H q
  co : TCnt T H n
  cu : ∀ i, i < k → TCnt (U i) H n
theorem ek_put {T : TabS} {H : Int → Nat} {n x : Nat} (hT : TFun T H) (h : ∀ q, T.has q (H q) = true → (∃ x : Nat, x < n ∧ q = x) ∧ T.ent q (H q) = entK H q) (hx : x < n) (hh : H x < 18446744073709551616) :
    ∀ q, (T.putT x ((x : Int) + 5) (H x)).has q (H q) = true → (∃ x : Nat, x < n ∧ q = x) ∧ (T.putT x ((x : Int) + 5) (H x)).ent q (H q) = entK H q := fun q hq => by
  obtain ⟨h1, h2⟩ := hT.put_at x ((x : Int) + 5) hh q
  rw [h1] at hq
  rw [h2]
  by_cases e : q = (x : Int)
  · subst e
    rw [if_pos rfl] at hq
    rw [if_pos rfl, if_pos hq]
    exact ⟨⟨x, hx, rfl⟩, rfl⟩
  · rw [if_neg e] at hq ⊢
    exact h q hq
theorem EK.putT {T : TabS} {U : Nat → TabS} {k n x : Nat} {H : Int → Nat} (h : EK T U k H n) (hT : TFun T H) (hx : x < n) (hh : H x < 18446744073709551616) : EK (T.putT x ((x : Int) + 5) (H x)) U k H n :=
  ⟨ek_put hT h.o hx hh, h.u, h.co.put hT hx _ hh, h.cu⟩
theorem EK.putU {T : TabS} {U : Nat → TabS} {k n x y : Nat} {H : Int → Nat} (h : EK T U k H n) (hT : TFun (U y) H) (hy : y < k) (hx : x < n) (hh : H x < 18446744073709551616) : EK T (upd U y ((U y).putT x ((x : Int) + 5) (H x))) k H n := by
  refine ⟨h.o, fun i hi => ?_, h.co, fun i hi => ?_⟩
  · by_cases e : i = y
    · subst e; rw [upd_same]; exact ek_put hT (h.u i hy) hx hh
    · rw [upd_other _ _ e]; exact h.u i hi
  · by_cases e : i = y
    · subst e; rw [upd_same]; exact (h.cu i hy).put hT hx _ hh
    · rw [upd_other _ _ e]; exact h.cu i hi
theorem EK.new {k n g gn : Nat} {H : Int → Nat} (hr : rightB (g : Int) = true) (hrn : rightB (gn : Int) = true) : EK (TabS.new g) (fun _ => TabS.new gn) k H n :=
  ⟨fun q hq => (by rw [new_no hr] at hq; cases hq), fun i _ q hq => (by rw [new_no hrn] at hq; cases hq), TCnt.new H n hr, fun _ _ => TCnt.new H n hrn⟩
structure EJ (T : TabS) (U : Nat → TabS) (k d : Nat) (H : Int → Nat) (g gn : Nat) (m : Int) (n : Nat) : Prop where
  e : EI T U k d H g gn m
  k : EK T U k H n
theorem EI.more {T : TabS} {U : Nat → TabS} {k d g gn : Nat} {H : Int → Nat} {m m' : Int} (h : EI T U k d H g gn m) (hm : m ≤ m') : EI T U k d H g gn m' := ⟨h.t, h.tn, h.u, h.apart, Int.le_trans h.cnt hm⟩
section
variable {T : TabS} {U : Nat → TabS} {k d g gn n : Nat} {H : Int → Nat} {m m' : Int}
theorem EJ.more (h : EJ T U k d H g gn m n) (hm : m ≤ m') : EJ T U k d H g gn m' n := ⟨h.e.more hm, h.k⟩
theorem EJ.new (hk : k = 1 ∨ (k = 2 ∧ d ≤ 15)) (hr : rightB (g : Int) = true) (hrn : rightB (gn : Int) = true) : EJ (TabS.new g) (fun _ => TabS.new gn) k d H g gn 0 n := ⟨EI.new hk hr hrn, EK.new hr hrn⟩
theorem EJ.putT {x : Nat} (h : EJ T U k d H g gn m n) (hk : k = 1 ∨ (k = 2 ∧ d ≤ 15)) (hU : ∀ i, i < k → ∀ q, (U i).has q (H q) = false) (hx : x < n) (hh : H x < 18446744073709551616) : EJ (T.putT x ((x : Int) + 5) (H x)) U k d H g gn (m + 1) n :=
  ⟨h.e.putT hk hU _ _ hh, h.k.putT h.e.t hx hh⟩
theorem EJ.putU {x : Nat} (h : EJ T U k d H g gn m n) (hk : k = 1 ∨ (k = 2 ∧ d ≤ 15)) (hx : x < n) (hh : H x < 18446744073709551616) (hno : T.has x (H x) = false) :
    EJ T (upd U (tIx k d (H x)) ((U (tIx k d (H x))).putT x ((x : Int) + 5) (H x))) k d H g gn (m + 1) n :=
  ⟨h.e.putU hk _ _ hh hno, h.k.putU (h.e.u.f _ (tIx_lt hk)) (tIx_lt hk) hx hh⟩
end
def presB (T : TabS) (U : Nat → TabS) (k d : Nat) (H : Int → Nat) (x : Nat) : Bool := T.has x (H x) || (U (tIx k d (H x))).has x (H x)
structure EL (T : TabS) (U : Nat → TabS) (k d : Nat) (H : Int → Nat) (g gn : Nat) (m : Int) (n nx c : Nat) (P : Nat → Bool) : Prop where
  e : EI T U k d H g gn m
  o : ∀ q, T.has q (H q) = true → (∃ x : Nat, x < n ∧ q = x) ∧ T.ent q (H q) = entK H q
  u : ∀ i, i < k → ∀ q, (U i).has q (H q) = true → (∃ x : Nat, x < n ∧ q = x) ∧ (U i).ent q (H q) = entK H q
  c : T.lv + lvSum U k = (c : Int)
  p : ∀ x, x < n → presB T U k d H x = P x
  z : ∀ q g' k', T.At q g' k' → nx ≤ g'
section
variable {T : TabS} {U : Nat → TabS} {k d g gn n nx c : Nat} {H : Int → Nat} {m : Int} {P : Nat → Bool}
def cntP (P : Nat → Bool) (n : Nat) : Nat := sumN (fun i => if P i = true then 1 else 0) n
theorem EJ.start (h : EJ T U k d H g gn m n) (hk : k = 1 ∨ (k = 2 ∧ d ≤ 15)) : EL T U k d H g gn m n 0 (cntP (presB T U k d H) n) (presB T U k d H) := by
  refine ⟨h.e, h.k.o, h.k.u, ?_, fun _ _ => rfl, fun _ _ _ _ => Nat.zero_le _⟩
  have h0 := h.k.co
  unfold TCnt at h0
  unfold cntP
  rcases hk with rfl | ⟨rfl, hd⟩
  · have h1 := h.k.cu 0 (by decide)
    unfold TCnt at h1
    rw [lvSum_one, h0, h1, ← Int.natCast_add, ← sumN_add]
    refine congrArg _ (sumN_congr fun i hi => ?_)
    have ha := h.e.apart (i : Int)
    have e0 : tIx 1 d (H (i : Int)) = 0 := rfl
    unfold presB
    rw [e0] at ha ⊢
    cases c1 : T.has (i : Int) (H i) with
    | true => rw [ha c1]; rfl
    | false => simp
  · have h1 := h.k.cu 0 (by decide)
    have h2 := h.k.cu 1 (by decide)
    unfold TCnt at h1 h2
    rw [lvSum_two, h0, h1, h2, ← Int.add_assoc, ← Int.natCast_add, ← Int.natCast_add, ← sumN_add, ← sumN_add]
    refine congrArg _ (sumN_congr fun i hi => ?_)
    have ha := h.e.apart (i : Int)
    have hlt := tIx_lt (h := H (i : Int)) (show (2 : Nat) = 1 ∨ (2 = 2 ∧ d ≤ 15) from .inr ⟨rfl, hd⟩)
    have s0 := h.e.u.side 0 (by decide) (i : Int)
    have s1 := h.e.u.side 1 (by decide) (i : Int)
    unfold presB
    have h01 : tIx 2 d (H (i : Int)) = 0 ∨ tIx 2 d (H (i : Int)) = 1 := by omega
    rcases h01 with e | e
    · rw [e] at ha s1 ⊢
      have z1 : (U 1).has (i : Int) (H i) = false := by
        cases c1 : (U 1).has (i : Int) (H i) with
        | false => rfl
        | true => exact absurd (s1 c1) (by decide)
      rw [z1]
      cases c1 : T.has (i : Int) (H i) with
      | true => rw [ha c1]; rfl
      | false => simp
    · rw [e] at ha s0 ⊢
      have z1 : (U 0).has (i : Int) (H i) = false := by
        cases c1 : (U 0).has (i : Int) (H i) with
        | false => rfl
        | true => exact absurd (s0 c1) (by decide)
      rw [z1]
      cases c1 : T.has (i : Int) (H i) with
      | true => rw [ha c1]; rfl
      | false => simp
theorem EL.step (h : EL T U k d H g gn m n nx c P) (hk : k = 1 ∨ (k = 2 ∧ d ≤ 15)) (hHb : ∀ q, H q < 18446744073709551616) (hm : m ≤ 7 * (gn : Int)) (hx : nx < g) :
    EvOk k d (entsL (T.M nx) (T.S nx)) U ∧ EL (T.takeT nx) (evF k d (entsL (T.M nx) (T.S nx)) (U, 0)).1 k d H g gn m n (nx + 1) c P := by
  obtain ⟨hok, he⟩ := h.e.step hk hHb hm hx
  refine ⟨hok, ?_⟩
  have hx' : nx < T.n := by rw [h.e.tn]; exact hx
  obtain ⟨g1, g2, g3⟩ := group_ents h.e.t hHb hx'
  have hT' := h.e.t.takeT hx'
  have hlv := takeT_lv T nx
  have hlv0 := hT'.good.bounds.2.2.1
  have hcnt := h.e.cnt
  have hent : ∀ e ∈ entsL (T.M nx) (T.S nx), T.has e.key (H e.key) = true ∧ e = entK H e.key := fun e he => by
    unfold entsL at he
    obtain ⟨k', hk', rfl⟩ := List.mem_map.1 he
    have ha : T.At (T.S nx k').key nx k' := by
      unfold lanesL at hk'
      simp only [List.mem_filter, List.mem_range] at hk'
      exact ⟨hx', hk'.1, hk'.2, rfl⟩
    have hh := h.e.t.has_of ha
    exact ⟨hh, (h.e.t.ent_of ha).symm.trans (h.o _ hh).2⟩
  obtain ⟨l, hl⟩ : ∃ l, l = entsL (T.M nx) (T.S nx) := ⟨_, rfl⟩
  rw [← hl] at g1 g2 g3 hlv hent he ⊢
  have hnew : ∀ e ∈ l, (U (tIx k d (H e.key))).has e.key (H e.key) = false := fun e he => h.e.apart _ (hent e he).1
  obtain ⟨i1, i2, i3, i4, i5, i6⟩ := evF_inv h.e.u hk l g1 hnew g2 (by omega) l.length (Nat.le_refl _)
  rw [List.take_length] at i1 i2 i3 i4 i5
  have hold : ∀ q, (T.takeT nx).has q (H q) = true ↔ T.has q (H q) = true ∧ ¬ ∃ p, ∃ hp : p < l.length, l[p].key = q := fun q => by
    rw [hT'.has_iff, h.e.t.has_iff]
    constructor
    · rintro ⟨g', k', ha⟩
      rw [at_takeT hx'] at ha
      refine ⟨⟨g', k', ha.2⟩, ?_⟩
      rintro ⟨p, hp, hq⟩
      obtain ⟨k2, ha2⟩ := (g3 q).1 ⟨l[p], List.getElem_mem hp, hq⟩
      exact ha.1 (h.e.t.one _ _ _ _ _ ha.2 ha2).1
    · rintro ⟨⟨g', k', ha⟩, hno⟩
      refine ⟨g', k', (at_takeT hx' q g' k').2 ⟨fun e => ?_, ha⟩⟩
      subst e
      obtain ⟨e, he, hq⟩ := (g3 q).2 ⟨k', ha⟩
      obtain ⟨p, hp, rfl⟩ := List.getElem_of_mem he
      exact hno ⟨p, hp, hq⟩
  refine ⟨he, fun q hq => ?_, fun i hi q hq => ?_, ?_, fun x hxn => ?_, fun q g' k' ha => ?_⟩
  · obtain ⟨g', k', ha⟩ := hT'.has_iff.1 hq
    have hq0 := ((hold q).1 hq).1
    have ha2 := (at_takeT hx' q g' k').1 ha
    refine ⟨(h.o q hq0).1, ?_⟩
    rw [hT'.ent_of ha, (takeT_other T ha2.1).2, ← h.e.t.ent_of ha2.2]
    exact (h.o q hq0).2
  · by_cases e : ∃ p, ∃ hp : p < l.length, l[p].key = q ∧ tIx k d (H q) = i
    · obtain ⟨p, hp, rfl, rfl⟩ := e
      have h5 := i5 p hp hp
      obtain ⟨e1, e2⟩ := hent _ (List.getElem_mem hp)
      exact ⟨(h.o _ e1).1, h5.trans e2⟩
    · rw [i3 i hi q] at hq
      rcases hq with hq | ⟨p, hp, -, h1, h2⟩
      · have h4 := i4 i hi q (fun p hp _ h1 h2 => e ⟨p, hp, h1, h2⟩)
        rw [h4]
        exact h.u i hi q hq
      · exact absurd ⟨p, hp, h1, h2⟩ e
  · rw [i2, hlv]
    have := h.c
    omega
  · rw [← h.p x hxn, Bool.eq_iff_iff]
    unfold presB
    rw [Bool.or_eq_true, Bool.or_eq_true, hold, i3 _ (tIx_lt hk)]
    constructor
    · rintro (⟨e, -⟩ | e | ⟨p, hp, -, hq, -⟩)
      · exact .inl e
      · exact .inr e
      · refine .inl ?_
        have := (hent _ (List.getElem_mem hp)).1
        rw [hq] at this; exact this
    · rintro (e | e)
      · by_cases e2 : ∃ p, ∃ hp : p < l.length, l[p].key = (x : Int)
        · obtain ⟨p, hp, hq⟩ := e2
          exact .inr (.inr ⟨p, hp, hp, hq, rfl⟩)
        · exact .inl ⟨e, e2⟩
      · exact .inr (.inl e)
  · obtain ⟨h1, h2⟩ := (at_takeT hx' q g' k').1 ha
    have := h.z q g' k' h2
    omega
theorem EL.at (h : EL T U k d H g gn m n nx c P) {x : Nat} (hk : k = 1 ∨ (k = 2 ∧ d ≤ 15)) (hx : x < n) (hp : P x = true) :
    (T.has x (H x) = true ∧ T.ent x (H x) = entK H x ∧ (U (tIx k d (H x))).has x (H x) = false) ∨ (T.has x (H x) = false ∧ (U (tIx k d (H x))).has x (H x) = true ∧ (U (tIx k d (H x))).ent x (H x) = entK H x) := by
  have hpx := h.p x hx
  rw [hp] at hpx
  unfold presB at hpx
  cases c1 : T.has (x : Int) (H x) with
  | true => exact .inl ⟨rfl, (h.o _ c1).2, h.e.apart _ c1⟩
  | false =>
    rw [c1, Bool.false_or] at hpx
    exact .inr ⟨rfl, hpx, (h.u _ (tIx_lt hk) _ hpx).2⟩
theorem EL.empty (h : EL T U k d H g gn m n g c P) : ∀ q g' k', ¬ T.At q g' k' := fun q g' k' ha => by
  have h1 := h.z q g' k' ha
  have h2 := ha.hg
  have h3 := h.e.tn
  omega
end
theorem gone_lvJ {T : TabS} (hT : TGood T) (h : ∀ q g k, ¬ T.At q g k) : T.lv = 0 := by
  rw [hT.lv]
  have : T.cnt 3 = 0 := sumN_zero fun i hi => by
    unfold countK
    rw [List.length_eq_zero_iff, List.filter_eq_nil_iff]
    intro k hk
    have hk8 := List.mem_range.1 hk
    simp only [decide_eq_true_eq]
    intro e
    have h3 := kind3 (T.M i) k
    rw [e] at h3
    exact h _ i k ⟨hi, hk8, by rw [← h3]; rfl, rfl⟩
  omega
def thereL (P : Nat → Bool) (H : Int → Nat) (k : Nat) : List EntS := ((List.range k).filter P).map fun (x : Nat) => entK H (x : Int)
theorem thereL_succ (P : Nat → Bool) (H : Int → Nat) (k : Nat) : thereL P H (k + 1) = thereL P H k ++ (if P k = true then [entK H (k : Int)] else []) := by
  unfold thereL
  rw [List.range_succ, List.filter_append, List.map_append]
  congr 1
  cases c : P k <;> simp [c]
theorem thereL_length (P : Nat → Bool) (H : Int → Nat) : ∀ k, (thereL P H k).length = cntP P k
  | 0 => rfl
  | k + 1 => by
    rw [thereL_succ, List.length_append, thereL_length P H k]
    show _ = cntP P k + (if P k = true then 1 else 0)
    split <;> rfl
theorem thereL_at (P : Nat → Bool) (H : Int → Nat) (k j : Nat) (hj : j < (thereL P H k).length) : ∃ x, x < k ∧ P x = true ∧ (thereL P H k)[j] = entK H (x : Int) := by
  have hm := List.getElem_mem hj
  unfold thereL at hm
  obtain ⟨x, hx, e⟩ := List.mem_map.1 hm
  simp only [List.mem_filter, List.mem_range] at hx
  exact ⟨x, hx.1, hx.2, by unfold thereL; exact e.symm⟩
theorem cntP_le (P : Nat → Bool) (n : Nat) : cntP P n ≤ n := by
  have : cntP P n ≤ 1 * n := sumN_le fun i _ => by split <;> omega
  omega
end Go.Proofs.YtannohinhlefaaaGreatDoor

namespace Go.Proofs.YtannohinhlefaaaGreatDoor
open Go.RowKit Go.Proofs
def caseC (old new depth : Int) (two : Bool) (h ks ms : Value) : Array Value := #[.int .i64 old, .int .i64 new, .int .i64 depth, .bool two, h, ks, ms]
theorem case_cells {w : World} {B : Nat} {T : TypeId} {old new depth : Int} {two : Bool} {h ks ms : Value} (hb : Blk w B T (caseC old new depth two h ks ms)) : w.cell? ⟨B, 0, none⟩ = some (.int .i64 old) ∧ w.cell? ⟨B, 1, none⟩ = some (.int .i64 new) ∧ w.cell? ⟨B, 2, none⟩ = some (.int .i64 depth) ∧ w.cell? ⟨B, 3, none⟩ = some (.bool two) ∧
    w.cell? ⟨B, 4, none⟩ = some h ∧ w.cell? ⟨B, 5, none⟩ = some ks ∧ w.cell? ⟨B, 6, none⟩ = some ms ∧ B < w.heap.size := ⟨hb.cell 0, hb.cell 1, hb.cell 2, hb.cell 3, hb.cell 4, hb.cell 5, hb.cell 6, hb.lt⟩
set_option maxRecDepth 100000 in
theorem entry12_any (old new depth : Int) (two : Bool) (ks ms : Value) (b off n cap : Nat) (h1 : 1 ≤ n) (h2 : n ≤ 1000) (G : Nat → Nat) (key : Int) (w : World) (hb : b < w.heap.size) (hc : ∀ i, i < n → w.cell? ⟨b, off + i, none⟩ = some (.int .u64 (G i : Int))) (hks : ks.oneCell' = true) (hms : ms.oneCell' = true) :
    Calls Tryz.prog 25 #[.agg (caseC old new depth two (.slice (some ⟨b, off, none⟩) n cap) ks ms), .int .i64 key] w fun e w' =>
      e = .returned (.agg #[.int .u64 (keyI key n : Int), .int .u64 ((keyI key n : Int) + 5), .int .u64 (G (keyI key n) : Int)]) ∧ Below w.heap.size w w' := by
  have hk := keyI_lt key n h1
  have hcell := hc (keyI key n) hk
  have e1 : IntKind.u64.wrap (n : Int) = (n : Int) := by rw [IntKind.wrap_u64]; omega
  have hkey : (IntKind.u64.wrap key).tmod (n : Int) = (keyI key n : Int) := by
    have hw := wrap_u64_bd key
    unfold keyI
    rw [Int.tmod_eq_emod_of_nonneg hw.1]
    have h2 := Int.emod_nonneg (IntKind.u64.wrap key) (show (n : Int) ≠ 0 by omega)
    omega
  have HK := Lib.hid hkey
  clear hkey
  obtain ⟨x, hx⟩ : ∃ x, x = keyI key n := ⟨_, rfl⟩
  rw [← hx] at hk hcell HK ⊢
  have e2 : IntKind.i64.wrap (x : Int) = (x : Int) := by rw [IntKind.wrap_i64]; omega
  have e3 : IntKind.u64.wrap (x : Int) = (x : Int) := by rw [IntKind.wrap_u64]; omega
  have e4 : IntKind.u64.wrap ((x : Int) + 5) = (x : Int) + 5 := by rw [IntKind.wrap_u64]; omega
  have hxI : (x : Int) < (n : Int) := by omega
  generalize G x = gx at *
  have hkey := HK.out
  unfold caseC
  clear hx hc HK
  go_enter Tryz.func25, Tryz.ntmps25
  go_wp2
  refine wp_end_at (fun Wf hWf => ?_)
  have hR : Blk Wf (w.heap.size + 1) 47 #[.int .u64 (x : Int), .int .u64 ((x : Int) + 5), .int .u64 (gx : Int)] := by rw [hWf]; exact Blk.new_at (by simp)
  have hC : Below w.heap.size w Wf := by rw [hWf]; go_grown
  obtain ⟨r0, r1, r2⟩ := cells3 hR
  exact bodyPost_ret (v := .agg #[.int .u64 (x : Int), .int .u64 ((x : Int) + 5), .int .u64 (gx : Int)]) (by simp [results, Tryz.results25, go_sem, r0, r1, r2]) rfl ⟨rfl, hC⟩
def ShortC (old new depth : Int) (n1 n2 n3 : Nat) : Prop := 1 ≤ n1 ∧ n1 ≤ 60 ∧ n2 ≤ 60 ∧ n3 ≤ 60 ∧ rightB old = true ∧ rightB new = true ∧ old ≤ 16 ∧ new ≤ 32 ∧ 0 ≤ depth ∧ depth ≤ 15
instance (old new depth : Int) (n1 n2 n3 : Nat) : Decidable (ShortC old new depth n1 n2 n3) := by unfold ShortC; infer_instance
set_option maxRecDepth 100000 in
set_option maxHeartbeats 4000000 in
theorem long_any (old new depth : Int) (two : Bool) (a1 a2 a3 : Option Addr) (n1 n2 n3 c1 c2 c3 : Nat) (w : World) :
    Calls Tryz.prog 23 #[.agg (caseC old new depth two (.slice a1 n1 c1) (.slice a2 n2 c2) (.slice a3 n3 c3))] w fun e w' => e = .returned (.bool (!decide (ShortC old new depth n1 n2 n3))) ∧ Below w.heap.size w w' := by
  have RO := Lib.hid (fun (w' : World) => refRight_any old w')
  have RN := Lib.hid (fun (w' : World) => refRight_any new w')
  unfold caseC
  by_cases h1 : ¬ (1 ≤ n1)
  · rw [decide_eq_false (show ¬ ShortC old new depth n1 n2 n3 from fun h => by unfold ShortC at h; exact h1 h.1)]
    have d1 : ¬ ((n1 : Int) ≥ 1) := by omega
    have e1 : (n1 : Int) < 1 := by omega
    simp only [Bool.not_false]
    go_enter Tryz.func23, Tryz.ntmps23
    go_wp2_with (first
      | (go_at_call 35; (with_reducible refine (RO.out _).mono ?_); rintro e w' ⟨rfl, rfl⟩)
      | (go_at_call 35; (with_reducible refine (RN.out _).mono ?_); rintro e w' ⟨rfl, rfl⟩))
    go_ret
    exact ⟨rfl, by go_grown⟩
  replace h1 := Classical.not_not.1 h1
  have e1 : (1 : Int) ≤ (n1 : Int) := by omega
  by_cases h2 : ¬ (n1 ≤ 60)
  · rw [decide_eq_false (show ¬ ShortC old new depth n1 n2 n3 from fun h => by unfold ShortC at h; exact h2 h.2.1)]
    have e2 : (60 : Int) < (n1 : Int) := by omega
    simp only [Bool.not_false]
    go_enter Tryz.func23, Tryz.ntmps23
    go_wp2_with (first
      | (go_at_call 35; (with_reducible refine (RO.out _).mono ?_); rintro e w' ⟨rfl, rfl⟩)
      | (go_at_call 35; (with_reducible refine (RN.out _).mono ?_); rintro e w' ⟨rfl, rfl⟩))
    go_ret
    exact ⟨rfl, by go_grown⟩
  replace h2 := Classical.not_not.1 h2
  have e2 : (n1 : Int) ≤ 60 := by omega
  by_cases h3 : ¬ (n2 ≤ 60)
  · rw [decide_eq_false (show ¬ ShortC old new depth n1 n2 n3 from fun h => by unfold ShortC at h; exact h3 h.2.2.1)]
    have e3 : (60 : Int) < (n2 : Int) := by omega
    simp only [Bool.not_false]
    go_enter Tryz.func23, Tryz.ntmps23
    go_wp2_with (first
      | (go_at_call 35; (with_reducible refine (RO.out _).mono ?_); rintro e w' ⟨rfl, rfl⟩)
      | (go_at_call 35; (with_reducible refine (RN.out _).mono ?_); rintro e w' ⟨rfl, rfl⟩))
    go_ret
    exact ⟨rfl, by go_grown⟩
  replace h3 := Classical.not_not.1 h3
  have e3 : (n2 : Int) ≤ 60 := by omega
  by_cases h4 : ¬ (n3 ≤ 60)
  · rw [decide_eq_false (show ¬ ShortC old new depth n1 n2 n3 from fun h => by unfold ShortC at h; exact h4 h.2.2.2.1)]
    have e4 : (60 : Int) < (n3 : Int) := by omega
    simp only [Bool.not_false]
    go_enter Tryz.func23, Tryz.ntmps23
    go_wp2_with (first
      | (go_at_call 35; (with_reducible refine (RO.out _).mono ?_); rintro e w' ⟨rfl, rfl⟩)
      | (go_at_call 35; (with_reducible refine (RN.out _).mono ?_); rintro e w' ⟨rfl, rfl⟩))
    go_ret
    exact ⟨rfl, by go_grown⟩
  replace h4 := Classical.not_not.1 h4
  have e4 : (n3 : Int) ≤ 60 := by omega
  by_cases h5 : ¬ (rightB old = true)
  · rw [decide_eq_false (show ¬ ShortC old new depth n1 n2 n3 from fun h => by unfold ShortC at h; exact h5 h.2.2.2.2.1)]
    replace h5 : rightB old = false := by simpa using h5
    rw [h5] at RO
    simp only [Bool.not_false]
    go_enter Tryz.func23, Tryz.ntmps23
    go_wp2_with (first
      | (go_at_call 35; (with_reducible refine (RO.out _).mono ?_); rintro e w' ⟨rfl, rfl⟩)
      | (go_at_call 35; (with_reducible refine (RN.out _).mono ?_); rintro e w' ⟨rfl, rfl⟩))
    go_ret
    exact ⟨rfl, by go_grown⟩
  replace h5 := Classical.not_not.1 h5
  rw [h5] at RO
  by_cases h6 : ¬ (rightB new = true)
  · rw [decide_eq_false (show ¬ ShortC old new depth n1 n2 n3 from fun h => by unfold ShortC at h; exact h6 h.2.2.2.2.2.1)]
    replace h6 : rightB new = false := by simpa using h6
    rw [h6] at RN
    simp only [Bool.not_false]
    go_enter Tryz.func23, Tryz.ntmps23
    go_wp2_with (first
      | (go_at_call 35; (with_reducible refine (RO.out _).mono ?_); rintro e w' ⟨rfl, rfl⟩)
      | (go_at_call 35; (with_reducible refine (RN.out _).mono ?_); rintro e w' ⟨rfl, rfl⟩))
    go_ret
    exact ⟨rfl, by go_grown⟩
  replace h6 := Classical.not_not.1 h6
  rw [h6] at RN
  by_cases h7 : ¬ (old ≤ 16)
  · rw [decide_eq_false (show ¬ ShortC old new depth n1 n2 n3 from fun h => by unfold ShortC at h; exact h7 h.2.2.2.2.2.2.1)]
    have e7 : 16 < old := by omega
    simp only [Bool.not_false]
    go_enter Tryz.func23, Tryz.ntmps23
    go_wp2_with (first
      | (go_at_call 35; (with_reducible refine (RO.out _).mono ?_); rintro e w' ⟨rfl, rfl⟩)
      | (go_at_call 35; (with_reducible refine (RN.out _).mono ?_); rintro e w' ⟨rfl, rfl⟩))
    go_ret
    exact ⟨rfl, by go_grown⟩
  replace h7 := Classical.not_not.1 h7
  have e7 : True := trivial
  by_cases h8 : ¬ (new ≤ 32)
  · rw [decide_eq_false (show ¬ ShortC old new depth n1 n2 n3 from fun h => by unfold ShortC at h; exact h8 h.2.2.2.2.2.2.2.1)]
    have e8 : 32 < new := by omega
    simp only [Bool.not_false]
    go_enter Tryz.func23, Tryz.ntmps23
    go_wp2_with (first
      | (go_at_call 35; (with_reducible refine (RO.out _).mono ?_); rintro e w' ⟨rfl, rfl⟩)
      | (go_at_call 35; (with_reducible refine (RN.out _).mono ?_); rintro e w' ⟨rfl, rfl⟩))
    go_ret
    exact ⟨rfl, by go_grown⟩
  replace h8 := Classical.not_not.1 h8
  have e8 : True := trivial
  by_cases h9 : ¬ (0 ≤ depth)
  · rw [decide_eq_false (show ¬ ShortC old new depth n1 n2 n3 from fun h => by unfold ShortC at h; exact h9 h.2.2.2.2.2.2.2.2.1)]
    have e9 : depth < 0 := by omega
    simp only [Bool.not_false]
    go_enter Tryz.func23, Tryz.ntmps23
    go_wp2_with (first
      | (go_at_call 35; (with_reducible refine (RO.out _).mono ?_); rintro e w' ⟨rfl, rfl⟩)
      | (go_at_call 35; (with_reducible refine (RN.out _).mono ?_); rintro e w' ⟨rfl, rfl⟩))
    go_ret
    exact ⟨rfl, by go_grown⟩
  replace h9 := Classical.not_not.1 h9
  have e9 : True := trivial
  by_cases h10 : ¬ (depth ≤ 15)
  · rw [decide_eq_false (show ¬ ShortC old new depth n1 n2 n3 from fun h => by unfold ShortC at h; exact h10 h.2.2.2.2.2.2.2.2.2)]
    have e10 : 15 < depth := by omega
    simp only [Bool.not_false]
    go_enter Tryz.func23, Tryz.ntmps23
    go_wp2_with (first
      | (go_at_call 35; (with_reducible refine (RO.out _).mono ?_); rintro e w' ⟨rfl, rfl⟩)
      | (go_at_call 35; (with_reducible refine (RN.out _).mono ?_); rintro e w' ⟨rfl, rfl⟩))
    go_ret
    exact ⟨rfl, by go_grown⟩
  replace h10 := Classical.not_not.1 h10
  have e10 : True := trivial
  rw [decide_eq_true (show ShortC old new depth n1 n2 n3 from ⟨h1, h2, h3, h4, h5, h6, h7, h8, h9, h10⟩)]
  simp only [Bool.not_true]
  have b1 : decide ((n1 : Int) < 1) = false := by simp; omega
  have b2 : decide ((60 : Int) < (n1 : Int)) = false := by simp; omega
  have b3 : decide ((60 : Int) < (n2 : Int)) = false := by simp; omega
  have b4 : decide ((60 : Int) < (n3 : Int)) = false := by simp; omega
  have b7 : decide (16 < old) = false := by simp; omega
  have b8 : decide (32 < new) = false := by simp; omega
  have b9 : decide (depth < 0) = false := by simp; omega
  have b10 : decide (15 < depth) = false := by simp; omega
  go_enter Tryz.func23, Tryz.ntmps23
  go_wp2_with (first
    | (go_at_call 35; (with_reducible refine (RO.out _).mono ?_); rintro e w' ⟨rfl, rfl⟩)
    | (go_at_call 35; (with_reducible refine (RN.out _).mono ?_); rintro e w' ⟨rfl, rfl⟩))
  go_ret
  exact ⟨rfl, by go_grown⟩
end Go.Proofs.YtannohinhlefaaaGreatDoor

namespace Go.Proofs.YtannohinhlefaaaGreatDoor
def bitF (h i : Nat) : Nat := h / 2 ^ (63 - i) % 2
theorem bitF_le (h i : Nat) : bitF h i ≤ 1 := by unfold bitF; omega
end Go.Proofs.YtannohinhlefaaaGreatDoor

namespace Go.Proofs.YtannohinhlefaaaGreatDoor
open Go.RowKit Go.Proofs
set_option maxRecDepth 100000
end Go.Proofs.YtannohinhlefaaaGreatDoor

namespace Go.Proofs.YtannohinhlefaaaGreatDoor
open Go.RowKit Go.Proofs
end Go.Proofs.YtannohinhlefaaaGreatDoor

namespace Go.Proofs.YtannohinhlefaaaGreatDoor
open Go.RowKit Go.Proofs
def ints64 (f : Nat → Nat) : Array Value := ((List.range 64).map fun i => Value.int .i64 (f i : Int)).toArray
theorem ints64_size (f : Nat → Nat) : (ints64 f).size = 64 := by simp [ints64]
theorem ints64_get (f : Nat → Nat) (j : Nat) (hj : j < 64) : (ints64 f)[j]? = some (.int .i64 (f j : Int)) := by simp [ints64, hj]
theorem ints64_set (f : Nat → Nat) (k b : Nat) (hk : k < 64) : (ints64 f).setIfInBounds k (.int .i64 (b : Int)) = ints64 (fun j => if j = k then b else f j) := by
  apply Array.ext_getElem?
  intro j
  by_cases hj : j < 64
  · rw [ints64_get _ _ hj, Array.getElem?_setIfInBounds]
    by_cases e : k = j
    · subst e; simp [ints64_size, hj]
    · rw [if_neg e, ints64_get _ _ hj, if_neg (Ne.symm e)]
  · rw [Array.getElem?_eq_none (by rw [Array.size_setIfInBounds, ints64_size]; omega), Array.getElem?_eq_none (by rw [ints64_size]; omega)]
theorem ints64_one (f : Nat → Nat) : ∀ v ∈ (ints64 f).toList, v.oneCell' = true := by
  intro v hv
  simp only [ints64, List.mem_map] at hv
  obtain ⟨i, -, rfl⟩ := hv
  rfl
theorem ints64_congr {f g : Nat → Nat} (h : ∀ i, i < 64 → f i = g i) : ints64 f = ints64 g := by
  unfold ints64
  congr 1
  refine List.map_congr_left fun i hi => ?_
  rw [h i (List.mem_range.1 hi)]
def zeros64 : Array Value := Array.replicate 64 (Value.int .i64 0)
theorem zeros64_ints : zeros64 = ints64 fun _ => 0 := by
  apply Array.ext_getElem?
  intro j
  by_cases hj : j < 64
  · rw [ints64_get _ _ hj]; simp [zeros64, hj]
  · rw [Array.getElem?_eq_none (by simp [zeros64]; omega), Array.getElem?_eq_none (by rw [ints64_size]; omega)]
theorem zvI64 (w : World) : (zeroValue 167).run Tryz.prog w = .ok (.agg zeros64) w := by kernel_rfl
theorem bits_step (h n : Nat) : (fun j => if j = n then bitF h n else if n + 1 ≤ j then bitF h j else 0) = fun j => if n ≤ j then bitF h j else 0 := by
  funext j
  by_cases e : j = n
  · subst e; simp
  · by_cases e2 : n ≤ j
    · rw [if_neg e, if_pos e2, if_pos (by omega)]
    · rw [if_neg e, if_neg e2, if_neg (by omega)]
set_option maxRecDepth 100000 in
set_option maxHeartbeats 2000000 in
theorem bits_any (h : Nat) (hh : h < 18446744073709551616) (w0 : World) :
    Calls Tryz.prog 95 #[.int .u64 (h : Int)] w0 fun e w' => e = .returned (.agg (ints64 (bitF h))) ∧ Below w0.heap.size w0 w' := by
  go_enter Tryz.func95, Tryz.ntmps95
  go_wp2_with (first
    | (refine wpList_value rfl (exec_zero (t := 167) rfl Tryz.underlying167 rfl zvI64 (fun w => ⟨_, Tryz.sizeOf3 w⟩)) ?_)
    | (refine wpList_value rfl (exec_alloc (t := 167) rfl zvI64) ?_)
    | (refine wpList_unit rfl (exec_storeAll (t := 167) rfl rfl rfl (Blk.new _ _ _) rfl (by rw [show (Value.agg zeros64).cells = zeros64 from rfl, show zeros64.size = 64 from by simp [zeros64]]; exact Tryz.sizeOf167 _) (by rw [zeros64_ints]; exact ints64_one _)) ?_; rw [setRow_new rfl]))
  have q1 : Blk ((w0.alloc (.cells zeros64 167)).alloc (.cells zeros64 167)) (w0.heap.size + 1) 167 zeros64 := Blk.new_at (by simp)
  have q0 : Blk ((w0.alloc (.cells zeros64 167)).alloc (.cells zeros64 167)) w0.heap.size 167 zeros64 := (Blk.new _ _ _).alloc _
  have hB1 : Below w0.heap.size w0 ((w0.alloc (.cells zeros64 167)).alloc (.cells zeros64 167)) := by go_grown
  go_loopw [0, 4] (fun v0 v4 wr => ∃ k : Nat, k ≤ 64 ∧ v4 = .int .i64 ((k : Int) - 1) ∧ v0 = .int .u64 ((h / 2 ^ (64 - k) : Nat) : Int) ∧ Blk wr (w0.heap.size + 1) 167 (ints64 (fun j => if k ≤ j then bitF h j else 0)) ∧ Blk wr w0.heap.size 167 zeros64 ∧ Below w0.heap.size w0 wr) (fun _ v4 _ => (intOf v4 + 1).toNat)
  case atStart =>
    refine ⟨64, by omega, rfl, by simp, ?_, q0, hB1⟩
    rw [← ints64_congr (f := fun _ => 0) (fun i hi => by simp [show ¬ 64 ≤ i by omega]), ← zeros64_ints]
    exact q1
  case round =>
    obtain ⟨k, hk, rfl, rfl, h1, h2, h3⟩ := hrel
    by_cases hlt : 1 ≤ k
    · obtain ⟨n, rfl⟩ : ∃ n, k = n + 1 := ⟨k - 1, by omega⟩
      rw [show (((n + 1 : Nat) : Int) - 1) = (n : Int) by omega, show 64 - (n + 1) = 63 - n by omega]
      have c1 := h1.cell n
      rw [ints64_get _ n (by omega)] at c1
      have f1 := h1.frozen n
      have hv : h / 2 ^ (63 - n) % 2 = bitF h n := rfl
      have hq0 : h / 2 ^ (63 - n) / 2 = h / 2 ^ (64 - n) := (by rw [Nat.div_div_eq_div_mul, ← Nat.pow_succ, show (63 - n).succ = 64 - n by omega])
      have hlow : h / 2 ^ (63 - n) ≤ h := Nat.div_le_self _ _
      generalize h / 2 ^ (63 - n) = t at *
      have hq := Lib.hid hq0
      clear hq0
      have H1 := Lib.hid h1
      have H2 := Lib.hid h2
      clear h1 h2
      go_wp2
      go_roundw
      case rel =>
        refine ⟨n, by omega, by go_num, by rw [← hq.out]; simp, ?_, H2.out.other (by omega) _ _, h3.setCell (by simp) _⟩
        have := H1.out.set n (.int .i64 (bitF h n : Int))
        rw [ints64_set _ _ _ (by omega)] at this
        rw [bits_step] at this
        rw [show (t : Int) % 2 = ((bitF h n : Nat) : Int) by omega]
        exact this
      case measure => simp only [intOf]; omega
    · obtain rfl : k = 0 := by omega
      rw [ints64_congr (g := bitF h) (fun i hi => by simp)] at h1
      have H1 := Lib.hid h1
      have H2 := Lib.hid h2
      clear h1 h2
      have HSZ : (ints64 (bitF h)).size = zeros64.size := by rw [ints64_size]; simp [zeros64]
      go_wp2_with (first | (refine wpList_value rfl (exec_loadAll (t := 167) rfl rfl Tryz.underlying167 rfl H1.out (by rw [ints64_size]; exact Tryz.sizeOf167 _)) ?_) | (refine wpList_unit rfl (exec_storeAll (t := 167) rfl rfl rfl H2.out HSZ (by rw [ints64_size]; exact Tryz.sizeOf167 _) (ints64_one _)) ?_))
      trace_state
      refine bodyPost_ret (v := .agg (ints64 (bitF h))) ?_ rfl ⟨rfl, Below.setRow h3 (Nat.le_refl _) _⟩
      exact results_blk rfl rfl Tryz.underlying167 rfl (H2.out.setRow _) (by rw [ints64_size]; exact Tryz.sizeOf167 _)
end Go.Proofs.YtannohinhlefaaaGreatDoor

namespace Go.Proofs.YtannohinhlefaaaGreatDoor
open Go.RowKit Go.Proofs
theorem ix64 (f : Nat → Nat) (k : Nat) (hk : k < 64) (w : World) : (Instr.index 167 (.agg (ints64 f)) (.int .i64 (k : Int))).run Tryz.prog w = .ok (.int .i64 ((f k : Nat) : Int)) w := by
  have hag : (isAgg 3).run Tryz.prog w = .ok false w := Tryz.isAgg3 w
  have hsz := Tryz.sizeOf3 w
  have hg := ints64_get f k hk
  have hp : (part 3 (ints64 f) ((k : Int).toNat * 1)).run Tryz.prog w = .ok (.int .i64 ((f k : Nat) : Int)) w := by
    simp only [part, Sem.run_bind, hag, Result.andThen, Bool.false_eq_true, if_false, Int.toNat_natCast, Nat.mul_one, hg]
    rfl
  have h1 : 0 ≤ (k : Int) ∧ (k : Int) < ((64 : Nat) : Int) := by omega
  simp only [Instr.index, asIntOf, Sem.run_bind, Sem.run_pure, Result.andThen, run_underlying Tryz.underlying167, if_pos h1, hsz, hp]
structure VM (w : World) (X O G cap k : Nat) (TB : Nat → Nat) (d next : Nat) : Prop where
  b : Blk w X 117 #[.pointer (some ⟨O, 0, none⟩), .slice (some ⟨G, 0, none⟩) k cap, .int .i64 (d : Int), .int .i64 (next : Int)]
  l : ∀ i, i < k → w.cell? ⟨G, i, none⟩ = some (.pointer (some ⟨TB i, 0, none⟩))
  lt : G < w.heap.size
  hk : k = 1 ∨ (k = 2 ∧ d ≤ 15)
theorem VM.later {w w' : World} {V O G cap k : Nat} {TB : Nat → Nat} {d next : Nat} (h : VM w V O G cap k TB d next) (hb : Below w.heap.size w w') : VM w' V O G cap k TB d next :=
  ⟨h.b.below hb h.b.lt, fun i hi => (hb.cell (p := ⟨G, i, none⟩) h.lt).trans (h.l i hi), Nat.lt_of_lt_of_le h.lt hb.size, h.hk⟩
theorem VM.chg {X : Nat → Prop} {w w' : World} {V O G cap k : Nat} {TB : Nat → Nat} {d next : Nat} (h : VM w V O G cap k TB d next) (hc : Chg X w w') (h1 : ¬ X V) (h2 : ¬ X G) : VM w' V O G cap k TB d next :=
  ⟨h.b.chg hc h1, fun i hi => (hc.cell (p := ⟨G, i, none⟩) h.lt h2).trans (h.l i hi), Nat.lt_of_lt_of_le h.lt hc.size, h.hk⟩
theorem vmcells {w : World} {V O G cap k : Nat} {TB : Nat → Nat} {d next : Nat} (h : VM w V O G cap k TB d next) : w.cell? ⟨V, 0, none⟩ = some (.pointer (some ⟨O, 0, none⟩)) ∧ w.cell? ⟨V, 1, none⟩ = some (.slice (some ⟨G, 0, none⟩) k cap) ∧ w.cell? ⟨V, 2, none⟩ = some (.int .i64 (d : Int)) ∧ w.cell? ⟨V, 3, none⟩ = some (.int .i64 (next : Int)) ∧ V < w.heap.size ∧ (∀ j, w.frozen? ⟨V, j, none⟩ = false) :=
  ⟨h.b.cell 0, h.b.cell 1, h.b.cell 2, h.b.cell 3, h.b.lt, fun j => h.b.frozen j⟩
set_option maxRecDepth 100000 in
theorem rtarget_any (V O G cap k : Nat) (TB : Nat → Nat) (d next h : Nat) (hh : h < 18446744073709551616) (w : World) (he : VM w V O G cap k TB d next) :
    Calls Tryz.prog 57 #[.pointer (some ⟨V, 0, none⟩), .int .u64 (h : Int)] w fun e w' => e = .returned (.pointer (some ⟨TB (tIx k d h), 0, none⟩)) ∧ Below w.heap.size w w' := by
  obtain ⟨c0, c1, c2, c3, hl, hf⟩ := vmcells he
  have hz := he.lt
  have l0 := he.l 0 (by rcases he.hk with e | e <;> omega)
  rcases he.hk with rfl | ⟨rfl, hd⟩
  · have e1 : tIx 1 d h = 0 := rfl
    rw [e1]
    clear he c0 c2 c3 hf
    go_enter Tryz.func57, Tryz.ntmps57
    go_wp2
    refine wp_region_seq (fun _ => False) #[⟨0, 0, 32, 1, 0⟩, ⟨1, 1, 64, 32, 0⟩, ⟨2, 3, 128, 64, 0⟩, ⟨4, 7, 256, 128, 1⟩, ⟨8, 15, 512, 256, 0⟩, ⟨16, 31, 1024, 512, 0⟩, ⟨32, 63, 2048, 1024, 0⟩, ⟨64, 127, 4096, 2050, 0⟩, ⟨192, 255, 8192, 6144, 2⟩, ⟨64, 127, 16384, 2049, 0⟩, ⟨576, 639, 32768, 18432, 0⟩, ⟨1088, 1663, 65536, 34816, 0⟩, ⟨2112, 3711, 131072, 67584, 1⟩, ⟨4416, 8191, 262144, 141312, 0⟩, ⟨8256, 16383, 524288, 264192, 0⟩, ⟨16448, 32767, 1048576, 526336, 0⟩] 4104 [(0, 0), (1, 0), (2, 0), (3, 1), (4, 0), (5, 0), (6, 0), (7, 0), (9, 0), (10, 0), (11, 0), (12, 1), (8, 2), (13, 0), (14, 0), (15, 0)] (by kernel_rfl) (by kernel_rfl) (by kernel_rfl) (by kernel_rfl) (by kernel_rfl) (by kernel_rfl) (fun c a d v w h => by cases d <;> exact h) ?_
    refine seq_calcA (h := ?_)
    try simp only [Act.put, List.setIfInBounds_toArray, List.set_cons_zero, List.set_cons_succ]
    refine seq_calcA (h := ?_)
    try simp only [Act.put, List.setIfInBounds_toArray, List.set_cons_zero, List.set_cons_succ]
    refine seq_calcA (h := ?_)
    try simp only [Act.put, List.setIfInBounds_toArray, List.set_cons_zero, List.set_cons_succ]
    refine seq_load1A (hu := Tryz.underlying115) (h := ?_)
    try simp only [Act.put, List.setIfInBounds_toArray, List.set_cons_zero, List.set_cons_succ]
    refine seq_calcA (h := ?_)
    try simp only [Act.put, List.setIfInBounds_toArray, List.set_cons_zero, List.set_cons_succ]
    refine seq_calcA (h := ?_)
    try simp only [Act.put, List.setIfInBounds_toArray, List.set_cons_zero, List.set_cons_succ]
    refine seq_calcA (h := ?_)
    try simp only [Act.put, List.setIfInBounds_toArray, List.set_cons_zero, List.set_cons_succ]
    first
      | (refine seq_skipA (h := ?_))
      | (refine seq_calcA (h := ?_))
    try simp only [Act.put, List.setIfInBounds_toArray, List.set_cons_zero, List.set_cons_succ]
    first
      | (refine seq_skipA (h := ?_))
      | (refine seq_calcA (h := ?_))
    try simp only [Act.put, List.setIfInBounds_toArray, List.set_cons_zero, List.set_cons_succ]
    first
      | (refine seq_skipA (h := ?_))
      | (refine seq_calcA (h := ?_))
    try simp only [Act.put, List.setIfInBounds_toArray, List.set_cons_zero, List.set_cons_succ]
    first
      | (refine seq_skipA (h := ?_))
      | (refine seq_calcA (h := ?_))
    try simp only [Act.put, List.setIfInBounds_toArray, List.set_cons_zero, List.set_cons_succ]
    first
      | (refine seq_skipA (h := ?_))
      | (refine seq_load1A (hu := Tryz.underlying3) (h := ?_))
    try simp only [Act.put, List.setIfInBounds_toArray, List.set_cons_zero, List.set_cons_succ]
    first
      | (refine seq_skipA (h := ?_))
      | (refine seq_doA (h := fun K hK => ?_); go_wp2_with (fail); refine hkA hK (h := ?_); clear hK K)
    try simp only [Act.put, List.setIfInBounds_toArray, List.set_cons_zero, List.set_cons_succ]
    first
      | (refine seq_skipA (h := ?_))
      | (refine seq_calcA (h := ?_))
    try simp only [Act.put, List.setIfInBounds_toArray, List.set_cons_zero, List.set_cons_succ]
    first
      | (refine seq_skipA (h := ?_))
      | (refine seq_calcA (h := ?_))
    try simp only [Act.put, List.setIfInBounds_toArray, List.set_cons_zero, List.set_cons_succ]
    refine seq_calcA (h := ?_)
    try simp only [Act.put, List.setIfInBounds_toArray, List.set_cons_zero, List.set_cons_succ]
    refine seq_nil ?_
    go_wp2
    go_ret
    exact ⟨rfl, (Below.refl _ _).drew⟩
  · have l1 := he.l 1 (by decide)
    have BT := Lib.hid (fun w' => bits_any h hh w')
    have IX := fun w => ix64 (bitF h) d (by omega) w
    have hb := bitF_le h d
    have e1 : tIx 2 d h = bitF h d := rfl
    rw [e1]
    have HV := Lib.hid he
    generalize bitF h d = b at *
    generalize ints64 (bitF h) = bs at *
    clear he c0 c3 hf e1
    obtain rfl | rfl : b = 0 ∨ b = 1 := by omega
    · go_enter Tryz.func57, Tryz.ntmps57
      go_wp2
      refine wp_region_seq (fun _ => False) #[⟨0, 0, 32, 1, 0⟩, ⟨1, 1, 64, 32, 0⟩, ⟨2, 3, 128, 64, 0⟩, ⟨4, 7, 256, 128, 1⟩, ⟨8, 15, 512, 256, 0⟩, ⟨16, 31, 1024, 512, 0⟩, ⟨32, 63, 2048, 1024, 0⟩, ⟨64, 127, 4096, 2050, 0⟩, ⟨192, 255, 8192, 6144, 2⟩, ⟨64, 127, 16384, 2049, 0⟩, ⟨576, 639, 32768, 18432, 0⟩, ⟨1088, 1663, 65536, 34816, 0⟩, ⟨2112, 3711, 131072, 67584, 1⟩, ⟨4416, 8191, 262144, 141312, 0⟩, ⟨8256, 16383, 524288, 264192, 0⟩, ⟨16448, 32767, 1048576, 526336, 0⟩] 4104 [(0, 0), (1, 0), (2, 0), (3, 1), (4, 0), (5, 0), (6, 0), (7, 0), (9, 0), (10, 0), (11, 0), (12, 1), (8, 2), (13, 0), (14, 0), (15, 0)] (by kernel_rfl) (by kernel_rfl) (by kernel_rfl) (by kernel_rfl) (by kernel_rfl) (by kernel_rfl) (fun c a d v w h => by cases d <;> exact h) ?_
      refine seq_calcA (h := ?_)
      try simp only [Act.put, List.setIfInBounds_toArray, List.set_cons_zero, List.set_cons_succ]
      refine seq_calcA (h := ?_)
      try simp only [Act.put, List.setIfInBounds_toArray, List.set_cons_zero, List.set_cons_succ]
      refine seq_calcA (h := ?_)
      try simp only [Act.put, List.setIfInBounds_toArray, List.set_cons_zero, List.set_cons_succ]
      refine seq_load1A (hu := Tryz.underlying115) (h := ?_)
      try simp only [Act.put, List.setIfInBounds_toArray, List.set_cons_zero, List.set_cons_succ]
      refine seq_calcA (h := ?_)
      try simp only [Act.put, List.setIfInBounds_toArray, List.set_cons_zero, List.set_cons_succ]
      refine seq_calcA (h := ?_)
      try simp only [Act.put, List.setIfInBounds_toArray, List.set_cons_zero, List.set_cons_succ]
      refine seq_calcA (h := ?_)
      try simp only [Act.put, List.setIfInBounds_toArray, List.set_cons_zero, List.set_cons_succ]
      first
        | (refine seq_skipA (h := ?_))
        | (refine seq_calcA (h := ?_))
      try simp only [Act.put, List.setIfInBounds_toArray, List.set_cons_zero, List.set_cons_succ]
      first
        | (refine seq_skipA (h := ?_))
        | (refine seq_calcA (h := ?_))
      try simp only [Act.put, List.setIfInBounds_toArray, List.set_cons_zero, List.set_cons_succ]
      first
        | (refine seq_skipA (h := ?_))
        | (refine seq_calcA (h := ?_))
      try simp only [Act.put, List.setIfInBounds_toArray, List.set_cons_zero, List.set_cons_succ]
      first
        | (refine seq_skipA (h := ?_))
        | (refine seq_calcA (h := ?_))
      try simp only [Act.put, List.setIfInBounds_toArray, List.set_cons_zero, List.set_cons_succ]
      first
        | (refine seq_skipA (h := ?_))
        | (refine seq_load1A (hu := Tryz.underlying3) (h := ?_))
      try simp only [Act.put, List.setIfInBounds_toArray, List.set_cons_zero, List.set_cons_succ]
      first
        | (refine seq_skipA (h := ?_))
        | (refine seq_doA (h := fun K hK => ?_); go_wp2_with (go_at_call 95; refine (BT.out _).mono ?_; rintro e w1 ⟨rfl, hb1⟩; have V1 := Lib.hid (HV.out.later (show Below w.heap.size w w1 from Below.undrew hb1)); obtain ⟨d0, d1, d2, d3, zl, -⟩ := vmcells V1.out; have zg := V1.out.lt; have t0 := V1.out.l 0 (by decide); have t1 := V1.out.l 1 (by decide)); refine hkA hK (h := ?_); clear hK K)
      try simp only [Act.put, List.setIfInBounds_toArray, List.set_cons_zero, List.set_cons_succ]
      first
        | (refine seq_skipA (h := ?_))
        | (refine seq_calcA (h := ?_))
      try simp only [Act.put, List.setIfInBounds_toArray, List.set_cons_zero, List.set_cons_succ]
      first
        | (refine seq_skipA (h := ?_))
        | (refine seq_calcA (h := ?_))
      try simp only [Act.put, List.setIfInBounds_toArray, List.set_cons_zero, List.set_cons_succ]
      refine seq_calcA (h := ?_)
      try simp only [Act.put, List.setIfInBounds_toArray, List.set_cons_zero, List.set_cons_succ]
      refine seq_nil ?_
      go_wp2
      go_ret
      exact ⟨rfl, Below.undrew hb1⟩
    · go_enter Tryz.func57, Tryz.ntmps57
      go_wp2
      refine wp_region_seq (fun _ => False) #[⟨0, 0, 32, 1, 0⟩, ⟨1, 1, 64, 32, 0⟩, ⟨2, 3, 128, 64, 0⟩, ⟨4, 7, 256, 128, 1⟩, ⟨8, 15, 512, 256, 0⟩, ⟨16, 31, 1024, 512, 0⟩, ⟨32, 63, 2048, 1024, 0⟩, ⟨64, 127, 4096, 2050, 0⟩, ⟨192, 255, 8192, 6144, 2⟩, ⟨64, 127, 16384, 2049, 0⟩, ⟨576, 639, 32768, 18432, 0⟩, ⟨1088, 1663, 65536, 34816, 0⟩, ⟨2112, 3711, 131072, 67584, 1⟩, ⟨4416, 8191, 262144, 141312, 0⟩, ⟨8256, 16383, 524288, 264192, 0⟩, ⟨16448, 32767, 1048576, 526336, 0⟩] 4104 [(0, 0), (1, 0), (2, 0), (3, 1), (4, 0), (5, 0), (6, 0), (7, 0), (9, 0), (10, 0), (11, 0), (12, 1), (8, 2), (13, 0), (14, 0), (15, 0)] (by kernel_rfl) (by kernel_rfl) (by kernel_rfl) (by kernel_rfl) (by kernel_rfl) (by kernel_rfl) (fun c a d v w h => by cases d <;> exact h) ?_
      refine seq_calcA (h := ?_)
      try simp only [Act.put, List.setIfInBounds_toArray, List.set_cons_zero, List.set_cons_succ]
      refine seq_calcA (h := ?_)
      try simp only [Act.put, List.setIfInBounds_toArray, List.set_cons_zero, List.set_cons_succ]
      refine seq_calcA (h := ?_)
      try simp only [Act.put, List.setIfInBounds_toArray, List.set_cons_zero, List.set_cons_succ]
      refine seq_load1A (hu := Tryz.underlying115) (h := ?_)
      try simp only [Act.put, List.setIfInBounds_toArray, List.set_cons_zero, List.set_cons_succ]
      refine seq_calcA (h := ?_)
      try simp only [Act.put, List.setIfInBounds_toArray, List.set_cons_zero, List.set_cons_succ]
      refine seq_calcA (h := ?_)
      try simp only [Act.put, List.setIfInBounds_toArray, List.set_cons_zero, List.set_cons_succ]
      refine seq_calcA (h := ?_)
      try simp only [Act.put, List.setIfInBounds_toArray, List.set_cons_zero, List.set_cons_succ]
      first
        | (refine seq_skipA (h := ?_))
        | (refine seq_calcA (h := ?_))
      try simp only [Act.put, List.setIfInBounds_toArray, List.set_cons_zero, List.set_cons_succ]
      first
        | (refine seq_skipA (h := ?_))
        | (refine seq_calcA (h := ?_))
      try simp only [Act.put, List.setIfInBounds_toArray, List.set_cons_zero, List.set_cons_succ]
      first
        | (refine seq_skipA (h := ?_))
        | (refine seq_calcA (h := ?_))
      try simp only [Act.put, List.setIfInBounds_toArray, List.set_cons_zero, List.set_cons_succ]
      first
        | (refine seq_skipA (h := ?_))
        | (refine seq_calcA (h := ?_))
      try simp only [Act.put, List.setIfInBounds_toArray, List.set_cons_zero, List.set_cons_succ]
      first
        | (refine seq_skipA (h := ?_))
        | (refine seq_load1A (hu := Tryz.underlying3) (h := ?_))
      try simp only [Act.put, List.setIfInBounds_toArray, List.set_cons_zero, List.set_cons_succ]
      first
        | (refine seq_skipA (h := ?_))
        | (refine seq_doA (h := fun K hK => ?_); go_wp2_with (go_at_call 95; refine (BT.out _).mono ?_; rintro e w1 ⟨rfl, hb1⟩; have V1 := Lib.hid (HV.out.later (show Below w.heap.size w w1 from Below.undrew hb1)); obtain ⟨d0, d1, d2, d3, zl, -⟩ := vmcells V1.out; have zg := V1.out.lt; have t0 := V1.out.l 0 (by decide); have t1 := V1.out.l 1 (by decide)); refine hkA hK (h := ?_); clear hK K)
      try simp only [Act.put, List.setIfInBounds_toArray, List.set_cons_zero, List.set_cons_succ]
      first
        | (refine seq_skipA (h := ?_))
        | (refine seq_calcA (h := ?_))
      try simp only [Act.put, List.setIfInBounds_toArray, List.set_cons_zero, List.set_cons_succ]
      first
        | (refine seq_skipA (h := ?_))
        | (refine seq_calcA (h := ?_))
      try simp only [Act.put, List.setIfInBounds_toArray, List.set_cons_zero, List.set_cons_succ]
      refine seq_calcA (h := ?_)
      try simp only [Act.put, List.setIfInBounds_toArray, List.set_cons_zero, List.set_cons_succ]
      refine seq_nil ?_
      go_wp2
      go_ret
      exact ⟨rfl, Below.undrew hb1⟩
end Go.Proofs.YtannohinhlefaaaGreatDoor

namespace Go.Proofs.YtannohinhlefaaaGreatDoor
open Go.RowKit Go.Proofs
attribute [local go_sem] neq_nilG eql_nilG
theorem wpList_append_own2' {P : Program} {w : World} {ops : Array Oper} {rest : List Oper} {o : Oper} {a : Act} {Q : Exit → Act → World → Prop} (hgd : o.guard = none) (s x : Operand) (t : TypeId)
    (ho : o.op = .call { callee := .builtin .append, args := #[s, x], argTypes := #[t, t] })
    (base : Nat) (e : TypeId) (i : TypeInfo) (z : Value) (size bytes : Nat) (ht : P.underlying t = some (.slice e)) (hi : P.info? e = some i) (hz : i.zero = some z)
    (hsize : i.size = size) (hby : i.bytes = bytes) (hzs : z.cells.size = size) (hsz : 0 < size)
    (v : Value) (n : Nat) (xs : List Value) (hs : a.eval s = v) (hown : w.ownsRow base e size v n xs)
    (ad : Addr) (m c : Nat) (news : List Value) (hx : a.eval x = .slice (some ad) m c) (hl : news.length = m * size) (hnews : ∀ j u, news[j]? = some u → w.cell? (ad.add j) = some u) (h1 : ∀ u ∈ news, u.oneCell' = true)
    (h63 : n + m ≤ maxLen) (hbytes : (n + m) * bytes ≤ 140737488355328) (hbase : base ≤ w.heap.size) (hm : 0 < m)
    (h : ∀ v' w', w'.ownsRow base e size v' (n + m) (xs ++ news) → w.grownBy w' v.ownBlock → (v'.ownBlock = v.ownBlock ∨ v'.ownBlock = some w.heap.size) → wpList P ops Q rest (a.put o.dst v') w') : wpList P ops Q (o :: rest) a w :=
  wpList_plain hgd fun _ hK => wp_append_own2 s x t ho base e i z size bytes ht hi hz hsize hby hzs hsz v n xs hs hown ad m c news hx hl hnews h1 h63 hbytes hbase hm fun v' w' h2 h3 h4 => hK _ _ (h v' w' h2 h3 h4)
theorem infoPD : (Tryz.prog.info? 30).map (fun i => (i.zero, i.size, i.bytes)) = some (some (.pointer none), 1, 8) := by kernel_rfl
def allB (p0 : PB) (pt : Nat → PB) : Nat → Nat
  | 0 => p0.B
  | j + 1 => (pt j).B
theorem slice_from1 (g n cap : Nat) (h : n + 1 ≤ cap) (h1 : 1 ≤ n) (w : World) : (Instr.slice 64 (.slice (some ⟨g, 0, none⟩) (n + 1) cap) (some (.int .i64 1)) none none).run Tryz.prog w = .ok (.slice (some ⟨g, 1, none⟩) n (cap - 1)) w := by
  have hsz := Tryz.sizeOf25 w
  have hb : (Instr.sliceBounds true (n + 1) cap (some (.int .i64 1)) none none).run Tryz.prog w = .ok (1, n + 1, cap) w := by
    have h2 : (1 : Int) ≤ ((n + 1 : Nat) : Int) := by omega
    simp [Instr.sliceBounds, go_sem, h2, h]
    intro h9; omega
  simp only [Instr.slice, Sem.run_bind, run_underlying Tryz.underlying64, Result.andThen, hb, hsz, Sem.run_pure]
  rw [if_neg (by omega), Nat.add_sub_cancel]
  rfl
theorem looks_le_n {T : TabS} (hT : TGood T) (key : Int) (h : Nat) : T.looks key h ≤ T.n := by
  have := (lookN_spec (fun j => T.stop key h (T.wk h j)) T.n 0).2.1
  unfold TabS.looks; omega
structure ML (wr : World) (c0 X i : Nat) (p0 : PB) (pt : Nat → PB) (g gn d : Nat) (va vt : Value) (cs : Array Value) (E : Nat → Addr) (w0 w : World) : Prop where
  m : MS wr p0 pt i (TabS.new g) (TabS.new g) (fun _ => TabS.new gn) (fun _ => TabS.new gn) 0 (fun _ => 0) E w0
  c : Blk wr c0 62 cs
  x : Blk wr X 117 #[.pointer (some ⟨p0.D, 0, none⟩), vt, .int .i64 (d : Int), .int .i64 0]
  ra : wr.ownsRow w.heap.size 25 1 va (i + 1) ((List.range (i + 1)).map (fun j => Value.pointer (some ⟨allB p0 pt j, 0, none⟩)))
  rt : wr.ownsRow w.heap.size 30 1 vt i ((List.range i).map (fun j => Value.pointer (some ⟨(pt j).D, 0, none⟩)))
  fr : ∀ b, MIn p0 pt i b → b ≠ c0 ∧ b ≠ X ∧ va.ownBlock ≠ some b ∧ vt.ownBlock ≠ some b ∧ b < wr.heap.size
  lo : w.heap.size ≤ c0 ∧ w.heap.size ≤ X ∧ c0 ≠ X
  b : Below w.heap.size w wr
theorem ML.later {wr w' : World} {c0 X i : Nat} {p0 : PB} {pt : Nat → PB} {g gn d : Nat} {va vt : Value} {cs : Array Value} {E : Nat → Addr} {w0 w : World} (h : ML wr c0 X i p0 pt g gn d va vt cs E w0 w) (hb : Below wr.heap.size wr w') : ML w' c0 X i p0 pt g gn d va vt cs E w0 w :=
  ⟨h.m.later hb, h.c.below hb h.c.lt, h.x.below hb h.x.lt, ownsRow_later h.ra hb, ownsRow_later h.rt hb, fun b hM => ⟨(h.fr b hM).1, (h.fr b hM).2.1, (h.fr b hM).2.2.1, (h.fr b hM).2.2.2.1, Nat.lt_of_lt_of_le (h.fr b hM).2.2.2.2 hb.size⟩, h.lo, h.b.trans (hb.mono h.b.size)⟩
theorem Chg.of_grown {w w' : World} {row : Option Nat} (hg : w.grownBy w' row) : Chg (fun b => row = some b) w w' := ⟨hg.os, hg.tape, hg.output, hg.size, fun k hk hx => hg.block k hk (fun e => hx e.symm)⟩
theorem ownsRow_grown {w w' : World} {base size n : Nat} {e : TypeId} {v : Value} {xs : List Value} {row : Option Nat} (h : w.ownsRow base e size v n xs) (hg : w.grownBy w' row) (hne : ∀ b, v.ownBlock = some b → row ≠ some b) : w'.ownsRow base e size v n xs := by
  refine ⟨h.1, ?_⟩
  rcases h.2 with h2 | ⟨g, cap, cur, rfl, hb, hh, hr⟩
  · exact .inl h2
  · exact .inr ⟨g, cap, cur, rfl, hb, (hg.block g (Array.getElem?_eq_some_iff.1 hh).1 (fun e => hne g rfl e.symm)).trans hh, hr⟩
theorem rows_ne {w : World} {base base' size size' n n' : Nat} {e e' : TypeId} {v v' : Value} {xs xs' : List Value} (h : w.ownsRow base e size v n xs) (h' : w.ownsRow base' e' size' v' n' xs') (hne : e ≠ e') : ∀ b, v'.ownBlock = some b → v.ownBlock ≠ some b := fun b hb => by
  rcases h'.2 with ⟨rfl, -⟩ | ⟨g, cap, cur, rfl, -, hg, -⟩
  · cases hb
  · obtain rfl : g = b := Option.some.inj hb
    exact row_ne_blk h (show Blk w g e' cur from hg) (fun e2 => hne e2.symm)
theorem ownsRow_chgB {X : Nat → Prop} {w w' : World} {base size n : Nat} {e : TypeId} {v : Value} {xs : List Value} (h : w.ownsRow base e size v n xs) (hc : Chg X w w') (hne : ∀ b, v.ownBlock = some b → ¬ X b) : w'.ownsRow base e size v n xs := by
  refine ⟨h.1, ?_⟩
  rcases h.2 with h2 | ⟨g, cap, cur, rfl, hb, hh, hr⟩
  · exact .inl h2
  · exact .inr ⟨g, cap, cur, rfl, hb, (hc.block g (Array.getElem?_eq_some_iff.1 hh).1 (hne g rfl)).trans hh, hr⟩
theorem allB_congr {p0 p : PB} {pt : Nat → PB} {i j : Nat} (h : j ≤ i) : allB p0 (fun j => if j = i then p else pt j) j = allB p0 pt j := by
  cases j with
  | zero => rfl
  | succ j => show (if j = i then p else pt j).B = (pt j).B; rw [if_neg (by omega)]
theorem PR.new {w w1 w2 w0 : World} {n B Q D P cap : Nat} {GB : Nat → Nat} {E : Nat → Addr} (hr : rightB (n : Int) = true) (he : EC w0 E [1, 2, 4, 5, 14, 16]) (hT : Tab64 w0) (hw : Below w0.heap.size w0 w) (ht : TW w1 B Q n (fun _ => rep 128) (fun _ _ => EntS.zero) 0 0) (hb1 : Below w.heap.size w w1) (hB : w.heap.size ≤ B) (hQ : w.heap.size ≤ Q)
    (hd : DT w2 w1.heap.size w2.heap.size D P cap GB (TabS.new n) 0) (hb2 : Below w1.heap.size w1 w2) : PR w2 ⟨w.heap.size, w1.heap.size, w2.heap.size, B, Q, D⟩ (TabS.new n) (TabS.new n) 0 E w0 := by
  have h := TMW.new (w0 := w0) hr he hT hw ht hb1 hB hQ
  exact ⟨h.later hb2, ⟨P, cap, GB, hd⟩, ⟨hB, h.ltB, hQ, h.ltQ⟩, ⟨hw.size, hb2.size⟩⟩
structure MM (wr : World) (c0 X k : Nat) (p0 : PB) (pt : Nat → PB) (T T2 : TabS) (U U2 : Nat → TabS) (L0 : Int) (Lc : Nat → Int) (d : Nat) (va vt : Value) (cs : Array Value) (E : Nat → Addr) (w0 w : World) : Prop where
  m : MS wr p0 pt k T T2 U U2 L0 Lc E w0
  c : Blk wr c0 62 cs
  x : Blk wr X 117 #[.pointer (some ⟨p0.D, 0, none⟩), vt, .int .i64 (d : Int), .int .i64 0]
  ra : wr.ownsRow w.heap.size 25 1 va (k + 1) ((List.range (k + 1)).map (fun j => Value.pointer (some ⟨allB p0 pt j, 0, none⟩)))
  rt : wr.ownsRow w.heap.size 30 1 vt k ((List.range k).map (fun j => Value.pointer (some ⟨(pt j).D, 0, none⟩)))
  fr : ∀ b, MIn p0 pt k b → b ≠ c0 ∧ b ≠ X ∧ va.ownBlock ≠ some b ∧ vt.ownBlock ≠ some b ∧ b < wr.heap.size
  lo : w.heap.size ≤ c0 ∧ w.heap.size ≤ X ∧ c0 ≠ X
  b : Below w.heap.size w wr
  mb : ∀ b, MIn p0 pt k b → w.heap.size ≤ b
section
variable {wr w' w w0 : World} {c0 X k d : Nat} {p0 : PB} {pt : Nat → PB} {T T2 T' T2' : TabS} {U U2 U' U2' : Nat → TabS} {L0 L0' : Int} {Lc Lc' : Nat → Int} {va vt : Value} {cs : Array Value} {E : Nat → Addr}
theorem MM.later (h : MM wr c0 X k p0 pt T T2 U U2 L0 Lc d va vt cs E w0 w) (hb : Below wr.heap.size wr w') : MM w' c0 X k p0 pt T T2 U U2 L0 Lc d va vt cs E w0 w :=
  ⟨h.m.later hb, h.c.below hb h.c.lt, h.x.below hb h.x.lt, ownsRow_later h.ra hb, ownsRow_later h.rt hb, fun b hM => ⟨(h.fr b hM).1, (h.fr b hM).2.1, (h.fr b hM).2.2.1, (h.fr b hM).2.2.2.1, Nat.lt_of_lt_of_le (h.fr b hM).2.2.2.2 hb.size⟩, h.lo, h.b.trans (hb.mono h.b.size), h.mb⟩
theorem MM.turn (h : MM wr c0 X k p0 pt T T2 U U2 L0 Lc d va vt cs E w0 w) (hm : MS w' p0 pt k T' T2' U' U2' L0' Lc' E w0) (hc : Chg (MIn p0 pt k) wr w') : MM w' c0 X k p0 pt T' T2' U' U2' L0' Lc' d va vt cs E w0 w :=
  ⟨hm, h.c.chg hc (fun e => (h.fr _ e).1 rfl), h.x.chg hc (fun e => (h.fr _ e).2.1 rfl), ownsRow_chgB h.ra hc (fun b hb e => (h.fr b e).2.2.1 hb), ownsRow_chgB h.rt hc (fun b hb e => (h.fr b e).2.2.2.1 hb),
    fun b hM => ⟨(h.fr b hM).1, (h.fr b hM).2.1, (h.fr b hM).2.2.1, (h.fr b hM).2.2.2.1, Nat.lt_of_lt_of_le (h.fr b hM).2.2.2.2 hc.size⟩, h.lo, h.b.trans (hc.below (n := w.heap.size) h.b.size (fun b hb e => by have := h.mb b e; omega)), h.mb⟩
theorem MM.old (h : MM wr c0 X k p0 pt T T2 U U2 L0 Lc d va vt cs E w0 w) (h1 : PR w' p0 T' T2' L0' E w0) (hc : Chg (fun b => p0.lo ≤ b ∧ b < p0.hi) wr w') : MM w' c0 X k p0 pt T' T2' U U2 L0' Lc d va vt cs E w0 w :=
  h.turn (h.m.old h1 hc) (hc.mono (fun b _ e => .inl e))
theorem MM.target {i : Nat} (hi : i < k) {T' T2' : TabS} {L' : Int} (h : MM wr c0 X k p0 pt T T2 U U2 L0 Lc d va vt cs E w0 w) (h1 : PR w' (pt i) T' T2' L' E w0) (hc : Chg (fun b => (pt i).lo ≤ b ∧ b < (pt i).hi) wr w') : MM w' c0 X k p0 pt T T2 (upd U i T') (upd U2 i T2') L0 (upd Lc i L') d va vt cs E w0 w :=
  h.turn (h.m.target hi h1 hc) (hc.mono (fun b _ e => .inr ⟨i, hi, e⟩))
theorem MM.vm {gt tcap : Nat} (h : MM wr c0 X k p0 pt T T2 U U2 L0 Lc d va (.slice (some ⟨gt, 0, none⟩) k tcap) cs E w0 w) (hk : k = 1 ∨ (k = 2 ∧ d ≤ 15)) : VM wr X p0.D gt tcap k (fun i => (pt i).D) d 0 := by
  obtain ⟨g, cap, cur, e, -, hg, hc⟩ := row_ptrs h.rt (by omega)
  cases e
  exact ⟨h.x, hc, hg.lt, hk⟩
end
theorem upd_upd {α : Type} (f : Nat → α) (i : Nat) (x y : α) : upd (upd f i x) i y = upd f i y := by
  funext j; unfold upd; split <;> rfl
set_option maxRecDepth 100000 in
set_option maxHeartbeats 16000000 in
theorem made_any (g gn d k : Nat) (two : Bool) (htwo : k = if two = true then 2 else 1) (hr : rightB (g : Int) = true) (hrn : rightB (gn : Int) = true) (hd : d ≤ 15) (b1 o1 n1 cap1 : Nat) (h1n : 1 ≤ n1) (h60 : n1 ≤ 60) (G : Nat → Nat) (a2 a3 : Option Addr) (n2 n3 cap2 cap3 : Nat) (h2n : n2 ≤ 60) (h3n : n3 ≤ 60) (f2 f3 : Nat → Int)
    (E : Nat → Addr) (w0 w : World) (he : EC w0 E [1, 2, 4, 5, 14, 16]) (hT : Tab64 w0) (hw : Below w0.heap.size w0 w)
    (hb1 : b1 < w0.heap.size) (hG : ∀ i, i < n1 → G i < 18446744073709551616) (hc1 : ∀ w', Below w0.heap.size w0 w' → ∀ i, i < n1 → w'.cell? ⟨b1, o1 + i, none⟩ = some (.int .u64 (G i : Int)))
    (hc2 : n2 ≠ 0 → ∃ b off, a2 = some ⟨b, off, none⟩ ∧ b < w0.heap.size ∧ ∀ w', Below w0.heap.size w0 w' → ∀ i, i < n2 → w'.cell? ⟨b, off + i, none⟩ = some (.int .i64 (f2 i)))
    (hc3 : n3 ≠ 0 → ∃ b off, a3 = some ⟨b, off, none⟩ ∧ b < w0.heap.size ∧ ∀ w', Below w0.heap.size w0 w' → ∀ i, i < n3 → w'.cell? ⟨b, off + i, none⟩ = some (.int .i64 (f3 i))) :
    Calls Tryz.prog 24 #[.agg (caseC g gn d two (.slice (some ⟨b1, o1, none⟩) n1 cap1) (.slice a2 n2 cap2) (.slice a3 n3 cap3))] w fun e w' => ∃ (V G5 cap5 X gt tcap ga acap c : Nat) (p0 : PB) (pt : Nat → PB) (T : TabS) (U : Nat → TabS), e = .returned (.tuple #[.pointer (some ⟨V, 0, none⟩), .slice (some ⟨ga, 0, none⟩) (k + 1) acap, .pointer (some ⟨X, 0, none⟩)]) ∧
      MM w' c X k p0 pt T T U U 0 (fun _ => 0) d (.slice (some ⟨ga, 0, none⟩) (k + 1) acap) (.slice (some ⟨gt, 0, none⟩) k tcap) (caseC g gn d two (.slice (some ⟨b1, o1, none⟩) n1 cap1) (.slice a2 n2 cap2) (.slice a3 n3 cap3)) E w0 w ∧ EW w' V p0.B G5 cap5 k (fun q => (pt q).B) d 0 ∧
      (∀ b, MIn p0 pt k b → b ≠ V ∧ b ≠ G5) ∧ (V ≠ X ∧ V ≠ ga ∧ V ≠ gt ∧ w.heap.size ≤ V ∧ w.heap.size ≤ G5 ∧ V ≠ G5 ∧ V ≠ c ∧ G5 ≠ X) ∧ EJ T U k d (hashH n1 G) g gn ((n2 : Int) + (n3 : Int)) n1 := by
  obtain ⟨iP, hiP, hzP0, hzP1, hzP2⟩ := info_parts infoPT
  obtain ⟨iD, hiD, hzD0, hzD1, hzD2⟩ := info_parts infoPD
  have NT := Lib.hid (fun (w' : World) => tnew_ok g hr w')
  have ND := Lib.hid (fun (w' : World) => dtnew_ok g hr w')
  have HR := Lib.hid hr
  have HRN := Lib.hid hrn
  have HEC := Lib.hid he
  have HT := Lib.hid hT
  have HW := Lib.hid hw
  have HHG := Lib.hid hG
  have HC1 := Lib.hid hc1
  have HC2 := Lib.hid hc2
  have HC3 := Lib.hid hc3
  have HHb := Lib.hid (show ∀ q, hashH n1 G q < 18446744073709551616 from hashH_lt h1n hG)
  obtain ⟨cs, hcs⟩ : ∃ cs, cs = caseC g gn d two (.slice (some ⟨b1, o1, none⟩) n1 cap1) (.slice a2 n2 cap2) (.slice a3 n3 cap3) := ⟨_, rfl⟩
  have HCS := Lib.hid hcs
  unfold caseC
  clear he hT hw hr hrn hcs hG hc1 hc2 hc3
  cases two with
  | true =>
    obtain rfl : k = 2 := by simpa using htwo
    clear htwo
    go_enter Tryz.func24, Tryz.ntmps24
    have hcc := case_cells (Blk.new w 62 (caseC g gn d true (.slice (some ⟨b1, o1, none⟩) n1 cap1) (.slice a2 n2 cap2) (.slice a3 n3 cap3)))
    unfold caseC at hcc
    obtain ⟨c0, c1, c2, c3, c4, c5, c6, zc⟩ := hcc
    go_wp2_with (first
      | (go_at_call 6; (with_reducible refine (NT.out _).mono ?_); rintro e w1 ⟨O, Q, rfl, hO, hQ, ht, hb1⟩; have T1 := Lib.hid ht; have B1 := Lib.hid hb1; have CB1 := Lib.hid (Blk.below (Blk.new w 62 (caseC g gn d true (.slice (some ⟨b1, o1, none⟩) n1 cap1) (.slice a2 n2 cap2) (.slice a3 n3 cap3))) hb1 (Blk.lt (Blk.new w _ _))); have cc1 := case_cells CB1.out; have c10 := cc1.1; have c11 := cc1.2.1; have c12 := cc1.2.2.1; have zc1 := CB1.out.lt; clear ht hb1 cc1)
      | (go_at_call 7; (with_reducible refine (ND.out _).mono ?_); rintro e w2 ⟨D0, P0, cap0, GB0, rfl, hdt, hb2⟩; have T2 := Lib.hid hdt; have B2 := Lib.hid hb2; have CB2 := Lib.hid (CB1.out.below hb2 CB1.out.lt); have cc2 := case_cells CB2.out; have c20 := cc2.1; have c21 := cc2.2.1; have c22 := cc2.2.2.1; have zc2 := CB2.out.lt; clear hdt hb2 cc2))
    refine wp_at (fun wL hwL => ?_)
    obtain ⟨c, hc⟩ : ∃ c, c = w.heap.size := ⟨_, rfl⟩
    obtain ⟨X, hX⟩ : ∃ X, X = w2.heap.size := ⟨_, rfl⟩
    have hzb := B1.out.size
    have hz2 := B2.out.size
    have hBL : Below w2.heap.size w2 wL := by rw [hwL]; go_grown
    have P0 := Lib.hid ((PR.new (w0 := w0) HR.out HEC.out HT.out (HW.out.alloc HW.out.size _) T1.out B1.out hO hQ T2.out B2.out).later hBL)
    have hbw : Below w.heap.size w wL := ((show Below w.heap.size w _ by go_grown).trans (B1.out.mono (by simp)) |>.trans (B2.out.mono (by simp at hzb; omega))).trans (hBL.mono (by simp at hzb; omega))
    have hcw : Blk wL c 62 cs := by rw [hc, HCS.out]; exact CB2.out.below hBL CB2.out.lt
    obtain ⟨p0, hpB, hpQ, hpD, hplo, hphi, hP0⟩ : ∃ p0 : PB, p0.B = O ∧ p0.Q = Q ∧ p0.D = D0 ∧ p0.lo = w.heap.size + 1 ∧ p0.hi = w2.heap.size ∧ PR wL p0 (TabS.new g) (TabS.new g) 0 E w0 := ⟨_, rfl, rfl, rfl, by simp, rfl, P0.out⟩
    have hX1 : wL.heap.size = w2.heap.size + 1 + 1 := by rw [hwL]; simp
    have hxw : Blk wL X 117 #[.pointer (some ⟨D0, 0, none⟩), .slice none 0 0, .int .i64 (d : Int), .int .i64 0] := by rw [hwL, hX]; exact (Blk.new _ _ _).alloc _
    have haw : Blk wL (X + 1) 25 #[.pointer (some ⟨O, 0, none⟩)] := by rw [hwL, hX]; exact Blk.new_at (by simp)
    subst hpB hpQ hpD
    have HLe : p0.lo ≤ p0.hi := by have := hP0.b; have := hP0.o; omega
    have D0' := Lib.hid (show ML wL c X 0 p0 (fun _ => p0) g gn d (.slice (some ⟨X + 1, 0, none⟩) 1 1) (.slice none 0 0) cs E w0 w from
      ⟨⟨hP0, fun i hi => by omega, fun i hi => by omega, fun i j _ hj => by omega⟩, hcw, hxw, ⟨rfl, .inr ⟨X + 1, 1, _, rfl, by simp at hzb; omega, haw, Nat.le_refl _, by decide, rfl, rfl⟩⟩, ⟨rfl, .inl ⟨rfl, rfl⟩⟩,
        fun b hb => by
          rcases hb with hb | ⟨i, hi, -⟩
          · exact ⟨by omega, by omega, fun e => by have := Option.some.inj e; simp at this; omega, fun e => (by cases e), by omega⟩
          · omega,
        by simp at hzb; omega, hbw⟩)
    simp only [← hc, ← hX]
    have HMB := Lib.hid (show ∀ (pt : Nat → PB), (∀ i, i < 2 → p0.hi ≤ (pt i).lo) → ∀ b, MIn p0 pt 2 b → w.heap.size ≤ b from fun pt hs b hb => by
      rcases hb with hb | ⟨i, hi, hb⟩
      · omega
      · have := hs i hi; omega)
    clear hP0 hxw haw hcw hbw P0 hX1 hBL hzb hz2 T1 B1 T2 B2 CB1 CB2 hc hX hO hQ NT ND HLe hplo hphi c0 c1 c2 c3 c4 c5 c6 zc c10 c11 c12 zc1 c20 c21 c22 zc2
    have NT := Lib.hid (fun (w' : World) => tnew_ok gn HRN.out w')
    have ND := Lib.hid (fun (w' : World) => dtnew_ok gn HRN.out w')
    go_loopw [48, 11] (fun v48 v11 wr => ∃ (i : Nat) (pt : Nat → PB) (vt : Value), i ≤ 2 ∧ v48 = .int .i64 (i : Int) ∧ ML wr c X i p0 pt g gn d v11 vt cs E w0 w) (fun v48 _ _ => 2 - (intOf v48).toNat)
    case atStart => exact ⟨0, _, _, Nat.zero_le _, rfl, D0'.out⟩
    case round =>
      clear D0'
      obtain ⟨i, pt, vt, hi, rfl, hL⟩ := hrel
      obtain ⟨aa, acap, rfl⟩ := ownsRow_slice hL.ra
      obtain ⟨ta, tcap, rfl⟩ := ownsRow_slice hL.rt
      have KL := Lib.hid hL
      have hcw := hL.c
      rw [HCS.out] at hcw
      obtain ⟨c0, c1, c2, c3, c4, c5, c6, zc⟩ := case_cells hcw
      clear hL
      by_cases hlt : i < 2
      · have hltI : (i : Int) < 2 := by omega
        have HCW := Lib.hid hcw
        clear hcw
        go_upto_region 15 with (first
          | (go_at_call 6; (with_reducible refine (NT.out _).mono ?_); rintro e w3 ⟨B, Q, rfl, hB, hQ, ht, hb3⟩; have T3 := Lib.hid ht; have B3 := Lib.hid hb3; have K3 := Lib.hid (KL.out.later hb3); have C3 := HCW.out.below hb3 HCW.out.lt; have cc3 := case_cells C3; have c31 := cc3.2.1; have zc3 := C3.lt; clear ht hb3 cc3)
          | (go_at_call 7; (with_reducible refine (ND.out _).mono ?_); rintro e w4 ⟨D, P1, cap1, GB1, rfl, hdt, hb4⟩; have T4 := Lib.hid hdt; have B4 := Lib.hid hb4; have K4 := Lib.hid (K3.out.later hb4); clear hdt hb4)
          | (at_builtin; refine wpList_append_own2' rfl _ _ 64 rfl w.heap.size 25 iP (.pointer none) 1 8 Tryz.underlying64 hiP hzP0 hzP1 hzP2 rfl (by decide) _ _ _ rfl (ownsRow_later K4.out.ra ((Below.refl _ _).alloc (Nat.le_refl _) _)) ⟨w4.heap.size, 0, none⟩ 1 1 [.pointer (some ⟨B, 0, none⟩)] rfl rfl (cell1_new w4 _ _) (by simp [Value.oneCell']) (by unfold maxLen; omega) (by omega) (by have := K4.out.b.size; simp; omega) (by decide) ?_; intro v' w5 hown5 hgrow5 hfr5; obtain ⟨ga, gcap, rfl⟩ := ownsRow_succ hown5; have R5 := Lib.hid hown5; have G5 := Lib.hid hgrow5; have F5 := Lib.hid hfr5; clear hown5 hgrow5 hfr5))
        have RA4 := Lib.hid (ownsRow_later K4.out.ra ((Below.refl w4.heap.size w4).alloc (Nat.le_refl _) (.cells #[.pointer (some ⟨B, 0, none⟩)] 25)))
        have RT4 := Lib.hid (ownsRow_later K4.out.rt ((Below.refl w4.heap.size w4).alloc (Nat.le_refl _) (.cells #[.pointer (some ⟨B, 0, none⟩)] 25)))
        have XA := Lib.hid (K4.out.x.alloc (.cells #[.pointer (some ⟨B, 0, none⟩)] 25))
        have N5 := Lib.hid (row_ne_blk RA4.out XA.out (by decide))
        have X5 := Lib.hid (Blk.grown XA.out G5.out N5.out)
        have RT5 := Lib.hid (ownsRow_grown RT4.out G5.out (rows_ne RA4.out RT4.out (by decide)))
        have x51 := X5.out.cell 1
        have zX5 := X5.out.lt
        have fX5 := fun j => X5.out.frozen j
        have hz5 : w4.heap.size + 1 ≤ w5.heap.size := by have := G5.out.size; simpa using this
        go_wp2_with (at_builtin; refine wpList_append_own2' rfl _ _ 115 rfl w.heap.size 30 iD (.pointer none) 1 8 Tryz.underlying115 hiD hzD0 hzD1 hzD2 rfl (by decide) _ _ _ rfl (ownsRow_later RT5.out ((Below.refl _ _).alloc (Nat.le_refl _) _)) ⟨w5.heap.size, 0, none⟩ 1 1 [.pointer (some ⟨D, 0, none⟩)] rfl rfl (cell1_new w5 _ _) (by simp [Value.oneCell']) (by unfold maxLen; omega) (by omega) (by have := K4.out.b.size; simp; omega) (by decide) ?_; intro v' w6 hown6 hgrow6 hfr6; obtain ⟨gt, gtcap, rfl⟩ := ownsRow_succ hown6; have R6 := Lib.hid hown6; have G6 := Lib.hid hgrow6; have F6 := Lib.hid hfr6; have N6 := Lib.hid (row_ne_blk (ownsRow_later RT5.out ((Below.refl w5.heap.size w5).alloc (Nat.le_refl _) (.cells #[.pointer (some ⟨D, 0, none⟩)] 30))) (X5.out.alloc (.cells #[.pointer (some ⟨D, 0, none⟩)] 30)) (by decide)); have X6 := Lib.hid (Blk.grown (X5.out.alloc _) G6.out N6.out); have x61 := X6.out.cell 1; have zX6 := X6.out.lt; have fX6 := fun j => X6.out.frozen j; clear hown6 hgrow6 hfr6)
        go_roundw
        case rel =>
          have hva : ∀ b, (Value.slice aa (i + 1) acap).ownBlock = some b → w.heap.size ≤ b ∧ b < wr.heap.size := fun b hb => KL.out.ra.lt b hb
          have hvt : ∀ b, (Value.slice ta i tcap).ownBlock = some b → w.heap.size ≤ b ∧ b < wr.heap.size := fun b hb => KL.out.rt.lt b hb
          have hcX : Chg (fun b => b = X) w6 (w6.setCell ⟨X, 1, none⟩ (.slice (some ⟨gt, 0, none⟩) (i + 1) gtcap)) := (Chg.refl _ _).set1 _ _
          have CH : Chg (fun b => (Value.slice aa (i + 1) acap).ownBlock = some b ∨ (Value.slice ta i tcap).ownBlock = some b ∨ b = X) w4 (w6.setCell ⟨X, 1, none⟩ (.slice (some ⟨gt, 0, none⟩) (i + 1) gtcap)) :=
            (((((Chg.refl _ w4).alloc _).trans ((Chg.of_grown G5.out).mono (fun _ _ e => .inl e))).alloc _).trans ((Chg.of_grown G6.out).mono (fun _ _ e => .inr (.inl e)))).trans (hcX.mono (fun _ _ e => .inr (.inr e)))
          have hXr := KL.out.x.lt
          have hcr := KL.out.c.lt
          have hlo := KL.out.lo
          have hz3 := B3.out.size
          have hz4 := B4.out.size
          have hww := HW.out.size
          have PN := PR.new (w0 := w0) HRN.out HEC.out HT.out (HW.out.trans (KL.out.b.mono hww)) T3.out B3.out hB hQ T4.out B4.out
          have hw0 : ∀ b, ((Value.slice aa (i + 1) acap).ownBlock = some b ∨ (Value.slice ta i tcap).ownBlock = some b ∨ b = X) → w0.heap.size ≤ b := fun b hb => by
            rcases hb with hb | hb | hb
            · have := (hva b hb).1; omega
            · have := (hvt b hb).1; omega
            · omega
          have PN2 := PN.chg CH (fun b h1 h2 hb => by
            simp only at h1 h2
            rcases hb with hb | hb | hb
            · have := (hva b hb).2; omega
            · have := (hvt b hb).2; omega
            · omega) hw0
          have M2 := K4.out.m.chg CH (fun b hM hb => by
            obtain ⟨f1, f2, f3, f4, -⟩ := KL.out.fr b hM
            rcases hb with hb | hb | hb
            · exact f3 hb
            · exact f4 hb
            · exact f2 hb) hw0
          refine ⟨i + 1, fun j => if j = i then ⟨wr.heap.size, w3.heap.size, w4.heap.size, B, Q, D⟩ else pt j, .slice (some ⟨gt, 0, none⟩) (i + 1) gtcap, by omega, by go_num, ⟨⟨M2.o, fun j hj => ?_, fun j hj => ?_, fun j j' hjj hj' => ?_⟩, ?_, X6.out.set 1 _, ?_, ?_, ?_, hlo, ?_⟩⟩
          · by_cases e : j = i
            · simp only [if_pos e]; exact PN2
            · simp only [if_neg e]; exact M2.t j (by omega)
          · by_cases e : j = i
            · simp only [if_pos e]; exact KL.out.m.o.d.hz
            · simp only [if_neg e]; exact M2.s0 j (by omega)
          · have e1 : j ≠ i := by omega
            simp only [if_neg e1]
            by_cases e : j' = i
            · simp only [if_pos e]; exact (KL.out.m.t j (by omega)).d.hz
            · simp only [if_neg e]; exact M2.s1 j j' hjj (by omega)
          · refine K4.out.c.chg CH ?_
            rintro (e | e | e)
            · exact row_ne_blk K4.out.ra K4.out.c (by decide) e
            · exact row_ne_blk K4.out.rt K4.out.c (by decide) e
            · exact hlo.2.2 e
          · have h1 := ownsRow_grown (ownsRow_later R5.out ((Below.refl w5.heap.size w5).alloc (Nat.le_refl _) (.cells #[.pointer (some ⟨D, 0, none⟩)] 30))) G6.out (rows_ne (ownsRow_later RT5.out ((Below.refl w5.heap.size w5).alloc (Nat.le_refl _) (.cells #[.pointer (some ⟨D, 0, none⟩)] 30))) (ownsRow_later R5.out ((Below.refl w5.heap.size w5).alloc (Nat.le_refl _) (.cells #[.pointer (some ⟨D, 0, none⟩)] 30))) (by decide))
            have h2 := ownsRow_chgB h1 hcX (fun b hb e => by subst e; exact row_ne_blk h1 X6.out (by decide) hb)
            rw [List.range_succ, List.map_append]
            rw [List.map_congr_left (g := fun j => Value.pointer (some ⟨allB p0 pt j, 0, none⟩)) (fun j hj => by rw [allB_congr (by have := List.mem_range.1 hj; omega)])]
            simpa [allB] using h2
          · have h2 := ownsRow_chgB R6.out hcX (fun b hb e => by subst e; exact row_ne_blk R6.out X6.out (by decide) hb)
            rw [List.range_succ, List.map_append]
            rw [List.map_congr_left (g := fun j => Value.pointer (some ⟨(pt j).D, 0, none⟩)) (fun j hj => by simp only [if_neg (show j ≠ i by have := List.mem_range.1 hj; omega)])]
            simpa using h2
          · intro b hM
            have hsz : w4.heap.size ≤ (w6.setCell ⟨X, 1, none⟩ (.slice (some ⟨gt, 0, none⟩) (i + 1) gtcap)).heap.size := CH.size
            have h5 := F5.out
            have h6 := F6.out
            simp only [World.size_alloc] at h5 h6
            have hcase : (b < wr.heap.size ∧ MIn p0 pt i b) ∨ (wr.heap.size ≤ b ∧ b < w4.heap.size) := by
              rcases hM with hM | ⟨j, hj, hM⟩
              · exact .inl ⟨(KL.out.fr b (.inl hM)).2.2.2.2, .inl hM⟩
              · by_cases e : j = i
                · simp only [if_pos e] at hM; exact .inr hM
                · simp only [if_neg e] at hM
                  exact .inl ⟨(KL.out.fr b (.inr ⟨j, by omega, hM⟩)).2.2.2.2, .inr ⟨j, by omega, hM⟩⟩
            rcases hcase with ⟨hb1, hMi⟩ | ⟨hb1, hb2⟩
            · obtain ⟨f1, f2, f3, f4, f5⟩ := KL.out.fr b hMi
              refine ⟨f1, f2, fun e => ?_, fun e => ?_, by omega⟩
              · rcases h5 with h5 | h5
                · rw [h5] at e; exact f3 e
                · rw [h5] at e; have := Option.some.inj e; omega
              · rcases h6 with h6 | h6
                · rw [h6] at e; exact f4 e
                · rw [h6] at e; have := Option.some.inj e; omega
            · refine ⟨by omega, by omega, fun e => ?_, fun e => ?_, by omega⟩
              · rcases h5 with h5 | h5
                · rw [h5] at e; have := (hva b e).2; omega
                · rw [h5] at e; have := Option.some.inj e; omega
              · rcases h6 with h6 | h6
                · rw [h6] at e; have := (hvt b e).2; omega
                · rw [h6] at e; have := Option.some.inj e; omega
          · exact K4.out.b.trans (CH.below (n := w.heap.size) (by have := K4.out.b.size; exact this) (fun b hb hx => by
              rcases hx with hx | hx | hx
              · have := (hva b hx).1; omega
              · have := (hvt b hx).1; omega
              · omega))
        case measure => simp [intOf]; omega
      · obtain rfl : i = 2 := by omega
        clear hcw c0 c1 c2 c3 c4 c5 c6 zc NT ND
        have hkd : 2 = 1 ∨ (2 = 2 ∧ d ≤ 15) := by omega
        have E0 := Lib.hid (EJ.new (H := hashH n1 G) (n := n1) hkd HR.out HRN.out)
        have M0 := Lib.hid (show MM wr c X 2 p0 pt (TabS.new g) (TabS.new g) (fun _ => TabS.new gn) (fun _ => TabS.new gn) 0 (fun _ => 0) d (.slice aa (2 + 1) acap) (.slice ta 2 tcap) cs E w0 w from
          ⟨KL.out.m, KL.out.c, KL.out.x, KL.out.ra, KL.out.rt, KL.out.fr, KL.out.lo, KL.out.b, HMB.out pt (fun i hi => KL.out.m.s0 i hi)⟩)
        have hcw := KL.out.c
        rw [HCS.out] at hcw
        obtain ⟨c0, c1, c2, c3, c4, c5, c6, zc⟩ := case_cells hcw
        clear KL hkd hcw
        have EN := Lib.hid (fun (q : Int) (w' : World) (hw' : Below w0.heap.size w0 w') => entry12_any (g : Int) (gn : Int) (d : Int) true (.slice a2 n2 cap2) (.slice a3 n3 cap3) b1 o1 n1 cap1 h1n (by omega) G q w' (Nat.lt_of_lt_of_le hb1 hw'.size) (HC1.out w' hw') rfl rfl)
        unfold caseC at EN
        go_wp2
        go_loopw [94] (fun v94 wr => ∃ (j : Nat) (T : TabS) (L0 : Int), j ≤ n2 ∧ v94 = .int .i64 (j : Int) ∧ 0 ≤ L0 ∧ L0 ≤ 64 * (j : Int) ∧ MM wr c X 2 p0 pt T T (fun _ => TabS.new gn) (fun _ => TabS.new gn) L0 (fun _ => 0) d (.slice aa (2 + 1) acap) (.slice ta 2 tcap) cs E w0 w ∧ EJ T (fun _ => TabS.new gn) 2 d (hashH n1 G) g gn (j : Int) n1) (fun v94 _ => n2 - (intOf v94).toNat)
        case atStart => exact ⟨0, _, 0, Nat.zero_le _, rfl, by omega, by omega, M0.out, E0.out⟩
        case round =>
          clear M0 E0 c0 c1 c2 c3 c4 c5 c6 zc
          obtain ⟨j, T, L0, hj, rfl, hL1, hL2, hM, hE⟩ := hrel
          have KM := Lib.hid hM
          have KE := Lib.hid hE
          have hcw := hM.c
          rw [HCS.out] at hcw
          obtain ⟨c0, c1, c2, c3, c4, c5, c6, zc⟩ := case_cells hcw
          clear hM hE hcw
          by_cases hlt : j < n2
          · obtain ⟨b, off, rfl, hbz, hcells⟩ := HC2.out (by omega)
            have hbw := HW.out.trans (KM.out.b.mono HW.out.size)
            have q0 := hcells _ hbw j hlt
            have hltI : (j : Int) < (n2 : Int) := by omega
            have zb := Nat.lt_of_lt_of_le hbz hbw.size
            generalize f2 j = q at *
            have hx := keyI_lt q n1 h1n
            have EQ := Lib.hid (EN.out q)
            generalize hxx : keyI q n1 = x at *
            have hGx := HHG.out x hx
            have HH := Lib.hid (hashH_in (G := G) hx)
            obtain ⟨h, hh⟩ : ∃ h, h = G x := ⟨_, rfl⟩
            rw [← hh] at EQ hGx HH
            have hkd : 2 = 1 ∨ (2 = 2 ∧ d ≤ 15) := by omega
            have HE' := Lib.hid (show EJ (T.putT (x : Int) ((x : Int) + 5) h) (fun _ => TabS.new gn) 2 d (hashH n1 G) g gn ((j : Int) + 1) n1 from by have := KE.out.putT hkd (fun i hi q => new_no HRN.out _ _) hx (HHb.out _); rw [HH.out] at this; exact this)
            have HLK := Lib.hid (looks_le_n KE.out.e.t.good (x : Int) h)
            have hTn := KE.out.e.tn
            have hgb := right_bd HR.out
            clear hcells hbz hxx hh hkd
            have PU := Lib.hid (fun (w' : World) (T2 : TabS) (h' : PR w' p0 T T2 L0 E w0) => PR.put h' (x : Int) ((x : Int) + 5) h hGx)
            have PV := Lib.hid (fun (w' : World) (T1 : TabS) (h' : PR w' p0 T1 T L0 E w0) => PR.put2 h' ⟨hL1, by omega⟩ (x : Int) ((x : Int) + 5) h hGx)
            generalize T.putT (x : Int) ((x : Int) + 5) h = T' at *
            generalize T.putB (x : Int) h = pb at *
            generalize T.putN (x : Int) h = pn at *
            go_wp2_with (first
              | (go_at_call 25; (with_reducible refine (EQ.out _ hbw).mono ?_); rintro e w5 ⟨rfl, hb5⟩; have M5 := Lib.hid (KM.out.later hb5); clear KM)
              | (go_at_call 31; (with_reducible refine (PU.out _ _ M5.out.m.o).mono ?_); rintro e w6 ⟨rfl, hp6, hc6⟩; have M6 := Lib.hid (M5.out.old hp6 hc6); have hc6' := M6.out.c; rw [HCS.out] at hc6'; have cc6 := case_cells hc6'; have c60 := cc6.1; have c61 := cc6.2.1; have c62 := cc6.2.2.1; have c63 := cc6.2.2.2.1; have c64 := cc6.2.2.2.2.1; have c65 := cc6.2.2.2.2.2.1; have c66 := cc6.2.2.2.2.2.2.1; have zc6 := cc6.2.2.2.2.2.2.2; have hbw6 := HW.out.trans (M6.out.b.mono HW.out.size); clear hp6 hc6 hc6' cc6 M5)
              | (go_at_call 25; (with_reducible refine (EQ.out _ hbw6).mono ?_); rintro e w7 ⟨rfl, hb7⟩; have M7 := Lib.hid (M6.out.later hb7); clear M6)
              | (go_at_call 39; (with_reducible refine (PV.out _ _ M7.out.m.o).mono ?_); rintro e w8 ⟨rfl, hp8, hc8⟩; have M8 := Lib.hid (M7.out.old hp8 hc8); clear hp8 hc8 M7))
            go_roundw
            case rel => exact ⟨j + 1, T', _, by omega, by go_num, by omega, by have := HLK.out; omega, M8.out, by have := HE'.out; rw [show ((j + 1 : Nat) : Int) = (j : Int) + 1 by omega]; exact this⟩
            case measure => simp [intOf]; omega
          · obtain rfl : j = n2 := by omega
            obtain ⟨ga, gcap, gcur, ega, hgab, hga, hgac⟩ := row_ptrs KM.out.ra (by omega)
            obtain ⟨e1, e2, e3⟩ := Value.slice.inj ega
            subst e1 e3
            obtain ⟨gt, gtcap, gtcur, egt, -, -, -⟩ := row_ptrs KM.out.rt (by omega)
            obtain ⟨e4, -, e5⟩ := Value.slice.inj egt
            subst e4 e5
            clear egt
            have hcapA : 2 + 1 ≤ acap := by
              rcases KM.out.ra.2 with ⟨e, -⟩ | ⟨g9, cap9, cur9, e, -, -, hle, -⟩
              · cases e
              · have := (Value.slice.inj e).2.2; omega
            have EV := Lib.hid (fun (w' : World) (h : PtrRow w' (some ⟨ga, 1, none⟩) 2 (fun i => some ⟨(pt i).B, 0, none⟩)) => evnew_ok p0.B d (some ⟨ga, 1, none⟩) 2 (acap - 1) (fun i => (pt i).B) (by omega) w' h)
            have PR1 := Lib.hid (show PtrRow wr.drew (some ⟨ga, 1, none⟩) 2 (fun i => some ⟨(pt i).B, 0, none⟩) from fun _ => ⟨ga, 1, rfl, hga.lt, fun i hi => by have := hgac (1 + i) (by omega); rw [show allB p0 pt (1 + i) = (pt i).B by rw [Nat.add_comm]; rfl] at this; exact this⟩)
            have hsl := fun w => slice_from1 ga 2 acap hcapA (by omega) w
            clear ega e2 hgac hga hgab
            go_upto_region 23 with (fail)
            refine wp_region_seq (fun _ => False) #[⟨0, 0, 20769187434139310514121985316880384, 64, 0⟩, ⟨0, 0, 41538374868278621028243970633760768, 2, 0⟩, ⟨2, 2, 83076749736557242056487941267521536, 41538374868278621028243970633760768, 1⟩, ⟨0, 0, 166153499473114484112975882535043072, 2048, 0⟩, ⟨8, 8, 332306998946228968225951765070086144, 166153499473114484112975882535043072, 0⟩, ⟨21, 31, 664613997892457936451903530140172288, 436152936116925520796561691654488064, 3⟩, ⟨32, 63, 10384593717069655257060992658440192, 664613997892457936451903530140172288, 0⟩, ⟨64, 127, 1329227995784915872903807060280344576, 10384593717069655257060992658440192, 0⟩, ⟨64, 127, 2658455991569831745807614120560689152, 10384593717069655257060992658440192, 0⟩, ⟨255, 255, 262144, 1329227995784915872903807060280344576, 0⟩, ⟨1023, 1023, 128, 2658455991569831745807614120560689152, 0⟩] 4 [(0, 0), (1, 0), (2, 1), (3, 0), (4, 0), (5, 3), (6, 0), (7, 0), (8, 0), (9, 0), (10, 0)] (by kernel_rfl) (by kernel_rfl) (by kernel_rfl) (by kernel_rfl) (by kernel_rfl) (by kernel_rfl) (fun c a d v w h => by cases d <;> exact h) ?_
            refine seq_calcA (h := ?_)
            try simp only [Act.put, List.setIfInBounds_toArray, List.set_cons_zero, List.set_cons_succ]
            refine seq_calcA (h := ?_)
            try simp only [Act.put, List.setIfInBounds_toArray, List.set_cons_zero, List.set_cons_succ]
            refine seq_load1A (hu := Tryz.underlying3) (h := ?_)
            try simp only [Act.put, List.setIfInBounds_toArray, List.set_cons_zero, List.set_cons_succ]
            refine seq_calcA (h := ?_)
            try simp only [Act.put, List.setIfInBounds_toArray, List.set_cons_zero, List.set_cons_succ]
            refine seq_calcA (h := ?_)
            try simp only [Act.put, List.setIfInBounds_toArray, List.set_cons_zero, List.set_cons_succ]
            refine seq_lastA (h := fun K hK => ?_); go_wp2_with (go_at_call 56; ((with_reducible refine (EV.out _ PR1.out).mono ?_); rintro e w5 ⟨V, G5, cap5, rfl, hV, hG5, hev, hVG, hb5⟩; have V5 := Lib.hid hev; have M5 := Lib.hid (KM.out.later (show Below wr.heap.size wr w5 from Below.undrew hb5)); have NVG := Lib.hid (show ∀ b, MIn p0 pt 2 b → b ≠ V ∧ b ≠ G5 from fun b hb => by have h1 := (KM.out.fr b hb).2.2.2.2; have h2 : wr.heap.size ≤ V := hV; have h3 : wr.heap.size ≤ G5 := hG5; omega); have NVX := Lib.hid (show V ≠ X ∧ V ≠ ga ∧ V ≠ gt ∧ w.heap.size ≤ V ∧ w.heap.size ≤ G5 ∧ V ≠ G5 ∧ V ≠ c ∧ G5 ≠ X from by have h2 : wr.heap.size ≤ V := hV; have h3 : wr.heap.size ≤ G5 := hG5; have h4 := KM.out.x.lt; have h5 := (KM.out.ra.lt ga rfl).2; have h6 := (KM.out.rt.lt gt rfl).2; have h7 := KM.out.b.size; have h8 := KM.out.c.lt; exact ⟨by omega, by omega, by omega, by omega, by omega, hVG, by omega, by omega⟩); clear hev)); refine hK.out _ _ ?_; clear hK K
            try simp only [Act.put, List.setIfInBounds_toArray, List.set_cons_zero, List.set_cons_succ]
            refine seq_calcA (h := ?_)
            try simp only [Act.put, List.setIfInBounds_toArray, List.set_cons_zero, List.set_cons_succ]
            refine seq_calcA (h := ?_)
            try simp only [Act.put, List.setIfInBounds_toArray, List.set_cons_zero, List.set_cons_succ]
            refine seq_calcA (h := ?_)
            try simp only [Act.put, List.setIfInBounds_toArray, List.set_cons_zero, List.set_cons_succ]
            refine seq_calcA (h := ?_)
            try simp only [Act.put, List.setIfInBounds_toArray, List.set_cons_zero, List.set_cons_succ]
            refine seq_calcA (h := ?_)
            try simp only [Act.put, List.setIfInBounds_toArray, List.set_cons_zero, List.set_cons_succ]
            refine seq_nil ?_
            have hcw5 := M5.out.c
            rw [HCS.out] at hcw5
            obtain ⟨c50, c51, c52, c53, c54, c55, c56, zc5⟩ := case_cells hcw5
            have hkd : 2 = 1 ∨ (2 = 2 ∧ d ≤ 15) := by omega
            clear KM c0 c1 c2 c3 c4 c5 c6 zc hcw5 hsl EV PR1
            go_wp2
            go_loopw [131] (fun v131 wr => ∃ (i : Nat) (U : Nat → TabS) (L0 : Int) (Lc : Nat → Int), i ≤ n3 ∧ v131 = .int .i64 (i : Int) ∧ 0 ≤ L0 ∧ L0 ≤ 64 * ((j : Int) + (i : Int)) ∧ (∀ q, q < 2 → 0 ≤ Lc q ∧ Lc q ≤ 64 * (i : Int)) ∧ MM wr c X 2 p0 pt T T U U L0 Lc d (.slice (some ⟨ga, 0, none⟩) (2 + 1) acap) (.slice (some ⟨gt, 0, none⟩) 2 tcap) cs E w0 w ∧ EW wr V p0.B G5 cap5 2 (fun q => (pt q).B) d 0 ∧ EJ T U 2 d (hashH n1 G) g gn ((j : Int) + (i : Int)) n1) (fun v131 _ => n3 - (intOf v131).toNat)
            case atStart => exact ⟨0, _, L0, _, Nat.zero_le _, rfl, hL1, by omega, fun q hq => by omega, M5.out, V5.out, by have := KE.out; simpa using this⟩
            case round =>
              clear M5 V5 c50 c51 c52 c53 c54 c55 c56 zc5 KE hL1 hL2 L0
              obtain ⟨i, U, L0, Lc, hile, rfl, hL1, hL2, hLc, hM, hEW, hE⟩ := hrel
              have KM := Lib.hid hM
              have KV := Lib.hid hEW
              have KE := Lib.hid hE
              have hcw := hM.c
              rw [HCS.out] at hcw
              obtain ⟨c0, c1, c2, c3, c4, c5, c6, zc⟩ := case_cells hcw
              clear hM hE hEW hcw
              by_cases hlt : i < n3
              · obtain ⟨b, off, rfl, hbz, hcells⟩ := HC3.out (by omega)
                have hbw := HW.out.trans (KM.out.b.mono HW.out.size)
                have q0 := hcells _ hbw i hlt
                have hltI : (i : Int) < (n3 : Int) := by omega
                have zb := Nat.lt_of_lt_of_le hbz hbw.size
                generalize f3 i = q at *
                have hx := keyI_lt q n1 h1n
                have EQ := Lib.hid (EN.out q)
                generalize hxx : keyI q n1 = x at *
                have hGx := HHG.out x hx
                have HH := Lib.hid (hashH_in (G := G) hx)
                obtain ⟨h, hh⟩ : ∃ h, h = G x := ⟨_, rfl⟩
                rw [← hh] at EQ hGx HH
                have HLK := Lib.hid (looks_le_n KE.out.e.t.good (x : Int) h)
                have hTn := KE.out.e.tn
                have hgb := right_bd HR.out
                have FI := Lib.hid (fun (w' : World) (h' : PR w' p0 T T L0 E w0) => PR.find2 h' ⟨hL1, by omega⟩ (x : Int) h hGx)
                obtain ⟨en, hen⟩ : ∃ en, en = T.ent (x : Int) h := ⟨_, rfl⟩
                simp only [← hen] at FI
                have hib := KM.out.fr
                have HFR := Lib.hid hib
                clear hcells hbz hxx hh hen hib
                cases hhas : T.has (x : Int) h with
                | true =>
                  rw [hhas] at FI
                  have HE2 := Lib.hid (show EJ T U 2 d (hashH n1 G) g gn ((j : Int) + ((i + 1 : Nat) : Int)) n1 from KE.out.more (by omega))
                  clear hhas
                  go_wp2_with (first
                    | (go_at_call 25; (with_reducible refine (EQ.out _ hbw).mono ?_); rintro e w5 ⟨rfl, hb5⟩; have M5 := Lib.hid ((KM.out.later hb5).later ((Below.refl w5.heap.size w5).alloc (Nat.le_refl _) (.cells #[.int .u64 (x : Int), .int .u64 ((x : Int) + 5), .int .u64 (h : Int)] 47))); have V5 := Lib.hid ((KV.out.later hb5).later ((Below.refl w5.heap.size w5).alloc (Nat.le_refl _) (.cells #[.int .u64 (x : Int), .int .u64 ((x : Int) + 5), .int .u64 (h : Int)] 47))))
                    | (go_at_call 42; (with_reducible refine (FI.out _ M5.out.m.o).mono ?_); rintro e w6 ⟨rfl, hp6, hc6⟩; have M6 := Lib.hid ((M5.out.old hp6 hc6).later ((Below.refl w6.heap.size w6).alloc (Nat.le_refl _) (.cells #[.int .u64 en.key, .int .u64 en.val, .int .u64 en.hash] 47))); have V6 := Lib.hid ((V5.out.chg hc6 (fun e => (NVG.out _ (.inl e)).1 rfl) (fun e => (NVG.out _ (.inl e)).2 rfl)).later ((Below.refl w6.heap.size w6).alloc (Nat.le_refl _) (.cells #[.int .u64 en.key, .int .u64 en.val, .int .u64 en.hash] 47)))))
                  go_roundw
                  case rel => exact ⟨i + 1, U, _, Lc, by omega, by go_num, by omega, by have := HLK.out; omega, fun q hq => by have := hLc q hq; omega, M6.out, V6.out, HE2.out⟩
                  case measure => simp [intOf]; omega
                | false =>
                  rw [hhas] at FI
                  have hkd' : 2 = 1 ∨ (2 = 2 ∧ d ≤ 15) := by omega
                  have hi' : tIx 2 d h < 2 := tIx_lt hkd'
                  have HE2 := Lib.hid (show EJ T (upd U (tIx 2 d h) ((U (tIx 2 d h)).putT (x : Int) ((x : Int) + 5) h)) 2 d (hashH n1 G) g gn ((j : Int) + ((i + 1 : Nat) : Int)) n1 from by
                    have h1 := KE.out.putU hkd' hx (HHb.out _) (by rw [HH.out]; exact hhas)
                    rw [HH.out] at h1
                    exact h1.more (by omega))
                  have TG := Lib.hid (fun (w' : World) (h' : EW w' V p0.B G5 cap5 2 (fun q => (pt q).B) d 0) => etarget_any V p0.B G5 cap5 2 (fun q => (pt q).B) d 0 h hGx w' h')
                  have TM := Lib.hid (fun (w' : World) (h' : VM w' X p0.D gt tcap 2 (fun q => (pt q).D) d 0) => rtarget_any X p0.D gt tcap 2 (fun q => (pt q).D) d 0 h hGx w' h')
                  have HLU := Lib.hid (looks_le_n (KE.out.e.u.f _ hi').good (x : Int) h)
                  have hUn := KE.out.e.u.n _ hi'
                  have hgnb := right_bd HRN.out
                  generalize tIx 2 d h = y at *
                  have hLy := hLc y hi'
                  have PU := Lib.hid (fun (w' : World) (T2 : TabS) (L' : Int) (h' : PR w' (pt y) (U y) T2 L' E w0) => PR.put h' (x : Int) ((x : Int) + 5) h hGx)
                  have PV := Lib.hid (fun (w' : World) (T1 : TabS) (h' : PR w' (pt y) T1 (U y) (Lc y) E w0) => PR.put2 h' ⟨hLy.1, by omega⟩ (x : Int) ((x : Int) + 5) h hGx)
                  clear hhas hkd'
                  go_upto_region 32 with (first
                    | (go_at_call 25; (with_reducible refine (EQ.out _ hbw).mono ?_); rintro e w5 ⟨rfl, hb5⟩; have M5 := Lib.hid ((KM.out.later hb5).later ((Below.refl w5.heap.size w5).alloc (Nat.le_refl _) (.cells #[.int .u64 (x : Int), .int .u64 ((x : Int) + 5), .int .u64 (h : Int)] 47))); have V5 := Lib.hid ((KV.out.later hb5).later ((Below.refl w5.heap.size w5).alloc (Nat.le_refl _) (.cells #[.int .u64 (x : Int), .int .u64 ((x : Int) + 5), .int .u64 (h : Int)] 47))); have hz5 := hb5.size)
                    | (go_at_call 42; (with_reducible refine (FI.out _ M5.out.m.o).mono ?_); rintro e w6 ⟨rfl, hp6, hc6⟩; have M6 := Lib.hid (M5.out.old hp6 hc6); have V6 := Lib.hid (V5.out.chg hc6 (fun e => (NVG.out _ (.inl e)).1 rfl) (fun e => (NVG.out _ (.inl e)).2 rfl)); have P6 := Lib.hid ((Blk.new w5 47 #[.int .u64 (x : Int), .int .u64 ((x : Int) + 5), .int .u64 (h : Int)]).chg hc6 (fun e => by have := (HFR.out _ (.inl e)).2.2.2.2; omega))))
                  refine wp_at (fun w7 hw7 => ?_)
                  have hb7 : Below w6.heap.size w6 w7 := by rw [hw7]; go_grown
                  have M7 := Lib.hid (M6.out.later hb7)
                  have V7 := Lib.hid (V6.out.later hb7)
                  have P7 := Lib.hid (P6.out.below hb7 P6.out.lt)
                  obtain ⟨p0', p1', p2'⟩ := cells3 P7.out
                  have zP7 := P7.out.lt
                  have hyz : ∀ b, (pt y).lo ≤ b → b < (pt y).hi → b < wr.heap.size := fun b h1 h2 => (HFR.out b (.inr ⟨y, hi', h1, h2⟩)).2.2.2.2
                  have hPy : ¬ ((pt y).lo ≤ w5.heap.size ∧ w5.heap.size < (pt y).hi) := fun e => by have := hyz _ e.1 e.2; omega
                  replace hw7 := Lib.hid hw7
                  clear M5 V5 M6 V6 P6 hb7 c0 c1 c2 c3 c4 c5 c6 zc
                  refine wp_region_seq (fun b => (pt y).lo ≤ b ∧ b < (pt y).hi) #[⟨0, 0, 1427247692705959881058285969449495136382746624, 262144, 0⟩, ⟨0, 0, 2854495385411919762116571938898990272765493248, 2097152, 0⟩, ⟨2, 2, 5708990770823839524233143877797980545530986496, 2854495385411919762116571938898990272765493248, 1⟩, ⟨5, 7, 11417981541647679048466287755595961091061972992, 7136238463529799405291429847247475681913733120, 2⟩, ⟨0, 0, 22835963083295358096932575511191922182123945984, 0, 0⟩, ⟨0, 0, 45671926166590716193865151022383844364247891968, 2097152, 1⟩, ⟨56, 63, 91343852333181432387730302044767688728495783936, 79925870791533753339264014289171727637433810944, 3⟩, ⟨64, 127, 713623846352979940529142984724747568191373312, 91343852333181432387730302044767688728495783936, 0⟩, ⟨128, 255, 182687704666362864775460604089535377456991567872, 713623846352979940529142984724747568191373312, 0⟩, ⟨128, 255, 365375409332725729550921208179070754913983135744, 713623846352979940529142984724747568191373312, 0⟩] 36 [(0, 0), (1, 0), (2, 1), (4, 0), (5, 1), (3, 2), (6, 3), (7, 0), (8, 0), (9, 0)] (by kernel_rfl) (by kernel_rfl) (by kernel_rfl) (by kernel_rfl) (by kernel_rfl) (by kernel_rfl) (fun c a d v w h => by cases d <;> exact h) ?_
                  refine seq_calcA (h := ?_)
                  try simp only [Act.put, List.setIfInBounds_toArray, List.set_cons_zero, List.set_cons_succ]
                  refine seq_calcA (h := ?_)
                  try simp only [Act.put, List.setIfInBounds_toArray, List.set_cons_zero, List.set_cons_succ]
                  refine seq_load1A (hu := Tryz.underlying45) (h := ?_)
                  try simp only [Act.put, List.setIfInBounds_toArray, List.set_cons_zero, List.set_cons_succ]
                  refine seq_calcA (h := ?_)
                  try simp only [Act.put, List.setIfInBounds_toArray, List.set_cons_zero, List.set_cons_succ]
                  refine seq_loadsA [_, _, _] (hu := Tryz.underlying47) (h := ?_)
                  try simp only [Act.put, List.setIfInBounds_toArray, List.set_cons_zero, List.set_cons_succ]
                  refine seq_doA (h := fun K hK => ?_); go_wp2_with (first | (go_at_call 27; ((with_reducible refine (TG.out _ (V7.out.later (Below.refl _ _).drew)).mono ?_); rintro e w8 ⟨rfl, hb8⟩; have M8 := Lib.hid ((M7.out.later (Below.refl _ _).drew).later hb8); have V8 := Lib.hid ((V7.out.later (Below.refl _ _).drew).later hb8); have P8 := Lib.hid (Blk.below (Blk.drew P7.out) hb8 P7.out.lt))) | (go_at_call 31; ((with_reducible refine (PU.out _ _ _ (M8.out.m.t y hi')).mono ?_); rintro e w9 ⟨rfl, hp9, hc9⟩; have M9 := Lib.hid (M8.out.target hi' hp9 hc9); have V9 := Lib.hid (V8.out.chg hc9 (fun e => (NVG.out _ (.inr ⟨y, hi', e⟩)).1 rfl) (fun e => (NVG.out _ (.inr ⟨y, hi', e⟩)).2 rfl)); have P9 := Lib.hid (P8.out.chg hc9 hPy)))); refine hkA hK (h := ?_); clear hK K
                  try simp only [Act.put, List.setIfInBounds_toArray, List.set_cons_zero, List.set_cons_succ]
                  refine seq_lastA (h := fun K hK => ?_); go_wp2_with (first | (go_at_call 27; ((with_reducible refine (TG.out _ (V7.out.later (Below.refl _ _).drew)).mono ?_); rintro e w8 ⟨rfl, hb8⟩; have M8 := Lib.hid ((M7.out.later (Below.refl _ _).drew).later hb8); have V8 := Lib.hid ((V7.out.later (Below.refl _ _).drew).later hb8); have P8 := Lib.hid (Blk.below (Blk.drew P7.out) hb8 P7.out.lt))) | (go_at_call 31; ((with_reducible refine (PU.out _ _ _ (M8.out.m.t y hi')).mono ?_); rintro e w9 ⟨rfl, hp9, hc9⟩; have M9 := Lib.hid (M8.out.target hi' hp9 hc9); have V9 := Lib.hid (V8.out.chg hc9 (fun e => (NVG.out _ (.inr ⟨y, hi', e⟩)).1 rfl) (fun e => (NVG.out _ (.inr ⟨y, hi', e⟩)).2 rfl)); have P9 := Lib.hid (P8.out.chg hc9 hPy)))); refine hK.out _ _ ?_; clear hK K
                  try simp only [Act.put, List.setIfInBounds_toArray, List.set_cons_zero, List.set_cons_succ]
                  refine seq_calcA (h := ?_)
                  try simp only [Act.put, List.setIfInBounds_toArray, List.set_cons_zero, List.set_cons_succ]
                  refine seq_calcA (h := ?_)
                  try simp only [Act.put, List.setIfInBounds_toArray, List.set_cons_zero, List.set_cons_succ]
                  refine seq_calcA (h := ?_)
                  try simp only [Act.put, List.setIfInBounds_toArray, List.set_cons_zero, List.set_cons_succ]
                  refine seq_nil ?_
                  obtain ⟨p90, p91, p92⟩ := cells3 P9.out
                  have zP9 := P9.out.lt
                  have M9' := M9.out
                  rw [upd_self, upd_self] at M9'
                  generalize (U y).putT (x : Int) ((x : Int) + 5) h = A at *
                  have M10 := Lib.hid M9'
                  clear M9' M7 M8 M9 V7 V8 P7 P8 p0' p1' p2' zP7 KM KV
                  go_upto_region 33 with (fail)
                  refine wp_region_seq (fun b => (pt y).lo ≤ b ∧ b < (pt y).hi) #[⟨0, 0, 730750818665451459101842416358141509827966271488, 1024, 0⟩, ⟨0, 0, 1461501637330902918203684832716283019655932542976, 2097152, 0⟩, ⟨2, 2, 2923003274661805836407369665432566039311865085952, 1461501637330902918203684832716283019655932542976, 1⟩, ⟨5, 7, 5846006549323611672814739330865132078623730171904, 3653754093327257295509212081790707549139831357440, 2⟩, ⟨0, 0, 11692013098647223345629478661730264157247460343808, 2097152, 1⟩, ⟨24, 31, 23384026197294446691258957323460528314494920687616, 17538019647970835018444217992595396235871190515712, 3⟩] 20 [(0, 0), (1, 0), (2, 1), (4, 1), (3, 2), (5, 3)] (by kernel_rfl) (by kernel_rfl) (by kernel_rfl) (by kernel_rfl) (by kernel_rfl) (by kernel_rfl) (fun c a d v w h => by cases d <;> exact h) ?_
                  refine seq_calcA (h := ?_)
                  try simp only [Act.put, List.setIfInBounds_toArray, List.set_cons_zero, List.set_cons_succ]
                  refine seq_calcA (h := ?_)
                  try simp only [Act.put, List.setIfInBounds_toArray, List.set_cons_zero, List.set_cons_succ]
                  refine seq_load1A (hu := Tryz.underlying45) (h := ?_)
                  try simp only [Act.put, List.setIfInBounds_toArray, List.set_cons_zero, List.set_cons_succ]
                  refine seq_loadsA [_, _, _] (hu := Tryz.underlying47) (h := ?_)
                  try simp only [Act.put, List.setIfInBounds_toArray, List.set_cons_zero, List.set_cons_succ]
                  refine seq_doA (h := fun K hK => ?_); go_wp2_with (first | (go_at_call 57; ((with_reducible refine (TM.out _ ((M10.out.later (Below.refl _ _).drew).vm (by omega))).mono ?_); rintro e w11 ⟨rfl, hb11⟩; have M11 := Lib.hid ((M10.out.later (Below.refl _ _).drew).later hb11); have V11 := Lib.hid ((V9.out.later (Below.refl _ _).drew).later hb11))) | (go_at_call 39; (have hp11 := M11.out.m.t y hi'; rw [upd_same] at hp11; (with_reducible refine (PV.out _ _ hp11).mono ?_); rintro e w12 ⟨rfl, hp12, hc12⟩; have M12 := Lib.hid (M11.out.target hi' hp12 hc12); have V12 := Lib.hid (V11.out.chg hc12 (fun e => (NVG.out _ (.inr ⟨y, hi', e⟩)).1 rfl) (fun e => (NVG.out _ (.inr ⟨y, hi', e⟩)).2 rfl))))); refine hkA hK (h := ?_); clear hK K
                  try simp only [Act.put, List.setIfInBounds_toArray, List.set_cons_zero, List.set_cons_succ]
                  refine seq_lastA (h := fun K hK => ?_); go_wp2_with (first | (go_at_call 57; ((with_reducible refine (TM.out _ ((M10.out.later (Below.refl _ _).drew).vm (by omega))).mono ?_); rintro e w11 ⟨rfl, hb11⟩; have M11 := Lib.hid ((M10.out.later (Below.refl _ _).drew).later hb11); have V11 := Lib.hid ((V9.out.later (Below.refl _ _).drew).later hb11))) | (go_at_call 39; (have hp11 := M11.out.m.t y hi'; rw [upd_same] at hp11; (with_reducible refine (PV.out _ _ hp11).mono ?_); rintro e w12 ⟨rfl, hp12, hc12⟩; have M12 := Lib.hid (M11.out.target hi' hp12 hc12); have V12 := Lib.hid (V11.out.chg hc12 (fun e => (NVG.out _ (.inr ⟨y, hi', e⟩)).1 rfl) (fun e => (NVG.out _ (.inr ⟨y, hi', e⟩)).2 rfl))))); refine hK.out _ _ ?_; clear hK K
                  try simp only [Act.put, List.setIfInBounds_toArray, List.set_cons_zero, List.set_cons_succ]
                  refine seq_nil ?_
                  have M13 := M12.out
                  rw [upd_upd] at M13
                  go_wp2
                  go_roundw
                  case rel => exact ⟨i + 1, upd U y A, _, upd Lc y _, by omega, by go_num, by omega, by have := HLK.out; omega, fun q hq => by
                    by_cases e : q = y
                    · subst e; rw [upd_same]; have := HLU.out; omega
                    · rw [upd_other _ _ e]; have := hLc q hq; omega, M13, V12.out, HE2.out⟩
                  case measure => simp [intOf]; omega
              · obtain rfl : i = n3 := by omega
                have zD0 := KM.out.m.o.d.lt
                obtain ⟨dc0, df0⟩ := KM.out.m.o.d.cells
                have hid0 := KM.out.m.o.d.id
                have hob := KM.out.m.o.o
                have hbb := KM.out.m.o.b
                have hib := KM.out.fr p0.D (.inl ⟨by omega, hid0.2⟩)
                obtain ⟨x0, x1, zX⟩ : wr.cell? ⟨X, 0, none⟩ = some (.pointer (some ⟨p0.D, 0, none⟩)) ∧ wr.cell? ⟨X, 1, none⟩ = some (.slice (some ⟨gt, 0, none⟩) 2 tcap) ∧ X < wr.heap.size := ⟨KM.out.x.cell 0, KM.out.x.cell 1, KM.out.x.lt⟩
                have hXD : X ≠ p0.D := fun e => hib.2.1 e.symm
                have hDX : p0.D ≠ X := hib.2.1
                have hC0 : Chg (fun b => p0.lo ≤ b ∧ b < p0.hi) wr (wr.setCell ⟨p0.D, 1, none⟩ (.int .i64 0)) := (Chg.refl _ _).setCell (.inl ⟨by show p0.lo ≤ p0.D; omega, hid0.2⟩) _
                have M1 := Lib.hid (KM.out.old (KM.out.m.o.looks 0) hC0)
                have V1 := Lib.hid (KV.out.chg hC0 (fun e => (NVG.out _ (.inl e)).1 rfl) (fun e => (NVG.out _ (.inl e)).2 rfl))
                clear KM hib hob hid0 hC0 c0 c1 c2 c3 c4 c5 c6 zc
                go_wp2
                go_loopw [174] (fun v174 wr => ∃ (q : Nat) (Lc : Nat → Int), q ≤ 2 ∧ v174 = .int .i64 (q : Int) ∧ (∀ r, r < q → Lc r = 0) ∧ MM wr c X 2 p0 pt T T U U 0 Lc d (.slice (some ⟨ga, 0, none⟩) (2 + 1) acap) (.slice (some ⟨gt, 0, none⟩) 2 tcap) cs E w0 w ∧ EW wr V p0.B G5 cap5 2 (fun q => (pt q).B) d 0) (fun v174 _ => 2 - (intOf v174).toNat)
                case atStart => exact ⟨0, Lc, Nat.zero_le _, rfl, fun r hr => by omega, M1.out, V1.out⟩
                case round =>
                  clear M1 V1 x0 x1 zX dc0 df0 zD0
                  obtain ⟨q, Lc', hq, rfl, hz, hM, hEW⟩ := hrel
                  have KM := Lib.hid hM
                  have KV := Lib.hid hEW
                  clear hM hEW
                  by_cases hlt : q < 2
                  · have hltI : (q : Int) < 2 := by omega
                    have vm := KM.out.vm (by omega)
                    have l0 := vm.l q hlt
                    have zgt := vm.lt
                    have zD := (KM.out.m.t q hlt).d.lt
                    obtain ⟨dc, df⟩ := (KM.out.m.t q hlt).d.cells
                    have hid := (KM.out.m.t q hlt).d.id
                    have hob := (KM.out.m.t q hlt).o
                    have hbb := (KM.out.m.t q hlt).b
                    have hC0 : Chg (fun b => (pt q).lo ≤ b ∧ b < (pt q).hi) wr (wr.setCell ⟨(pt q).D, 1, none⟩ (.int .i64 0)) := (Chg.refl _ _).setCell (.inl ⟨by show (pt q).lo ≤ (pt q).D; omega, hid.2⟩) _
                    have M1 := KM.out.target hlt ((KM.out.m.t q hlt).looks 0) hC0
                    rw [upd_self] at M1
                    have V1 := Lib.hid (KV.out.chg hC0 (fun e => (NVG.out _ (.inr ⟨q, hlt, e⟩)).1 rfl) (fun e => (NVG.out _ (.inr ⟨q, hlt, e⟩)).2 rfl))
                    have M2 := Lib.hid M1
                    clear vm hid hob hC0 M1
                    go_wp2
                    go_roundw
                    case rel => exact ⟨q + 1, upd Lc' q 0, by omega, by go_num, fun r hr => by
                      by_cases e : r = q
                      · subst e; exact upd_same _ _ _
                      · rw [upd_other _ _ e]; exact hz r (by omega), M2.out, V1.out⟩
                    case measure => simp [intOf]; omega
                  · obtain rfl : q = 2 := by omega
                    have hML := KM.out.m
                    have MF := Lib.hid (KM.out.turn (Lc' := fun _ => 0) (⟨hML.o, fun i hi => by have := hML.t i hi; rw [hz i hi] at this; exact this, hML.s0, hML.s1⟩ : MS wr p0 pt 2 T T U U 0 (fun _ => 0) E w0) (Chg.refl _ _))
                    clear KM hML
                    go_wp2
                    go_ret3
                    refine ⟨V, G5, cap5, X, gt, tcap, ga, acap, c, p0, pt, T, U, rfl, ?_, KV.out, NVG.out, NVX.out, KE.out⟩
                    have := MF.out
                    rw [HCS.out] at this
                    exact this
  | false =>
    obtain rfl : k = 1 := by simpa using htwo
    clear htwo
    go_enter Tryz.func24, Tryz.ntmps24
    have hcc := case_cells (Blk.new w 62 (caseC g gn d false (.slice (some ⟨b1, o1, none⟩) n1 cap1) (.slice a2 n2 cap2) (.slice a3 n3 cap3)))
    unfold caseC at hcc
    obtain ⟨c0, c1, c2, c3, c4, c5, c6, zc⟩ := hcc
    go_wp2_with (first
      | (go_at_call 6; (with_reducible refine (NT.out _).mono ?_); rintro e w1 ⟨O, Q, rfl, hO, hQ, ht, hb1⟩; have T1 := Lib.hid ht; have B1 := Lib.hid hb1; have CB1 := Lib.hid (Blk.below (Blk.new w 62 (caseC g gn d false (.slice (some ⟨b1, o1, none⟩) n1 cap1) (.slice a2 n2 cap2) (.slice a3 n3 cap3))) hb1 (Blk.lt (Blk.new w _ _))); have cc1 := case_cells CB1.out; have c10 := cc1.1; have c11 := cc1.2.1; have c12 := cc1.2.2.1; have zc1 := CB1.out.lt; clear ht hb1 cc1)
      | (go_at_call 7; (with_reducible refine (ND.out _).mono ?_); rintro e w2 ⟨D0, P0, cap0, GB0, rfl, hdt, hb2⟩; have T2 := Lib.hid hdt; have B2 := Lib.hid hb2; have CB2 := Lib.hid (CB1.out.below hb2 CB1.out.lt); have cc2 := case_cells CB2.out; have c20 := cc2.1; have c21 := cc2.2.1; have c22 := cc2.2.2.1; have zc2 := CB2.out.lt; clear hdt hb2 cc2))
    refine wp_at (fun wL hwL => ?_)
    obtain ⟨c, hc⟩ : ∃ c, c = w.heap.size := ⟨_, rfl⟩
    obtain ⟨X, hX⟩ : ∃ X, X = w2.heap.size := ⟨_, rfl⟩
    have hzb := B1.out.size
    have hz2 := B2.out.size
    have hBL : Below w2.heap.size w2 wL := by rw [hwL]; go_grown
    have P0 := Lib.hid ((PR.new (w0 := w0) HR.out HEC.out HT.out (HW.out.alloc HW.out.size _) T1.out B1.out hO hQ T2.out B2.out).later hBL)
    have hbw : Below w.heap.size w wL := ((show Below w.heap.size w _ by go_grown).trans (B1.out.mono (by simp)) |>.trans (B2.out.mono (by simp at hzb; omega))).trans (hBL.mono (by simp at hzb; omega))
    have hcw : Blk wL c 62 cs := by rw [hc, HCS.out]; exact CB2.out.below hBL CB2.out.lt
    obtain ⟨p0, hpB, hpQ, hpD, hplo, hphi, hP0⟩ : ∃ p0 : PB, p0.B = O ∧ p0.Q = Q ∧ p0.D = D0 ∧ p0.lo = w.heap.size + 1 ∧ p0.hi = w2.heap.size ∧ PR wL p0 (TabS.new g) (TabS.new g) 0 E w0 := ⟨_, rfl, rfl, rfl, by simp, rfl, P0.out⟩
    have hX1 : wL.heap.size = w2.heap.size + 1 + 1 := by rw [hwL]; simp
    have hxw : Blk wL X 117 #[.pointer (some ⟨D0, 0, none⟩), .slice none 0 0, .int .i64 (d : Int), .int .i64 0] := by rw [hwL, hX]; exact (Blk.new _ _ _).alloc _
    have haw : Blk wL (X + 1) 25 #[.pointer (some ⟨O, 0, none⟩)] := by rw [hwL, hX]; exact Blk.new_at (by simp)
    subst hpB hpQ hpD
    have HLe : p0.lo ≤ p0.hi := by have := hP0.b; have := hP0.o; omega
    have D0' := Lib.hid (show ML wL c X 0 p0 (fun _ => p0) g gn d (.slice (some ⟨X + 1, 0, none⟩) 1 1) (.slice none 0 0) cs E w0 w from
      ⟨⟨hP0, fun i hi => by omega, fun i hi => by omega, fun i j _ hj => by omega⟩, hcw, hxw, ⟨rfl, .inr ⟨X + 1, 1, _, rfl, by simp at hzb; omega, haw, Nat.le_refl _, by decide, rfl, rfl⟩⟩, ⟨rfl, .inl ⟨rfl, rfl⟩⟩,
        fun b hb => by
          rcases hb with hb | ⟨i, hi, -⟩
          · exact ⟨by omega, by omega, fun e => by have := Option.some.inj e; simp at this; omega, fun e => (by cases e), by omega⟩
          · omega,
        by simp at hzb; omega, hbw⟩)
    simp only [← hc, ← hX]
    have HMB := Lib.hid (show ∀ (pt : Nat → PB), (∀ i, i < 1 → p0.hi ≤ (pt i).lo) → ∀ b, MIn p0 pt 1 b → w.heap.size ≤ b from fun pt hs b hb => by
      rcases hb with hb | ⟨i, hi, hb⟩
      · omega
      · have := hs i hi; omega)
    clear hP0 hxw haw hcw hbw P0 hX1 hBL hzb hz2 T1 B1 T2 B2 CB1 CB2 hc hX hO hQ NT ND HLe hplo hphi c0 c1 c2 c3 c4 c5 c6 zc c10 c11 c12 zc1 c20 c21 c22 zc2
    have NT := Lib.hid (fun (w' : World) => tnew_ok gn HRN.out w')
    have ND := Lib.hid (fun (w' : World) => dtnew_ok gn HRN.out w')
    go_loopw [48, 11] (fun v48 v11 wr => ∃ (i : Nat) (pt : Nat → PB) (vt : Value), i ≤ 1 ∧ v48 = .int .i64 (i : Int) ∧ ML wr c X i p0 pt g gn d v11 vt cs E w0 w) (fun v48 _ _ => 1 - (intOf v48).toNat)
    case atStart => exact ⟨0, _, _, Nat.zero_le _, rfl, D0'.out⟩
    case round =>
      clear D0'
      obtain ⟨i, pt, vt, hi, rfl, hL⟩ := hrel
      obtain ⟨aa, acap, rfl⟩ := ownsRow_slice hL.ra
      obtain ⟨ta, tcap, rfl⟩ := ownsRow_slice hL.rt
      have KL := Lib.hid hL
      have hcw := hL.c
      rw [HCS.out] at hcw
      obtain ⟨c0, c1, c2, c3, c4, c5, c6, zc⟩ := case_cells hcw
      clear hL
      by_cases hlt : i < 1
      · have hltI : (i : Int) < 1 := by omega
        have HCW := Lib.hid hcw
        clear hcw
        go_upto_region 15 with (first
          | (go_at_call 6; (with_reducible refine (NT.out _).mono ?_); rintro e w3 ⟨B, Q, rfl, hB, hQ, ht, hb3⟩; have T3 := Lib.hid ht; have B3 := Lib.hid hb3; have K3 := Lib.hid (KL.out.later hb3); have C3 := HCW.out.below hb3 HCW.out.lt; have cc3 := case_cells C3; have c31 := cc3.2.1; have zc3 := C3.lt; clear ht hb3 cc3)
          | (go_at_call 7; (with_reducible refine (ND.out _).mono ?_); rintro e w4 ⟨D, P1, cap1, GB1, rfl, hdt, hb4⟩; have T4 := Lib.hid hdt; have B4 := Lib.hid hb4; have K4 := Lib.hid (K3.out.later hb4); clear hdt hb4)
          | (at_builtin; refine wpList_append_own2' rfl _ _ 64 rfl w.heap.size 25 iP (.pointer none) 1 8 Tryz.underlying64 hiP hzP0 hzP1 hzP2 rfl (by decide) _ _ _ rfl (ownsRow_later K4.out.ra ((Below.refl _ _).alloc (Nat.le_refl _) _)) ⟨w4.heap.size, 0, none⟩ 1 1 [.pointer (some ⟨B, 0, none⟩)] rfl rfl (cell1_new w4 _ _) (by simp [Value.oneCell']) (by unfold maxLen; omega) (by omega) (by have := K4.out.b.size; simp; omega) (by decide) ?_; intro v' w5 hown5 hgrow5 hfr5; obtain ⟨ga, gcap, rfl⟩ := ownsRow_succ hown5; have R5 := Lib.hid hown5; have G5 := Lib.hid hgrow5; have F5 := Lib.hid hfr5; clear hown5 hgrow5 hfr5))
        have RA4 := Lib.hid (ownsRow_later K4.out.ra ((Below.refl w4.heap.size w4).alloc (Nat.le_refl _) (.cells #[.pointer (some ⟨B, 0, none⟩)] 25)))
        have RT4 := Lib.hid (ownsRow_later K4.out.rt ((Below.refl w4.heap.size w4).alloc (Nat.le_refl _) (.cells #[.pointer (some ⟨B, 0, none⟩)] 25)))
        have XA := Lib.hid (K4.out.x.alloc (.cells #[.pointer (some ⟨B, 0, none⟩)] 25))
        have N5 := Lib.hid (row_ne_blk RA4.out XA.out (by decide))
        have X5 := Lib.hid (Blk.grown XA.out G5.out N5.out)
        have RT5 := Lib.hid (ownsRow_grown RT4.out G5.out (rows_ne RA4.out RT4.out (by decide)))
        have x51 := X5.out.cell 1
        have zX5 := X5.out.lt
        have fX5 := fun j => X5.out.frozen j
        have hz5 : w4.heap.size + 1 ≤ w5.heap.size := by have := G5.out.size; simpa using this
        go_wp2_with (at_builtin; refine wpList_append_own2' rfl _ _ 115 rfl w.heap.size 30 iD (.pointer none) 1 8 Tryz.underlying115 hiD hzD0 hzD1 hzD2 rfl (by decide) _ _ _ rfl (ownsRow_later RT5.out ((Below.refl _ _).alloc (Nat.le_refl _) _)) ⟨w5.heap.size, 0, none⟩ 1 1 [.pointer (some ⟨D, 0, none⟩)] rfl rfl (cell1_new w5 _ _) (by simp [Value.oneCell']) (by unfold maxLen; omega) (by omega) (by have := K4.out.b.size; simp; omega) (by decide) ?_; intro v' w6 hown6 hgrow6 hfr6; obtain ⟨gt, gtcap, rfl⟩ := ownsRow_succ hown6; have R6 := Lib.hid hown6; have G6 := Lib.hid hgrow6; have F6 := Lib.hid hfr6; have N6 := Lib.hid (row_ne_blk (ownsRow_later RT5.out ((Below.refl w5.heap.size w5).alloc (Nat.le_refl _) (.cells #[.pointer (some ⟨D, 0, none⟩)] 30))) (X5.out.alloc (.cells #[.pointer (some ⟨D, 0, none⟩)] 30)) (by decide)); have X6 := Lib.hid (Blk.grown (X5.out.alloc _) G6.out N6.out); have x61 := X6.out.cell 1; have zX6 := X6.out.lt; have fX6 := fun j => X6.out.frozen j; clear hown6 hgrow6 hfr6)
        go_roundw
        case rel =>
          have hva : ∀ b, (Value.slice aa (i + 1) acap).ownBlock = some b → w.heap.size ≤ b ∧ b < wr.heap.size := fun b hb => KL.out.ra.lt b hb
          have hvt : ∀ b, (Value.slice ta i tcap).ownBlock = some b → w.heap.size ≤ b ∧ b < wr.heap.size := fun b hb => KL.out.rt.lt b hb
          have hcX : Chg (fun b => b = X) w6 (w6.setCell ⟨X, 1, none⟩ (.slice (some ⟨gt, 0, none⟩) (i + 1) gtcap)) := (Chg.refl _ _).set1 _ _
          have CH : Chg (fun b => (Value.slice aa (i + 1) acap).ownBlock = some b ∨ (Value.slice ta i tcap).ownBlock = some b ∨ b = X) w4 (w6.setCell ⟨X, 1, none⟩ (.slice (some ⟨gt, 0, none⟩) (i + 1) gtcap)) :=
            (((((Chg.refl _ w4).alloc _).trans ((Chg.of_grown G5.out).mono (fun _ _ e => .inl e))).alloc _).trans ((Chg.of_grown G6.out).mono (fun _ _ e => .inr (.inl e)))).trans (hcX.mono (fun _ _ e => .inr (.inr e)))
          have hXr := KL.out.x.lt
          have hcr := KL.out.c.lt
          have hlo := KL.out.lo
          have hz3 := B3.out.size
          have hz4 := B4.out.size
          have hww := HW.out.size
          have PN := PR.new (w0 := w0) HRN.out HEC.out HT.out (HW.out.trans (KL.out.b.mono hww)) T3.out B3.out hB hQ T4.out B4.out
          have hw0 : ∀ b, ((Value.slice aa (i + 1) acap).ownBlock = some b ∨ (Value.slice ta i tcap).ownBlock = some b ∨ b = X) → w0.heap.size ≤ b := fun b hb => by
            rcases hb with hb | hb | hb
            · have := (hva b hb).1; omega
            · have := (hvt b hb).1; omega
            · omega
          have PN2 := PN.chg CH (fun b h1 h2 hb => by
            simp only at h1 h2
            rcases hb with hb | hb | hb
            · have := (hva b hb).2; omega
            · have := (hvt b hb).2; omega
            · omega) hw0
          have M2 := K4.out.m.chg CH (fun b hM hb => by
            obtain ⟨f1, f2, f3, f4, -⟩ := KL.out.fr b hM
            rcases hb with hb | hb | hb
            · exact f3 hb
            · exact f4 hb
            · exact f2 hb) hw0
          refine ⟨i + 1, fun j => if j = i then ⟨wr.heap.size, w3.heap.size, w4.heap.size, B, Q, D⟩ else pt j, .slice (some ⟨gt, 0, none⟩) (i + 1) gtcap, by omega, by go_num, ⟨⟨M2.o, fun j hj => ?_, fun j hj => ?_, fun j j' hjj hj' => ?_⟩, ?_, X6.out.set 1 _, ?_, ?_, ?_, hlo, ?_⟩⟩
          · by_cases e : j = i
            · simp only [if_pos e]; exact PN2
            · simp only [if_neg e]; exact M2.t j (by omega)
          · by_cases e : j = i
            · simp only [if_pos e]; exact KL.out.m.o.d.hz
            · simp only [if_neg e]; exact M2.s0 j (by omega)
          · have e1 : j ≠ i := by omega
            simp only [if_neg e1]
            by_cases e : j' = i
            · simp only [if_pos e]; exact (KL.out.m.t j (by omega)).d.hz
            · simp only [if_neg e]; exact M2.s1 j j' hjj (by omega)
          · refine K4.out.c.chg CH ?_
            rintro (e | e | e)
            · exact row_ne_blk K4.out.ra K4.out.c (by decide) e
            · exact row_ne_blk K4.out.rt K4.out.c (by decide) e
            · exact hlo.2.2 e
          · have h1 := ownsRow_grown (ownsRow_later R5.out ((Below.refl w5.heap.size w5).alloc (Nat.le_refl _) (.cells #[.pointer (some ⟨D, 0, none⟩)] 30))) G6.out (rows_ne (ownsRow_later RT5.out ((Below.refl w5.heap.size w5).alloc (Nat.le_refl _) (.cells #[.pointer (some ⟨D, 0, none⟩)] 30))) (ownsRow_later R5.out ((Below.refl w5.heap.size w5).alloc (Nat.le_refl _) (.cells #[.pointer (some ⟨D, 0, none⟩)] 30))) (by decide))
            have h2 := ownsRow_chgB h1 hcX (fun b hb e => by subst e; exact row_ne_blk h1 X6.out (by decide) hb)
            rw [List.range_succ, List.map_append]
            rw [List.map_congr_left (g := fun j => Value.pointer (some ⟨allB p0 pt j, 0, none⟩)) (fun j hj => by rw [allB_congr (by have := List.mem_range.1 hj; omega)])]
            simpa [allB] using h2
          · have h2 := ownsRow_chgB R6.out hcX (fun b hb e => by subst e; exact row_ne_blk R6.out X6.out (by decide) hb)
            rw [List.range_succ, List.map_append]
            rw [List.map_congr_left (g := fun j => Value.pointer (some ⟨(pt j).D, 0, none⟩)) (fun j hj => by simp only [if_neg (show j ≠ i by have := List.mem_range.1 hj; omega)])]
            simpa using h2
          · intro b hM
            have hsz : w4.heap.size ≤ (w6.setCell ⟨X, 1, none⟩ (.slice (some ⟨gt, 0, none⟩) (i + 1) gtcap)).heap.size := CH.size
            have h5 := F5.out
            have h6 := F6.out
            simp only [World.size_alloc] at h5 h6
            have hcase : (b < wr.heap.size ∧ MIn p0 pt i b) ∨ (wr.heap.size ≤ b ∧ b < w4.heap.size) := by
              rcases hM with hM | ⟨j, hj, hM⟩
              · exact .inl ⟨(KL.out.fr b (.inl hM)).2.2.2.2, .inl hM⟩
              · by_cases e : j = i
                · simp only [if_pos e] at hM; exact .inr hM
                · simp only [if_neg e] at hM
                  exact .inl ⟨(KL.out.fr b (.inr ⟨j, by omega, hM⟩)).2.2.2.2, .inr ⟨j, by omega, hM⟩⟩
            rcases hcase with ⟨hb1, hMi⟩ | ⟨hb1, hb2⟩
            · obtain ⟨f1, f2, f3, f4, f5⟩ := KL.out.fr b hMi
              refine ⟨f1, f2, fun e => ?_, fun e => ?_, by omega⟩
              · rcases h5 with h5 | h5
                · rw [h5] at e; exact f3 e
                · rw [h5] at e; have := Option.some.inj e; omega
              · rcases h6 with h6 | h6
                · rw [h6] at e; exact f4 e
                · rw [h6] at e; have := Option.some.inj e; omega
            · refine ⟨by omega, by omega, fun e => ?_, fun e => ?_, by omega⟩
              · rcases h5 with h5 | h5
                · rw [h5] at e; have := (hva b e).2; omega
                · rw [h5] at e; have := Option.some.inj e; omega
              · rcases h6 with h6 | h6
                · rw [h6] at e; have := (hvt b e).2; omega
                · rw [h6] at e; have := Option.some.inj e; omega
          · exact K4.out.b.trans (CH.below (n := w.heap.size) (by have := K4.out.b.size; exact this) (fun b hb hx => by
              rcases hx with hx | hx | hx
              · have := (hva b hx).1; omega
              · have := (hvt b hx).1; omega
              · omega))
        case measure => simp [intOf]; omega
      · obtain rfl : i = 1 := by omega
        clear hcw c0 c1 c2 c3 c4 c5 c6 zc NT ND
        have hkd : 1 = 1 ∨ (1 = 2 ∧ d ≤ 15) := by omega
        have E0 := Lib.hid (EJ.new (H := hashH n1 G) (n := n1) hkd HR.out HRN.out)
        have M0 := Lib.hid (show MM wr c X 1 p0 pt (TabS.new g) (TabS.new g) (fun _ => TabS.new gn) (fun _ => TabS.new gn) 0 (fun _ => 0) d (.slice aa (1 + 1) acap) (.slice ta 1 tcap) cs E w0 w from
          ⟨KL.out.m, KL.out.c, KL.out.x, KL.out.ra, KL.out.rt, KL.out.fr, KL.out.lo, KL.out.b, HMB.out pt (fun i hi => KL.out.m.s0 i hi)⟩)
        have hcw := KL.out.c
        rw [HCS.out] at hcw
        obtain ⟨c0, c1, c2, c3, c4, c5, c6, zc⟩ := case_cells hcw
        clear KL hkd hcw
        have EN := Lib.hid (fun (q : Int) (w' : World) (hw' : Below w0.heap.size w0 w') => entry12_any (g : Int) (gn : Int) (d : Int) false (.slice a2 n2 cap2) (.slice a3 n3 cap3) b1 o1 n1 cap1 h1n (by omega) G q w' (Nat.lt_of_lt_of_le hb1 hw'.size) (HC1.out w' hw') rfl rfl)
        unfold caseC at EN
        go_wp2
        go_loopw [94] (fun v94 wr => ∃ (j : Nat) (T : TabS) (L0 : Int), j ≤ n2 ∧ v94 = .int .i64 (j : Int) ∧ 0 ≤ L0 ∧ L0 ≤ 64 * (j : Int) ∧ MM wr c X 1 p0 pt T T (fun _ => TabS.new gn) (fun _ => TabS.new gn) L0 (fun _ => 0) d (.slice aa (1 + 1) acap) (.slice ta 1 tcap) cs E w0 w ∧ EJ T (fun _ => TabS.new gn) 1 d (hashH n1 G) g gn (j : Int) n1) (fun v94 _ => n2 - (intOf v94).toNat)
        case atStart => exact ⟨0, _, 0, Nat.zero_le _, rfl, by omega, by omega, M0.out, E0.out⟩
        case round =>
          clear M0 E0 c0 c1 c2 c3 c4 c5 c6 zc
          obtain ⟨j, T, L0, hj, rfl, hL1, hL2, hM, hE⟩ := hrel
          have KM := Lib.hid hM
          have KE := Lib.hid hE
          have hcw := hM.c
          rw [HCS.out] at hcw
          obtain ⟨c0, c1, c2, c3, c4, c5, c6, zc⟩ := case_cells hcw
          clear hM hE hcw
          by_cases hlt : j < n2
          · obtain ⟨b, off, rfl, hbz, hcells⟩ := HC2.out (by omega)
            have hbw := HW.out.trans (KM.out.b.mono HW.out.size)
            have q0 := hcells _ hbw j hlt
            have hltI : (j : Int) < (n2 : Int) := by omega
            have zb := Nat.lt_of_lt_of_le hbz hbw.size
            generalize f2 j = q at *
            have hx := keyI_lt q n1 h1n
            have EQ := Lib.hid (EN.out q)
            generalize hxx : keyI q n1 = x at *
            have hGx := HHG.out x hx
            have HH := Lib.hid (hashH_in (G := G) hx)
            obtain ⟨h, hh⟩ : ∃ h, h = G x := ⟨_, rfl⟩
            rw [← hh] at EQ hGx HH
            have hkd : 1 = 1 ∨ (1 = 2 ∧ d ≤ 15) := by omega
            have HE' := Lib.hid (show EJ (T.putT (x : Int) ((x : Int) + 5) h) (fun _ => TabS.new gn) 1 d (hashH n1 G) g gn ((j : Int) + 1) n1 from by have := KE.out.putT hkd (fun i hi q => new_no HRN.out _ _) hx (HHb.out _); rw [HH.out] at this; exact this)
            have HLK := Lib.hid (looks_le_n KE.out.e.t.good (x : Int) h)
            have hTn := KE.out.e.tn
            have hgb := right_bd HR.out
            clear hcells hbz hxx hh hkd
            have PU := Lib.hid (fun (w' : World) (T2 : TabS) (h' : PR w' p0 T T2 L0 E w0) => PR.put h' (x : Int) ((x : Int) + 5) h hGx)
            have PV := Lib.hid (fun (w' : World) (T1 : TabS) (h' : PR w' p0 T1 T L0 E w0) => PR.put2 h' ⟨hL1, by omega⟩ (x : Int) ((x : Int) + 5) h hGx)
            generalize T.putT (x : Int) ((x : Int) + 5) h = T' at *
            generalize T.putB (x : Int) h = pb at *
            generalize T.putN (x : Int) h = pn at *
            go_wp2_with (first
              | (go_at_call 25; (with_reducible refine (EQ.out _ hbw).mono ?_); rintro e w5 ⟨rfl, hb5⟩; have M5 := Lib.hid (KM.out.later hb5); clear KM)
              | (go_at_call 31; (with_reducible refine (PU.out _ _ M5.out.m.o).mono ?_); rintro e w6 ⟨rfl, hp6, hc6⟩; have M6 := Lib.hid (M5.out.old hp6 hc6); have hc6' := M6.out.c; rw [HCS.out] at hc6'; have cc6 := case_cells hc6'; have c60 := cc6.1; have c61 := cc6.2.1; have c62 := cc6.2.2.1; have c63 := cc6.2.2.2.1; have c64 := cc6.2.2.2.2.1; have c65 := cc6.2.2.2.2.2.1; have c66 := cc6.2.2.2.2.2.2.1; have zc6 := cc6.2.2.2.2.2.2.2; have hbw6 := HW.out.trans (M6.out.b.mono HW.out.size); clear hp6 hc6 hc6' cc6 M5)
              | (go_at_call 25; (with_reducible refine (EQ.out _ hbw6).mono ?_); rintro e w7 ⟨rfl, hb7⟩; have M7 := Lib.hid (M6.out.later hb7); clear M6)
              | (go_at_call 39; (with_reducible refine (PV.out _ _ M7.out.m.o).mono ?_); rintro e w8 ⟨rfl, hp8, hc8⟩; have M8 := Lib.hid (M7.out.old hp8 hc8); clear hp8 hc8 M7))
            go_roundw
            case rel => exact ⟨j + 1, T', _, by omega, by go_num, by omega, by have := HLK.out; omega, M8.out, by have := HE'.out; rw [show ((j + 1 : Nat) : Int) = (j : Int) + 1 by omega]; exact this⟩
            case measure => simp [intOf]; omega
          · obtain rfl : j = n2 := by omega
            obtain ⟨ga, gcap, gcur, ega, hgab, hga, hgac⟩ := row_ptrs KM.out.ra (by omega)
            obtain ⟨e1, e2, e3⟩ := Value.slice.inj ega
            subst e1 e3
            obtain ⟨gt, gtcap, gtcur, egt, -, -, -⟩ := row_ptrs KM.out.rt (by omega)
            obtain ⟨e4, -, e5⟩ := Value.slice.inj egt
            subst e4 e5
            clear egt
            have hcapA : 1 + 1 ≤ acap := by
              rcases KM.out.ra.2 with ⟨e, -⟩ | ⟨g9, cap9, cur9, e, -, -, hle, -⟩
              · cases e
              · have := (Value.slice.inj e).2.2; omega
            have EV := Lib.hid (fun (w' : World) (h : PtrRow w' (some ⟨ga, 1, none⟩) 1 (fun i => some ⟨(pt i).B, 0, none⟩)) => evnew_ok p0.B d (some ⟨ga, 1, none⟩) 1 (acap - 1) (fun i => (pt i).B) (by omega) w' h)
            have PR1 := Lib.hid (show PtrRow wr.drew (some ⟨ga, 1, none⟩) 1 (fun i => some ⟨(pt i).B, 0, none⟩) from fun _ => ⟨ga, 1, rfl, hga.lt, fun i hi => by have := hgac (1 + i) (by omega); rw [show allB p0 pt (1 + i) = (pt i).B by rw [Nat.add_comm]; rfl] at this; exact this⟩)
            have hsl := fun w => slice_from1 ga 1 acap hcapA (by omega) w
            clear ega e2 hgac hga hgab
            go_upto_region 23 with (fail)
            refine wp_region_seq (fun _ => False) #[⟨0, 0, 20769187434139310514121985316880384, 64, 0⟩, ⟨0, 0, 41538374868278621028243970633760768, 2, 0⟩, ⟨2, 2, 83076749736557242056487941267521536, 41538374868278621028243970633760768, 1⟩, ⟨0, 0, 166153499473114484112975882535043072, 2048, 0⟩, ⟨8, 8, 332306998946228968225951765070086144, 166153499473114484112975882535043072, 0⟩, ⟨21, 31, 664613997892457936451903530140172288, 436152936116925520796561691654488064, 3⟩, ⟨32, 63, 10384593717069655257060992658440192, 664613997892457936451903530140172288, 0⟩, ⟨64, 127, 1329227995784915872903807060280344576, 10384593717069655257060992658440192, 0⟩, ⟨64, 127, 2658455991569831745807614120560689152, 10384593717069655257060992658440192, 0⟩, ⟨255, 255, 262144, 1329227995784915872903807060280344576, 0⟩, ⟨1023, 1023, 128, 2658455991569831745807614120560689152, 0⟩] 4 [(0, 0), (1, 0), (2, 1), (3, 0), (4, 0), (5, 3), (6, 0), (7, 0), (8, 0), (9, 0), (10, 0)] (by kernel_rfl) (by kernel_rfl) (by kernel_rfl) (by kernel_rfl) (by kernel_rfl) (by kernel_rfl) (fun c a d v w h => by cases d <;> exact h) ?_
            refine seq_calcA (h := ?_)
            try simp only [Act.put, List.setIfInBounds_toArray, List.set_cons_zero, List.set_cons_succ]
            refine seq_calcA (h := ?_)
            try simp only [Act.put, List.setIfInBounds_toArray, List.set_cons_zero, List.set_cons_succ]
            refine seq_load1A (hu := Tryz.underlying3) (h := ?_)
            try simp only [Act.put, List.setIfInBounds_toArray, List.set_cons_zero, List.set_cons_succ]
            refine seq_calcA (h := ?_)
            try simp only [Act.put, List.setIfInBounds_toArray, List.set_cons_zero, List.set_cons_succ]
            refine seq_calcA (h := ?_)
            try simp only [Act.put, List.setIfInBounds_toArray, List.set_cons_zero, List.set_cons_succ]
            refine seq_lastA (h := fun K hK => ?_); go_wp2_with (go_at_call 56; ((with_reducible refine (EV.out _ PR1.out).mono ?_); rintro e w5 ⟨V, G5, cap5, rfl, hV, hG5, hev, hVG, hb5⟩; have V5 := Lib.hid hev; have M5 := Lib.hid (KM.out.later (show Below wr.heap.size wr w5 from Below.undrew hb5)); have NVG := Lib.hid (show ∀ b, MIn p0 pt 1 b → b ≠ V ∧ b ≠ G5 from fun b hb => by have h1 := (KM.out.fr b hb).2.2.2.2; have h2 : wr.heap.size ≤ V := hV; have h3 : wr.heap.size ≤ G5 := hG5; omega); have NVX := Lib.hid (show V ≠ X ∧ V ≠ ga ∧ V ≠ gt ∧ w.heap.size ≤ V ∧ w.heap.size ≤ G5 ∧ V ≠ G5 ∧ V ≠ c ∧ G5 ≠ X from by have h2 : wr.heap.size ≤ V := hV; have h3 : wr.heap.size ≤ G5 := hG5; have h4 := KM.out.x.lt; have h5 := (KM.out.ra.lt ga rfl).2; have h6 := (KM.out.rt.lt gt rfl).2; have h7 := KM.out.b.size; have h8 := KM.out.c.lt; exact ⟨by omega, by omega, by omega, by omega, by omega, hVG, by omega, by omega⟩); clear hev)); refine hK.out _ _ ?_; clear hK K
            try simp only [Act.put, List.setIfInBounds_toArray, List.set_cons_zero, List.set_cons_succ]
            refine seq_calcA (h := ?_)
            try simp only [Act.put, List.setIfInBounds_toArray, List.set_cons_zero, List.set_cons_succ]
            refine seq_calcA (h := ?_)
            try simp only [Act.put, List.setIfInBounds_toArray, List.set_cons_zero, List.set_cons_succ]
            refine seq_calcA (h := ?_)
            try simp only [Act.put, List.setIfInBounds_toArray, List.set_cons_zero, List.set_cons_succ]
            refine seq_calcA (h := ?_)
            try simp only [Act.put, List.setIfInBounds_toArray, List.set_cons_zero, List.set_cons_succ]
            refine seq_calcA (h := ?_)
            try simp only [Act.put, List.setIfInBounds_toArray, List.set_cons_zero, List.set_cons_succ]
            refine seq_nil ?_
            have hcw5 := M5.out.c
            rw [HCS.out] at hcw5
            obtain ⟨c50, c51, c52, c53, c54, c55, c56, zc5⟩ := case_cells hcw5
            have hkd : 1 = 1 ∨ (1 = 2 ∧ d ≤ 15) := by omega
            clear KM c0 c1 c2 c3 c4 c5 c6 zc hcw5 hsl EV PR1
            go_wp2
            go_loopw [131] (fun v131 wr => ∃ (i : Nat) (U : Nat → TabS) (L0 : Int) (Lc : Nat → Int), i ≤ n3 ∧ v131 = .int .i64 (i : Int) ∧ 0 ≤ L0 ∧ L0 ≤ 64 * ((j : Int) + (i : Int)) ∧ (∀ q, q < 1 → 0 ≤ Lc q ∧ Lc q ≤ 64 * (i : Int)) ∧ MM wr c X 1 p0 pt T T U U L0 Lc d (.slice (some ⟨ga, 0, none⟩) (1 + 1) acap) (.slice (some ⟨gt, 0, none⟩) 1 tcap) cs E w0 w ∧ EW wr V p0.B G5 cap5 1 (fun q => (pt q).B) d 0 ∧ EJ T U 1 d (hashH n1 G) g gn ((j : Int) + (i : Int)) n1) (fun v131 _ => n3 - (intOf v131).toNat)
            case atStart => exact ⟨0, _, L0, _, Nat.zero_le _, rfl, hL1, by omega, fun q hq => by omega, M5.out, V5.out, by have := KE.out; simpa using this⟩
            case round =>
              clear M5 V5 c50 c51 c52 c53 c54 c55 c56 zc5 KE hL1 hL2 L0
              obtain ⟨i, U, L0, Lc, hile, rfl, hL1, hL2, hLc, hM, hEW, hE⟩ := hrel
              have KM := Lib.hid hM
              have KV := Lib.hid hEW
              have KE := Lib.hid hE
              have hcw := hM.c
              rw [HCS.out] at hcw
              obtain ⟨c0, c1, c2, c3, c4, c5, c6, zc⟩ := case_cells hcw
              clear hM hE hEW hcw
              by_cases hlt : i < n3
              · obtain ⟨b, off, rfl, hbz, hcells⟩ := HC3.out (by omega)
                have hbw := HW.out.trans (KM.out.b.mono HW.out.size)
                have q0 := hcells _ hbw i hlt
                have hltI : (i : Int) < (n3 : Int) := by omega
                have zb := Nat.lt_of_lt_of_le hbz hbw.size
                generalize f3 i = q at *
                have hx := keyI_lt q n1 h1n
                have EQ := Lib.hid (EN.out q)
                generalize hxx : keyI q n1 = x at *
                have hGx := HHG.out x hx
                have HH := Lib.hid (hashH_in (G := G) hx)
                obtain ⟨h, hh⟩ : ∃ h, h = G x := ⟨_, rfl⟩
                rw [← hh] at EQ hGx HH
                have HLK := Lib.hid (looks_le_n KE.out.e.t.good (x : Int) h)
                have hTn := KE.out.e.tn
                have hgb := right_bd HR.out
                have FI := Lib.hid (fun (w' : World) (h' : PR w' p0 T T L0 E w0) => PR.find2 h' ⟨hL1, by omega⟩ (x : Int) h hGx)
                obtain ⟨en, hen⟩ : ∃ en, en = T.ent (x : Int) h := ⟨_, rfl⟩
                simp only [← hen] at FI
                have hib := KM.out.fr
                have HFR := Lib.hid hib
                clear hcells hbz hxx hh hen hib
                cases hhas : T.has (x : Int) h with
                | true =>
                  rw [hhas] at FI
                  have HE2 := Lib.hid (show EJ T U 1 d (hashH n1 G) g gn ((j : Int) + ((i + 1 : Nat) : Int)) n1 from KE.out.more (by omega))
                  clear hhas
                  go_wp2_with (first
                    | (go_at_call 25; (with_reducible refine (EQ.out _ hbw).mono ?_); rintro e w5 ⟨rfl, hb5⟩; have M5 := Lib.hid ((KM.out.later hb5).later ((Below.refl w5.heap.size w5).alloc (Nat.le_refl _) (.cells #[.int .u64 (x : Int), .int .u64 ((x : Int) + 5), .int .u64 (h : Int)] 47))); have V5 := Lib.hid ((KV.out.later hb5).later ((Below.refl w5.heap.size w5).alloc (Nat.le_refl _) (.cells #[.int .u64 (x : Int), .int .u64 ((x : Int) + 5), .int .u64 (h : Int)] 47))))
                    | (go_at_call 42; (with_reducible refine (FI.out _ M5.out.m.o).mono ?_); rintro e w6 ⟨rfl, hp6, hc6⟩; have M6 := Lib.hid ((M5.out.old hp6 hc6).later ((Below.refl w6.heap.size w6).alloc (Nat.le_refl _) (.cells #[.int .u64 en.key, .int .u64 en.val, .int .u64 en.hash] 47))); have V6 := Lib.hid ((V5.out.chg hc6 (fun e => (NVG.out _ (.inl e)).1 rfl) (fun e => (NVG.out _ (.inl e)).2 rfl)).later ((Below.refl w6.heap.size w6).alloc (Nat.le_refl _) (.cells #[.int .u64 en.key, .int .u64 en.val, .int .u64 en.hash] 47)))))
                  go_roundw
                  case rel => exact ⟨i + 1, U, _, Lc, by omega, by go_num, by omega, by have := HLK.out; omega, fun q hq => by have := hLc q hq; omega, M6.out, V6.out, HE2.out⟩
                  case measure => simp [intOf]; omega
                | false =>
                  rw [hhas] at FI
                  have hkd' : 1 = 1 ∨ (1 = 2 ∧ d ≤ 15) := by omega
                  have hi' : tIx 1 d h < 1 := tIx_lt hkd'
                  have HE2 := Lib.hid (show EJ T (upd U (tIx 1 d h) ((U (tIx 1 d h)).putT (x : Int) ((x : Int) + 5) h)) 1 d (hashH n1 G) g gn ((j : Int) + ((i + 1 : Nat) : Int)) n1 from by
                    have h1 := KE.out.putU hkd' hx (HHb.out _) (by rw [HH.out]; exact hhas)
                    rw [HH.out] at h1
                    exact h1.more (by omega))
                  have TG := Lib.hid (fun (w' : World) (h' : EW w' V p0.B G5 cap5 1 (fun q => (pt q).B) d 0) => etarget_any V p0.B G5 cap5 1 (fun q => (pt q).B) d 0 h hGx w' h')
                  have TM := Lib.hid (fun (w' : World) (h' : VM w' X p0.D gt tcap 1 (fun q => (pt q).D) d 0) => rtarget_any X p0.D gt tcap 1 (fun q => (pt q).D) d 0 h hGx w' h')
                  have HLU := Lib.hid (looks_le_n (KE.out.e.u.f _ hi').good (x : Int) h)
                  have hUn := KE.out.e.u.n _ hi'
                  have hgnb := right_bd HRN.out
                  generalize tIx 1 d h = y at *
                  have hLy := hLc y hi'
                  have PU := Lib.hid (fun (w' : World) (T2 : TabS) (L' : Int) (h' : PR w' (pt y) (U y) T2 L' E w0) => PR.put h' (x : Int) ((x : Int) + 5) h hGx)
                  have PV := Lib.hid (fun (w' : World) (T1 : TabS) (h' : PR w' (pt y) T1 (U y) (Lc y) E w0) => PR.put2 h' ⟨hLy.1, by omega⟩ (x : Int) ((x : Int) + 5) h hGx)
                  clear hhas hkd'
                  go_upto_region 32 with (first
                    | (go_at_call 25; (with_reducible refine (EQ.out _ hbw).mono ?_); rintro e w5 ⟨rfl, hb5⟩; have M5 := Lib.hid ((KM.out.later hb5).later ((Below.refl w5.heap.size w5).alloc (Nat.le_refl _) (.cells #[.int .u64 (x : Int), .int .u64 ((x : Int) + 5), .int .u64 (h : Int)] 47))); have V5 := Lib.hid ((KV.out.later hb5).later ((Below.refl w5.heap.size w5).alloc (Nat.le_refl _) (.cells #[.int .u64 (x : Int), .int .u64 ((x : Int) + 5), .int .u64 (h : Int)] 47))); have hz5 := hb5.size)
                    | (go_at_call 42; (with_reducible refine (FI.out _ M5.out.m.o).mono ?_); rintro e w6 ⟨rfl, hp6, hc6⟩; have M6 := Lib.hid (M5.out.old hp6 hc6); have V6 := Lib.hid (V5.out.chg hc6 (fun e => (NVG.out _ (.inl e)).1 rfl) (fun e => (NVG.out _ (.inl e)).2 rfl)); have P6 := Lib.hid ((Blk.new w5 47 #[.int .u64 (x : Int), .int .u64 ((x : Int) + 5), .int .u64 (h : Int)]).chg hc6 (fun e => by have := (HFR.out _ (.inl e)).2.2.2.2; omega))))
                  refine wp_at (fun w7 hw7 => ?_)
                  have hb7 : Below w6.heap.size w6 w7 := by rw [hw7]; go_grown
                  have M7 := Lib.hid (M6.out.later hb7)
                  have V7 := Lib.hid (V6.out.later hb7)
                  have P7 := Lib.hid (P6.out.below hb7 P6.out.lt)
                  obtain ⟨p0', p1', p2'⟩ := cells3 P7.out
                  have zP7 := P7.out.lt
                  have hyz : ∀ b, (pt y).lo ≤ b → b < (pt y).hi → b < wr.heap.size := fun b h1 h2 => (HFR.out b (.inr ⟨y, hi', h1, h2⟩)).2.2.2.2
                  have hPy : ¬ ((pt y).lo ≤ w5.heap.size ∧ w5.heap.size < (pt y).hi) := fun e => by have := hyz _ e.1 e.2; omega
                  replace hw7 := Lib.hid hw7
                  clear M5 V5 M6 V6 P6 hb7 c0 c1 c2 c3 c4 c5 c6 zc
                  refine wp_region_seq (fun b => (pt y).lo ≤ b ∧ b < (pt y).hi) #[⟨0, 0, 1427247692705959881058285969449495136382746624, 262144, 0⟩, ⟨0, 0, 2854495385411919762116571938898990272765493248, 2097152, 0⟩, ⟨2, 2, 5708990770823839524233143877797980545530986496, 2854495385411919762116571938898990272765493248, 1⟩, ⟨5, 7, 11417981541647679048466287755595961091061972992, 7136238463529799405291429847247475681913733120, 2⟩, ⟨0, 0, 22835963083295358096932575511191922182123945984, 0, 0⟩, ⟨0, 0, 45671926166590716193865151022383844364247891968, 2097152, 1⟩, ⟨56, 63, 91343852333181432387730302044767688728495783936, 79925870791533753339264014289171727637433810944, 3⟩, ⟨64, 127, 713623846352979940529142984724747568191373312, 91343852333181432387730302044767688728495783936, 0⟩, ⟨128, 255, 182687704666362864775460604089535377456991567872, 713623846352979940529142984724747568191373312, 0⟩, ⟨128, 255, 365375409332725729550921208179070754913983135744, 713623846352979940529142984724747568191373312, 0⟩] 36 [(0, 0), (1, 0), (2, 1), (4, 0), (5, 1), (3, 2), (6, 3), (7, 0), (8, 0), (9, 0)] (by kernel_rfl) (by kernel_rfl) (by kernel_rfl) (by kernel_rfl) (by kernel_rfl) (by kernel_rfl) (fun c a d v w h => by cases d <;> exact h) ?_
                  refine seq_calcA (h := ?_)
                  try simp only [Act.put, List.setIfInBounds_toArray, List.set_cons_zero, List.set_cons_succ]
                  refine seq_calcA (h := ?_)
                  try simp only [Act.put, List.setIfInBounds_toArray, List.set_cons_zero, List.set_cons_succ]
                  refine seq_load1A (hu := Tryz.underlying45) (h := ?_)
                  try simp only [Act.put, List.setIfInBounds_toArray, List.set_cons_zero, List.set_cons_succ]
                  refine seq_calcA (h := ?_)
                  try simp only [Act.put, List.setIfInBounds_toArray, List.set_cons_zero, List.set_cons_succ]
                  refine seq_loadsA [_, _, _] (hu := Tryz.underlying47) (h := ?_)
                  try simp only [Act.put, List.setIfInBounds_toArray, List.set_cons_zero, List.set_cons_succ]
                  refine seq_doA (h := fun K hK => ?_); go_wp2_with (first | (go_at_call 27; ((with_reducible refine (TG.out _ (V7.out.later (Below.refl _ _).drew)).mono ?_); rintro e w8 ⟨rfl, hb8⟩; have M8 := Lib.hid ((M7.out.later (Below.refl _ _).drew).later hb8); have V8 := Lib.hid ((V7.out.later (Below.refl _ _).drew).later hb8); have P8 := Lib.hid (Blk.below (Blk.drew P7.out) hb8 P7.out.lt))) | (go_at_call 31; ((with_reducible refine (PU.out _ _ _ (M8.out.m.t y hi')).mono ?_); rintro e w9 ⟨rfl, hp9, hc9⟩; have M9 := Lib.hid (M8.out.target hi' hp9 hc9); have V9 := Lib.hid (V8.out.chg hc9 (fun e => (NVG.out _ (.inr ⟨y, hi', e⟩)).1 rfl) (fun e => (NVG.out _ (.inr ⟨y, hi', e⟩)).2 rfl)); have P9 := Lib.hid (P8.out.chg hc9 hPy)))); refine hkA hK (h := ?_); clear hK K
                  try simp only [Act.put, List.setIfInBounds_toArray, List.set_cons_zero, List.set_cons_succ]
                  refine seq_lastA (h := fun K hK => ?_); go_wp2_with (first | (go_at_call 27; ((with_reducible refine (TG.out _ (V7.out.later (Below.refl _ _).drew)).mono ?_); rintro e w8 ⟨rfl, hb8⟩; have M8 := Lib.hid ((M7.out.later (Below.refl _ _).drew).later hb8); have V8 := Lib.hid ((V7.out.later (Below.refl _ _).drew).later hb8); have P8 := Lib.hid (Blk.below (Blk.drew P7.out) hb8 P7.out.lt))) | (go_at_call 31; ((with_reducible refine (PU.out _ _ _ (M8.out.m.t y hi')).mono ?_); rintro e w9 ⟨rfl, hp9, hc9⟩; have M9 := Lib.hid (M8.out.target hi' hp9 hc9); have V9 := Lib.hid (V8.out.chg hc9 (fun e => (NVG.out _ (.inr ⟨y, hi', e⟩)).1 rfl) (fun e => (NVG.out _ (.inr ⟨y, hi', e⟩)).2 rfl)); have P9 := Lib.hid (P8.out.chg hc9 hPy)))); refine hK.out _ _ ?_; clear hK K
                  try simp only [Act.put, List.setIfInBounds_toArray, List.set_cons_zero, List.set_cons_succ]
                  refine seq_calcA (h := ?_)
                  try simp only [Act.put, List.setIfInBounds_toArray, List.set_cons_zero, List.set_cons_succ]
                  refine seq_calcA (h := ?_)
                  try simp only [Act.put, List.setIfInBounds_toArray, List.set_cons_zero, List.set_cons_succ]
                  refine seq_calcA (h := ?_)
                  try simp only [Act.put, List.setIfInBounds_toArray, List.set_cons_zero, List.set_cons_succ]
                  refine seq_nil ?_
                  obtain ⟨p90, p91, p92⟩ := cells3 P9.out
                  have zP9 := P9.out.lt
                  have M9' := M9.out
                  rw [upd_self, upd_self] at M9'
                  generalize (U y).putT (x : Int) ((x : Int) + 5) h = A at *
                  have M10 := Lib.hid M9'
                  clear M9' M7 M8 M9 V7 V8 P7 P8 p0' p1' p2' zP7 KM KV
                  go_upto_region 33 with (fail)
                  refine wp_region_seq (fun b => (pt y).lo ≤ b ∧ b < (pt y).hi) #[⟨0, 0, 730750818665451459101842416358141509827966271488, 1024, 0⟩, ⟨0, 0, 1461501637330902918203684832716283019655932542976, 2097152, 0⟩, ⟨2, 2, 2923003274661805836407369665432566039311865085952, 1461501637330902918203684832716283019655932542976, 1⟩, ⟨5, 7, 5846006549323611672814739330865132078623730171904, 3653754093327257295509212081790707549139831357440, 2⟩, ⟨0, 0, 11692013098647223345629478661730264157247460343808, 2097152, 1⟩, ⟨24, 31, 23384026197294446691258957323460528314494920687616, 17538019647970835018444217992595396235871190515712, 3⟩] 20 [(0, 0), (1, 0), (2, 1), (4, 1), (3, 2), (5, 3)] (by kernel_rfl) (by kernel_rfl) (by kernel_rfl) (by kernel_rfl) (by kernel_rfl) (by kernel_rfl) (fun c a d v w h => by cases d <;> exact h) ?_
                  refine seq_calcA (h := ?_)
                  try simp only [Act.put, List.setIfInBounds_toArray, List.set_cons_zero, List.set_cons_succ]
                  refine seq_calcA (h := ?_)
                  try simp only [Act.put, List.setIfInBounds_toArray, List.set_cons_zero, List.set_cons_succ]
                  refine seq_load1A (hu := Tryz.underlying45) (h := ?_)
                  try simp only [Act.put, List.setIfInBounds_toArray, List.set_cons_zero, List.set_cons_succ]
                  refine seq_loadsA [_, _, _] (hu := Tryz.underlying47) (h := ?_)
                  try simp only [Act.put, List.setIfInBounds_toArray, List.set_cons_zero, List.set_cons_succ]
                  refine seq_doA (h := fun K hK => ?_); go_wp2_with (first | (go_at_call 57; ((with_reducible refine (TM.out _ ((M10.out.later (Below.refl _ _).drew).vm (by omega))).mono ?_); rintro e w11 ⟨rfl, hb11⟩; have M11 := Lib.hid ((M10.out.later (Below.refl _ _).drew).later hb11); have V11 := Lib.hid ((V9.out.later (Below.refl _ _).drew).later hb11))) | (go_at_call 39; (have hp11 := M11.out.m.t y hi'; rw [upd_same] at hp11; (with_reducible refine (PV.out _ _ hp11).mono ?_); rintro e w12 ⟨rfl, hp12, hc12⟩; have M12 := Lib.hid (M11.out.target hi' hp12 hc12); have V12 := Lib.hid (V11.out.chg hc12 (fun e => (NVG.out _ (.inr ⟨y, hi', e⟩)).1 rfl) (fun e => (NVG.out _ (.inr ⟨y, hi', e⟩)).2 rfl))))); refine hkA hK (h := ?_); clear hK K
                  try simp only [Act.put, List.setIfInBounds_toArray, List.set_cons_zero, List.set_cons_succ]
                  refine seq_lastA (h := fun K hK => ?_); go_wp2_with (first | (go_at_call 57; ((with_reducible refine (TM.out _ ((M10.out.later (Below.refl _ _).drew).vm (by omega))).mono ?_); rintro e w11 ⟨rfl, hb11⟩; have M11 := Lib.hid ((M10.out.later (Below.refl _ _).drew).later hb11); have V11 := Lib.hid ((V9.out.later (Below.refl _ _).drew).later hb11))) | (go_at_call 39; (have hp11 := M11.out.m.t y hi'; rw [upd_same] at hp11; (with_reducible refine (PV.out _ _ hp11).mono ?_); rintro e w12 ⟨rfl, hp12, hc12⟩; have M12 := Lib.hid (M11.out.target hi' hp12 hc12); have V12 := Lib.hid (V11.out.chg hc12 (fun e => (NVG.out _ (.inr ⟨y, hi', e⟩)).1 rfl) (fun e => (NVG.out _ (.inr ⟨y, hi', e⟩)).2 rfl))))); refine hK.out _ _ ?_; clear hK K
                  try simp only [Act.put, List.setIfInBounds_toArray, List.set_cons_zero, List.set_cons_succ]
                  refine seq_nil ?_
                  have M13 := M12.out
                  rw [upd_upd] at M13
                  go_wp2
                  go_roundw
                  case rel => exact ⟨i + 1, upd U y A, _, upd Lc y _, by omega, by go_num, by omega, by have := HLK.out; omega, fun q hq => by
                    by_cases e : q = y
                    · subst e; rw [upd_same]; have := HLU.out; omega
                    · rw [upd_other _ _ e]; have := hLc q hq; omega, M13, V12.out, HE2.out⟩
                  case measure => simp [intOf]; omega
              · obtain rfl : i = n3 := by omega
                have zD0 := KM.out.m.o.d.lt
                obtain ⟨dc0, df0⟩ := KM.out.m.o.d.cells
                have hid0 := KM.out.m.o.d.id
                have hob := KM.out.m.o.o
                have hbb := KM.out.m.o.b
                have hib := KM.out.fr p0.D (.inl ⟨by omega, hid0.2⟩)
                obtain ⟨x0, x1, zX⟩ : wr.cell? ⟨X, 0, none⟩ = some (.pointer (some ⟨p0.D, 0, none⟩)) ∧ wr.cell? ⟨X, 1, none⟩ = some (.slice (some ⟨gt, 0, none⟩) 1 tcap) ∧ X < wr.heap.size := ⟨KM.out.x.cell 0, KM.out.x.cell 1, KM.out.x.lt⟩
                have hXD : X ≠ p0.D := fun e => hib.2.1 e.symm
                have hDX : p0.D ≠ X := hib.2.1
                have hC0 : Chg (fun b => p0.lo ≤ b ∧ b < p0.hi) wr (wr.setCell ⟨p0.D, 1, none⟩ (.int .i64 0)) := (Chg.refl _ _).setCell (.inl ⟨by show p0.lo ≤ p0.D; omega, hid0.2⟩) _
                have M1 := Lib.hid (KM.out.old (KM.out.m.o.looks 0) hC0)
                have V1 := Lib.hid (KV.out.chg hC0 (fun e => (NVG.out _ (.inl e)).1 rfl) (fun e => (NVG.out _ (.inl e)).2 rfl))
                clear KM hib hob hid0 hC0 c0 c1 c2 c3 c4 c5 c6 zc
                go_wp2
                go_loopw [174] (fun v174 wr => ∃ (q : Nat) (Lc : Nat → Int), q ≤ 1 ∧ v174 = .int .i64 (q : Int) ∧ (∀ r, r < q → Lc r = 0) ∧ MM wr c X 1 p0 pt T T U U 0 Lc d (.slice (some ⟨ga, 0, none⟩) (1 + 1) acap) (.slice (some ⟨gt, 0, none⟩) 1 tcap) cs E w0 w ∧ EW wr V p0.B G5 cap5 1 (fun q => (pt q).B) d 0) (fun v174 _ => 1 - (intOf v174).toNat)
                case atStart => exact ⟨0, Lc, Nat.zero_le _, rfl, fun r hr => by omega, M1.out, V1.out⟩
                case round =>
                  clear M1 V1 x0 x1 zX dc0 df0 zD0
                  obtain ⟨q, Lc', hq, rfl, hz, hM, hEW⟩ := hrel
                  have KM := Lib.hid hM
                  have KV := Lib.hid hEW
                  clear hM hEW
                  by_cases hlt : q < 1
                  · have hltI : (q : Int) < 1 := by omega
                    have vm := KM.out.vm (by omega)
                    have l0 := vm.l q hlt
                    have zgt := vm.lt
                    have zD := (KM.out.m.t q hlt).d.lt
                    obtain ⟨dc, df⟩ := (KM.out.m.t q hlt).d.cells
                    have hid := (KM.out.m.t q hlt).d.id
                    have hob := (KM.out.m.t q hlt).o
                    have hbb := (KM.out.m.t q hlt).b
                    have hC0 : Chg (fun b => (pt q).lo ≤ b ∧ b < (pt q).hi) wr (wr.setCell ⟨(pt q).D, 1, none⟩ (.int .i64 0)) := (Chg.refl _ _).setCell (.inl ⟨by show (pt q).lo ≤ (pt q).D; omega, hid.2⟩) _
                    have M1 := KM.out.target hlt ((KM.out.m.t q hlt).looks 0) hC0
                    rw [upd_self] at M1
                    have V1 := Lib.hid (KV.out.chg hC0 (fun e => (NVG.out _ (.inr ⟨q, hlt, e⟩)).1 rfl) (fun e => (NVG.out _ (.inr ⟨q, hlt, e⟩)).2 rfl))
                    have M2 := Lib.hid M1
                    clear vm hid hob hC0 M1
                    go_wp2
                    go_roundw
                    case rel => exact ⟨q + 1, upd Lc' q 0, by omega, by go_num, fun r hr => by
                      by_cases e : r = q
                      · subst e; exact upd_same _ _ _
                      · rw [upd_other _ _ e]; exact hz r (by omega), M2.out, V1.out⟩
                    case measure => simp [intOf]; omega
                  · obtain rfl : q = 1 := by omega
                    have hML := KM.out.m
                    have MF := Lib.hid (KM.out.turn (Lc' := fun _ => 0) (⟨hML.o, fun i hi => by have := hML.t i hi; rw [hz i hi] at this; exact this, hML.s0, hML.s1⟩ : MS wr p0 pt 1 T T U U 0 (fun _ => 0) E w0) (Chg.refl _ _))
                    clear KM hML
                    go_wp2
                    go_ret3
                    refine ⟨V, G5, cap5, X, gt, tcap, ga, acap, c, p0, pt, T, U, rfl, ?_, KV.out, NVG.out, NVX.out, KE.out⟩
                    have := MF.out
                    rw [HCS.out] at this
                    exact this
end Go.Proofs.YtannohinhlefaaaGreatDoor
