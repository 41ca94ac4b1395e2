/- Texts joined: Ref12 PairDo. No condition but those that stand within. -/
import Derived.Test.YtannohinhlefaaaGreatDoorPkSwar
import Derived.Test.YtannohinhlefaaaGreatDoorPkMeter
import Derived.Test.YtannohinhlefaaaGreatDoorPkErrs
import Derived.Test.YtannohinhlefaaaGreatDoorPkGroup
import Derived.Test.YtannohinhlefaaaGreatDoorPkTab
import Derived.Test.YtannohinhlefaaaGreatDoorPkTab2
import Derived.Test.YtannohinhlefaaaGreatDoorPkTab3
import Derived.Test.YtannohinhlefaaaGreatDoorPkTake
import Derived.Test.YtannohinhlefaaaGreatDoorPkTabM
import Derived.Test.YtannohinhlefaaaGreatDoorPkEvac
import Derived.Test.YtannohinhlefaaaGreatDoorPkSound
import Derived.Test.YtannohinhlefaaaGreatDoorPkRef09
import Derived.Test.YtannohinhlefaaaGreatDoorPkEvac2
set_option linter.unusedVariables false
set_option linter.unusedSimpArgs false
namespace Go.Proofs.YtannohinhlefaaaGreatDoor
open Go.RowKit Go.Proofs
section
variable {w w' : World} {lo hi D : Nat} {T : TabS} {L : Int}
theorem DX.take (h : DX w lo hi D T L) (hL : 0 ≤ L ∧ L ≤ 1000000000) (i : Nat) (hi' : i < T.n) :
    Calls Tryz.prog 44 #[.pointer (some ⟨D, 0, none⟩), .int .i64 (i : Int)] w fun e w' =>
      ∃ v, e = .returned (.tuple #[v, .int .i64 0]) ∧ w'.ownsRow w.heap.size 47 3 v (entsL (T.M i) (T.S i)).length (entV (entsL (T.M i) (T.S i))) ∧ DX w' lo hi D (T.takeT i) (L + 1) ∧ Chg (fun b => lo ≤ b ∧ b < hi) w w' := by
  obtain ⟨P, cap, GB, h⟩ := h
  refine (dttake_any h hL i hi').mono ?_
  rintro e w' ⟨v, rfl, h0, h1, h2⟩
  exact ⟨v, rfl, h0, ⟨P, cap, GB, h1⟩, h2⟩
theorem DX.text (h : DX w lo hi D T L) : Calls Tryz.prog 21 #[.pointer (some ⟨D, 0, none⟩)] w fun e w' => ∃ v, e = .returned v ∧ ReadsTexts w' v T.texts ∧ Below w.heap.size w w' := by
  obtain ⟨P, cap, GB, h⟩ := h
  exact dttext_any h
theorem DX.del (h : DX w lo hi D T L) (hL : 0 ≤ L ∧ L ≤ 1000000000) (key : Int) (hs : Nat) (hh : hs < 18446744073709551616) :
    Calls Tryz.prog 41 #[.pointer (some ⟨D, 0, none⟩), .int .u64 key, .int .u64 (hs : Int)] w fun e w' =>
      e = .returned (.tuple #[.agg #[.int .u64 (T.ent key hs).key, .int .u64 (T.ent key hs).val, .int .u64 (T.ent key hs).hash], .bool (T.has key hs)]) ∧ DX w' lo hi D (T.delT key hs) (L + T.looks key hs) ∧ Chg (fun b => lo ≤ b ∧ b < hi) w w' := by
  obtain ⟨P, cap, GB, h⟩ := h
  refine (dtdel_any h hL key hs hh).mono ?_
  rintro e w' ⟨rfl, h1, h2⟩
  exact ⟨rfl, ⟨P, cap, GB, h1⟩, h2⟩
theorem DX.good (h : DX w lo hi D T L) : TGood T := by obtain ⟨P, cap, GB, h⟩ := h; exact h.good
theorem DX.head (h : DX w lo hi D T L) : ∃ P cap, w.cell? ⟨D, 0, none⟩ = some (.slice (some ⟨P, 0, none⟩) T.n cap) := by obtain ⟨P, cap, GB, h⟩ := h; exact ⟨P, cap, h.head.cell 0⟩
end
def ZD (p0 : PB) (pt : Nat → PB) (k : Nat) (b : Nat) : Prop := (p0.mid ≤ b ∧ b < p0.hi) ∨ ∃ i, i < k ∧ (pt i).mid ≤ b ∧ b < (pt i).hi
structure RV (w : World) (X gt tcap k : Nat) (p0 : PB) (pt : Nat → PB) (d next : Nat) (T : TabS) (U : Nat → TabS) (L0 : Int) (Lc : Nat → Int) : Prop where
  v : VM w X p0.D gt tcap k (fun i => (pt i).D) d next
  o : DX w p0.mid p0.hi p0.D T L0
  t : ∀ i, i < k → DX w (pt i).mid (pt i).hi (pt i).D (U i) (Lc i)
  s0 : ∀ i, i < k → p0.hi ≤ (pt i).mid
  s1 : ∀ i j, i < j → j < k → (pt i).hi ≤ (pt j).mid
  x : ∀ b, ZD p0 pt k b → b ≠ X ∧ b ≠ gt
section
variable {w w' : World} {X gt tcap k : Nat} {p0 : PB} {pt : Nat → PB} {d next : Nat} {T : TabS} {U : Nat → TabS} {L0 : Int} {Lc : Nat → Int}
theorem RV.later (h : RV w X gt tcap k p0 pt d next T U L0 Lc) (hb : Below w.heap.size w w') : RV w' X gt tcap k p0 pt d next T U L0 Lc := ⟨h.v.later hb, h.o.later hb, fun i hi => (h.t i hi).later hb, h.s0, h.s1, h.x⟩
theorem RV.drew (h : RV w X gt tcap k p0 pt d next T U L0 Lc) : RV w.drew X gt tcap k p0 pt d next T U L0 Lc := h.later (Below.refl _ _).drew
theorem RV.alloc (h : RV w X gt tcap k p0 pt d next T U L0 Lc) (o : Obj) : RV (w.alloc o) X gt tcap k p0 pt d next T U L0 Lc := h.later ((Below.refl _ _).alloc (Nat.le_refl _) o)
theorem RV.chg {Y : Nat → Prop} (h : RV w X gt tcap k p0 pt d next T U L0 Lc) (hc : Chg Y w w') (hY : ∀ b, ZD p0 pt k b → ¬ Y b) (h1 : ¬ Y X) (h2 : ¬ Y gt) : RV w' X gt tcap k p0 pt d next T U L0 Lc :=
  ⟨h.v.chg hc h1 h2, h.o.chg hc (fun b a c => hY b (.inl ⟨a, c⟩)), fun i hi => (h.t i hi).chg hc (fun b a c => hY b (.inr ⟨i, hi, a, c⟩)), h.s0, h.s1, h.x⟩
theorem RV.put (h : RV w X gt tcap k p0 pt d next T U L0 Lc) {i : Nat} (hi : i < k) (hL : 0 ≤ Lc i ∧ Lc i ≤ 1000000000) (key v : Int) (hs : Nat) (hh : hs < 18446744073709551616) :
    Calls Tryz.prog 39 #[.pointer (some ⟨(pt i).D, 0, none⟩), .agg #[.int .u64 key, .int .u64 v, .int .u64 (hs : Int)]] w fun e w' =>
      e = .returned (.tuple #[.bool ((U i).putB key hs), .int .i64 (((U i).putN key hs : Nat) : Int)]) ∧ RV w' X gt tcap k p0 pt d next T (upd U i ((U i).putT key v hs)) L0 (upd Lc i (Lc i + (U i).looks key hs)) ∧ Chg (ZD p0 pt k) w w' := by
  refine ((h.t i hi).put hL key v hs hh).mono ?_
  rintro e w' ⟨rfl, h1, h2⟩
  refine ⟨rfl, ⟨h.v.chg h2 (fun e => (h.x X (.inr ⟨i, hi, e⟩)).1 rfl) (fun e => (h.x gt (.inr ⟨i, hi, e⟩)).2 rfl), h.o.chg h2 (fun b a c e => by have := h.s0 i hi; omega), fun j hj => ?_, h.s0, h.s1, h.x⟩, h2.mono (fun b _ e => .inr ⟨i, hi, e⟩)⟩
  by_cases e : j = i
  · subst e; rw [upd_same, upd_same]; exact h1
  · rw [upd_other _ _ e, upd_other _ _ e]
    refine (h.t j hj).chg h2 (fun b a c e2 => ?_)
    rcases Nat.lt_or_gt_of_ne e with c2 | c2
    · have := h.s1 j i c2 hi; omega
    · have := h.s1 i j c2 hj; omega
theorem RV.take (h : RV w X gt tcap k p0 pt d next T U L0 Lc) (hL : 0 ≤ L0 ∧ L0 ≤ 1000000000) (hn : next < T.n) :
    Calls Tryz.prog 44 #[.pointer (some ⟨p0.D, 0, none⟩), .int .i64 (next : Int)] w fun e w' =>
      ∃ v, e = .returned (.tuple #[v, .int .i64 0]) ∧ w'.ownsRow w.heap.size 47 3 v (entsL (T.M next) (T.S next)).length (entV (entsL (T.M next) (T.S next))) ∧ RV w' X gt tcap k p0 pt d next (T.takeT next) U (L0 + 1) Lc ∧ Chg (ZD p0 pt k) w w' := by
  refine (h.o.take hL next hn).mono ?_
  rintro e w' ⟨v, rfl, h0, h1, h2⟩
  exact ⟨v, rfl, h0, ⟨h.v.chg h2 (fun e => (h.x X (.inl e)).1 rfl) (fun e => (h.x gt (.inl e)).2 rfl), h1, fun j hj => (h.t j hj).chg h2 (fun b a c e => by have := h.s0 j hj; omega), h.s0, h.s1, h.x⟩, h2.mono (fun b _ e => .inl e)⟩
end
end Go.Proofs.YtannohinhlefaaaGreatDoor

namespace Go.Proofs.YtannohinhlefaaaGreatDoor
open Go.RowKit Go.Proofs
section
variable {w w' w0 : World} {B Q : Nat} {lp : Option Nat} {T : TabS} {mt : MeterS} {E : Nat → Addr}
set_option maxRecDepth 100000 in
theorem TMW.takeNo (hS : TMW w B Q lp T mt E w0) (i : Int) (hi : i < 0 ∨ (T.n : Int) ≤ i) (q : Option Addr) (x1 y1 z1 : Int) :
    Calls Tryz.prog 43 #[.pointer (some ⟨B, 0, none⟩), .agg #[.pointer q, .int .i64 x1, .int .i64 y1, .int .i64 z1], .int .i64 i] w fun e w' =>
      e = .returned (.tuple #[.slice none 0 0, errAt E 1]) ∧ Below w.heap.size w w' := by
  have hbd := hS.good.bounds
  have LB := Lib.hid (fun (w' : World) (h : TMW w' B Q lp T mt E w0) => tlook_bad B Q T (by omega) i hi (.int .i64 0) x1 y1 z1 q w' h.t)
  have HS := Lib.hid hS
  have HE := Lib.hid (fun (w' : World) (h : TMW w' B Q lp T mt E w0) => (show w'.cell? ⟨2, 0, none⟩ = some (errAt E 1) from h.low.e 1 (by decide)))
  unfold errAt at *
  clear hS hbd hi
  go_enter Tryz.func43, Tryz.ntmps43
  go_wp2_with (go_at_call 80; (with_reducible refine (LB.out _ (HS.out.alloc _)).mono ?_); rintro e w1 ⟨rfl, hb1⟩; have S1 := Lib.hid ((HS.out.alloc _).later hb1); have e1 := HE.out _ (S1.out.alloc (.cells #[.pointer none] 83)); have z1' := World.block_lt_of_cell? _ _ e1)
  refine wp_region_seq (fun _ => False) #[⟨0, 0, 8388608, 0, 1⟩, ⟨0, 0, 64, 0, 0⟩, ⟨3, 3, 128, 8388608, 0⟩] 1 [(0, 1), (1, 0), (2, 0)] (by kernel_rfl) (by kernel_rfl) (by kernel_rfl) (by kernel_rfl) (by kernel_rfl) (by kernel_rfl) (fun c a d v w h => by cases d <;> exact h) ?_
  refine seq_load1A (hu := Tryz.underlying27) (h := ?_)
  try simp only [Act.put, List.setIfInBounds_toArray, List.set_cons_zero, List.set_cons_succ]
  refine seq_calcA (h := ?_)
  try simp only [Act.put, List.setIfInBounds_toArray, List.set_cons_zero, List.set_cons_succ]
  refine seq_calcA (h := ?_)
  try simp only [Act.put, List.setIfInBounds_toArray, List.set_cons_zero, List.set_cons_succ]
  refine seq_nil ?_
  go_wp2
  go_ret2
  have hq : Below w.heap.size w (w1.alloc (.cells #[.pointer none] 83)) := (((Below.refl _ _).alloc (Nat.le_refl _) _).trans (hb1.mono (by simp))).alloc (by have := hb1.size; simp at this; omega) _
  exact ⟨rfl, by first | exact hq | exact hq.drew⟩
theorem TN.take (hS : TN w B Q T E w0) (i : Nat) (hi : i < T.n) :
    Calls Tryz.prog 43 #[.pointer (some ⟨B, 0, none⟩), .agg #[.pointer none, .int .i64 0, .int .i64 0, .int .i64 0], .int .i64 (i : Int)] w fun e w' =>
      ∃ v, e = .returned (.tuple #[v, .nilIface]) ∧ w'.ownsRow w.heap.size 47 3 v (entsL (T.M i) (T.S i)).length (entV (entsL (T.M i) (T.S i))) ∧ TN w' B Q (T.takeT i) E w0 ∧ Chg (fun b => b = B ∨ b = Q) w w' := by
  refine (TMW.take hS i hi none LensAt.n 0 0 0).mono ?_
  rintro e w' ⟨v, rfl, h0, h1, h2⟩
  exact ⟨v, rfl, h0, h1.unmeter, h2.mono (fun i _ e => by
    rcases e with e | e
    · cases e
    · exact e)⟩
end
section
variable {w w' w0 : World} {p : PB} {T T2 : TabS} {L : Int} {E : Nat → Addr}
theorem PR.del (h : PR w p T T2 L E w0) (key : Int) (hs : Nat) (hh : hs < 18446744073709551616) :
    Calls Tryz.prog 40 #[.pointer (some ⟨p.B, 0, none⟩), .agg #[.pointer none, .int .i64 0, .int .i64 0, .int .i64 0], .int .u64 key, .int .u64 (hs : Int)] w fun e w' =>
      e = .returned (.tuple #[.agg #[.int .u64 (T.ent key hs).key, .int .u64 (T.ent key hs).val, .int .u64 (T.ent key hs).hash], .bool (T.has key hs)]) ∧ PR w' p (T.delT key hs) T2 L E w0 ∧ Chg (fun b => p.lo ≤ b ∧ b < p.hi) w w' := by
  have hb := h.b
  have ho := h.o
  refine (TN.del h.t key hs hh).mono ?_
  rintro e w' ⟨rfl, h1, h2⟩
  exact ⟨rfl, ⟨h1, h.d.chg h2 (fun b h3 h4 => by rintro (e | e) <;> omega), h.b, h.o⟩, h2.mono (fun b _ e => by rcases e with e | e <;> subst e <;> omega)⟩
theorem PR.take (h : PR w p T T2 L E w0) (i : Nat) (hi : i < T.n) :
    Calls Tryz.prog 43 #[.pointer (some ⟨p.B, 0, none⟩), .agg #[.pointer none, .int .i64 0, .int .i64 0, .int .i64 0], .int .i64 (i : Int)] w fun e w' =>
      ∃ v, e = .returned (.tuple #[v, .nilIface]) ∧ w'.ownsRow w.heap.size 47 3 v (entsL (T.M i) (T.S i)).length (entV (entsL (T.M i) (T.S i))) ∧ PR w' p (T.takeT i) T2 L E w0 ∧ Chg (fun b => p.lo ≤ b ∧ b < p.hi) w w' := by
  have hb := h.b
  have ho := h.o
  refine (TN.take h.t i hi).mono ?_
  rintro e w' ⟨v, rfl, h0, h1, h2⟩
  exact ⟨v, rfl, h0, ⟨h1, h.d.chg h2 (fun b h3 h4 => by rintro (e | e) <;> omega), h.b, h.o⟩, h2.mono (fun b _ e => by rcases e with e | e <;> subst e <;> omega)⟩
theorem PR.turn2 {T' : TabS} {L' : Int} (h : PR w p T T2 L E w0) (h1 : DX w' p.mid p.hi p.D T' L') (h2 : Chg (fun b => p.mid ≤ b ∧ b < p.hi) w w') : PR w' p T T' L' E w0 ∧ Chg (fun b => p.lo ≤ b ∧ b < p.hi) w w' := by
  have hb := h.b
  have ho := h.o
  exact ⟨⟨TMW.chg h.t h2 (by rintro b ⟨h3, h4⟩; omega) (by omega) (by omega) (fun b e => by cases e), h1, h.b, h.o⟩, h2.mono (fun b _ e => by omega)⟩
theorem PR.del2 (h : PR w p T T2 L E w0) (hL : 0 ≤ L ∧ L ≤ 1000000000) (key : Int) (hs : Nat) (hh : hs < 18446744073709551616) :
    Calls Tryz.prog 41 #[.pointer (some ⟨p.D, 0, none⟩), .int .u64 key, .int .u64 (hs : Int)] w fun e w' =>
      e = .returned (.tuple #[.agg #[.int .u64 (T2.ent key hs).key, .int .u64 (T2.ent key hs).val, .int .u64 (T2.ent key hs).hash], .bool (T2.has key hs)]) ∧ PR w' p T (T2.delT key hs) (L + T2.looks key hs) E w0 ∧ Chg (fun b => p.lo ≤ b ∧ b < p.hi) w w' := by
  refine (h.d.del hL key hs hh).mono ?_
  rintro e w' ⟨rfl, h1, h2⟩
  exact ⟨rfl, (h.turn2 h1 h2).1, (h.turn2 h1 h2).2⟩
theorem PR.take2 (h : PR w p T T2 L E w0) (hL : 0 ≤ L ∧ L ≤ 1000000000) (i : Nat) (hi : i < T2.n) :
    Calls Tryz.prog 44 #[.pointer (some ⟨p.D, 0, none⟩), .int .i64 (i : Int)] w fun e w' =>
      ∃ v, e = .returned (.tuple #[v, .int .i64 0]) ∧ w'.ownsRow w.heap.size 47 3 v (entsL (T2.M i) (T2.S i)).length (entV (entsL (T2.M i) (T2.S i))) ∧ PR w' p T (T2.takeT i) (L + 1) E w0 ∧ Chg (fun b => p.lo ≤ b ∧ b < p.hi) w w' := by
  refine (h.d.take hL i hi).mono ?_
  rintro e w' ⟨v, rfl, h0, h1, h2⟩
  exact ⟨v, rfl, h0, (h.turn2 h1 h2).1, (h.turn2 h1 h2).2⟩
theorem PR.take2No (h : PR w p T T2 L E w0) (i : Int) (hi : i < 0 ∨ (T2.n : Int) ≤ i) :
    Calls Tryz.prog 44 #[.pointer (some ⟨p.D, 0, none⟩), .int .i64 i] w fun e w' => e = .returned (.tuple #[.slice none 0 0, .int .i64 1]) ∧ w = w' := by
  obtain ⟨P, cap, GB, hd⟩ := h.d
  exact dttake_no hd i hi
end
end Go.Proofs.YtannohinhlefaaaGreatDoor
