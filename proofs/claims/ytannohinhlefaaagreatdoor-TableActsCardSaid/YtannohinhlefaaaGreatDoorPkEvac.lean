/- Texts joined: Split Trap Evac EvacStep EvacAlive. No condition but those that stand within. -/
import Derived.IntWalk
import Derived.Defers
import Derived.Recover
import Derived.WalkLawsBesides
import Derived.Test.YtannohinhlefaaaGreatDoorPkSwar
import Derived.Test.YtannohinhlefaaaGreatDoorPkMeter
import Derived.Test.YtannohinhlefaaaGreatDoorPkErrs
import Derived.Test.YtannohinhlefaaaGreatDoorPkGroup
import Derived.Test.YtannohinhlefaaaGreatDoorPkTab
import Derived.Test.YtannohinhlefaaaGreatDoorPkTab2
import Derived.Test.YtannohinhlefaaaGreatDoorPkTab3
import Derived.Test.YtannohinhlefaaaGreatDoorPkTake
import Derived.Test.YtannohinhlefaaaGreatDoorPkTabM
set_option linter.unusedVariables false
set_option linter.unusedSimpArgs false
namespace Go.Proofs.YtannohinhlefaaaGreatDoor
open Go.RowKit Go.Proofs
section
variable {P : Program} {w : World}
end
def Pre (p d : Int) : Prop := (0 ≤ d ∧ d ≤ 16) ∧ 0 ≤ p ∧ p < ((2 ^ d.toNat : Nat) : Int)
instance (p d : Int) : Decidable (Pre p d) := by unfold Pre; infer_instance
end Go.Proofs.YtannohinhlefaaaGreatDoor

namespace Go.Proofs.YtannohinhlefaaaGreatDoor
open Go.RowKit Go.Proofs
end Go.Proofs.YtannohinhlefaaaGreatDoor

namespace Go.Proofs.YtannohinhlefaaaGreatDoor
open Go.RowKit Go.Proofs
attribute [local go_sem] neq_nilG eql_nilG
def bitN (h d : Nat) : Nat := h / 2 ^ (63 - d) % 2
theorem bitN_lt (h d : Nat) : bitN h d < 2 := Nat.mod_lt _ (by decide)
theorem eql_nilP (b : Addr) (w : World) : (binOp .eql 25 (.pointer none) (.pointer (some b))).run Tryz.prog w = .ok (.bool false) w := by kernel_rfl
theorem eql_nilS (a : Addr) (k cap : Nat) (w : World) : (binOp .eql 64 (.slice (some a) k cap) (.slice none 0 0)).run Tryz.prog w = .ok (.bool false) w := by kernel_rfl
attribute [local go_sem] eql_nilP eql_nilS
structure EW (w : World) (V O G cap k : Nat) (TB : Nat → Nat) (d next : Nat) : Prop where
  b : Blk w V 121 #[.pointer (some ⟨O, 0, none⟩), .slice (some ⟨G, 0, none⟩) k cap, .int .i64 (d : Int), .int .i64 (next : Int)]
  l : ∀ i, i < k → w.cell? ⟨G, i, none⟩ = some (.pointer (some ⟨TB i, 0, none⟩))
  lt : G < w.heap.size
  hk : k = 1 ∨ (k = 2 ∧ d ≤ 15)
theorem EW.later {w w' : World} {V O G cap k : Nat} {TB : Nat → Nat} {d next : Nat} (h : EW w V O G cap k TB d next) (hb : Below w.heap.size w w') : EW w' V O G cap k TB d next :=
  ⟨h.b.below hb h.b.lt, fun i hi => (hb.cell (p := ⟨G, i, none⟩) h.lt).trans (h.l i hi), Nat.lt_of_lt_of_le h.lt hb.size, h.hk⟩
theorem EW.chg {X : Nat → Prop} {w w' : World} {V O G cap k : Nat} {TB : Nat → Nat} {d next : Nat} (h : EW w V O G cap k TB d next) (hc : Chg X w w') (h1 : ¬ X V) (h2 : ¬ X G) : EW w' V O G cap k TB d next :=
  ⟨h.b.chg hc h1, fun i hi => (hc.cell (p := ⟨G, i, none⟩) h.lt h2).trans (h.l i hi), Nat.lt_of_lt_of_le h.lt hc.size, h.hk⟩
def tIx (k d h : Nat) : Nat := if k = 1 then 0 else bitN h d
theorem tIx_lt {k d h : Nat} (hk : k = 1 ∨ (k = 2 ∧ d ≤ 15)) : tIx k d h < k := by
  unfold tIx
  split
  · omega
  · have := bitN_lt h d; omega
end Go.Proofs.YtannohinhlefaaaGreatDoor

namespace Go.Proofs.YtannohinhlefaaaGreatDoor
open Go.RowKit Go.Proofs
attribute [local go_sem] neq_nilG eql_nilG
def evS (k d : Nat) (s : (Nat → TabS) × Nat) (e : EntS) : (Nat → TabS) × Nat :=
  (upd s.1 (tIx k d e.hash.toNat) ((s.1 (tIx k d e.hash.toNat)).putT e.key e.val e.hash.toNat), s.2 + (s.1 (tIx k d e.hash.toNat)).looks e.key e.hash.toNat)
def evF (k d : Nat) (l : List EntS) (s : (Nat → TabS) × Nat) : (Nat → TabS) × Nat := l.foldl (evS k d) s
theorem evF_snoc (k d : Nat) (l : List EntS) (e : EntS) (s : (Nat → TabS) × Nat) : evF k d (l ++ [e]) s = evS k d (evF k d l s) e := by unfold evF; rw [List.foldl_append]; rfl
theorem evF_take {k d j : Nat} {l : List EntS} (hj : j < l.length) (s : (Nat → TabS) × Nat) : evF k d (l.take (j + 1)) s = evS k d (evF k d (l.take j) s) l[j] := by
  rw [← evF_snoc, List.take_append_getElem hj]
def EvOk (k d : Nat) (l : List EntS) (U : Nat → TabS) : Prop := ∀ j (h : j < l.length), ((evF k d (l.take j) (U, 0)).1 (tIx k d l[j].hash.toNat)).putB l[j].key l[j].hash.toNat = true
theorem addN_add (mt : MeterS) (x y z : Int) (p q : Nat) : addN (addN mt x y z p) x y z q = addN mt x y z (p + q) := by
  induction q with
  | zero => rfl
  | succ q ih => show (addN (addN mt x y z p) x y z q).add x y z = _; rw [ih]; rfl
structure ESep (V O Q G M k : Nat) (TB R : Nat → Nat) (n0 : Nat) : Prop where
  o : n0 ≤ V ∧ n0 ≤ O ∧ n0 ≤ Q ∧ n0 ≤ G ∧ n0 ≤ M
  v : V ≠ O ∧ V ≠ Q ∧ V ≠ G ∧ V ≠ M
  g : G ≠ O ∧ G ≠ Q ∧ G ≠ M
  m : M ≠ O ∧ M ≠ Q
  tv : ∀ i, i < k → TB i ≠ V ∧ TB i ≠ G ∧ TB i ≠ M ∧ TB i ≠ O ∧ TB i ≠ Q
  rv : ∀ i, i < k → R i ≠ V ∧ R i ≠ G ∧ R i ≠ M ∧ R i ≠ O ∧ R i ≠ Q
  tt : ∀ i j, i < k → j < k → i ≠ j → TB i ≠ TB j ∧ TB i ≠ R j ∧ R i ≠ TB j ∧ R i ≠ R j
structure EV (w : World) (V O Q G cap k : Nat) (TB R : Nat → Nat) (d next : Nat) (T : TabS) (U : Nat → TabS) (M : Nat) (mt : MeterS) (E : Nat → Addr) (w0 : World) : Prop where
  e : EW w V O G cap k TB d next
  t : TN w O Q T E w0
  u : ∀ i, i < k → TN w (TB i) (R i) (U i) E w0
  m : Blk w M 38 mt.cells
  s : ESep V O Q G M k TB R w0.heap.size
section
variable {w w' w0 : World} {V O Q G cap k : Nat} {TB R : Nat → Nat} {d next : Nat} {T : TabS} {U : Nat → TabS} {M : Nat} {mt : MeterS} {E : Nat → Addr}
theorem EV.later (h : EV w V O Q G cap k TB R d next T U M mt E w0) (hb : Below w.heap.size w w') : EV w' V O Q G cap k TB R d next T U M mt E w0 :=
  ⟨h.e.later hb, h.t.later hb, fun i hi => (h.u i hi).later hb, h.m.below hb h.m.lt, h.s⟩
theorem EV.alloc (h : EV w V O Q G cap k TB R d next T U M mt E w0) (o : Obj) : EV (w.alloc o) V O Q G cap k TB R d next T U M mt E w0 := h.later ((Below.refl _ _).alloc (Nat.le_refl _) o)
theorem EV.drew (h : EV w V O Q G cap k TB R d next T U M mt E w0) : EV w.drew V O Q G cap k TB R d next T U M mt E w0 := h.later (Below.refl _ _).drew
theorem EV.chg {X : Nat → Prop} (h : EV w V O Q G cap k TB R d next T U M mt E w0) (hc : Chg X w w') (hX : ∀ b, X b → w0.heap.size ≤ b) (h1 : ¬ X V ∧ ¬ X O ∧ ¬ X Q ∧ ¬ X G ∧ ¬ X M) (h2 : ∀ i, i < k → ¬ X (TB i) ∧ ¬ X (R i)) : EV w' V O Q G cap k TB R d next T U M mt E w0 :=
  ⟨h.e.chg hc h1.1 h1.2.2.2.1, TMW.chg h.t hc hX h1.2.1 h1.2.2.1 (fun b e => by cases e), fun i hi => TMW.chg (h.u i hi) hc hX (h2 i hi).1 (h2 i hi).2 (fun b e => by cases e), h.m.chg hc h1.2.2.2.2, h.s⟩
theorem EV.put (h : EV w V O Q G cap k TB R d next T U M mt E w0) {i : Nat} (hi : i < k) (key v : Int) (hs : Nat) (hh : hs < 18446744073709551616) (x y z : Int) :
    Calls Tryz.prog 31 #[.pointer (some ⟨TB i, 0, none⟩), .agg #[.pointer (some ⟨M, 0, none⟩), .int .i64 x, .int .i64 y, .int .i64 z], .agg #[.int .u64 key, .int .u64 v, .int .u64 (hs : Int)]] w fun e w' =>
      e = .returned (.tuple #[.bool ((U i).putB key hs), errN E ((U i).putN key hs)]) ∧ EV w' V O Q G cap k TB R d next T (upd U i ((U i).putT key v hs)) M (addN mt x y z ((U i).looks key hs)) E w0 ∧ Chg (fun b => b = M ∨ b = TB i ∨ b = R i) w w' := by
  have ho := h.s.o
  have tv := h.s.tv i hi
  have rv := h.s.rv i hi
  have hv := h.s.v
  have hg := h.s.g
  have hm := h.s.m
  have hTB := (h.u i hi).hB
  have hR := (h.u i hi).hQ
  refine (TN.putM (h.u i hi) h.m (fun e => tv.2.2.1 e.symm) (fun e => rv.2.2.1 e.symm) ho.2.2.2.2 key v hs hh x y z).mono ?_
  rintro e w' ⟨rfl, h1, h2, h3⟩
  refine ⟨rfl, ⟨h.e.chg h3 (by rintro (e | e | e); exact hv.2.2.2 e; exact tv.1 e.symm; exact rv.1 e.symm) (by rintro (e | e | e); exact hg.2.2 e; exact tv.2.1 e.symm; exact rv.2.1 e.symm), TN.chg3 h.t h3 ho.2.2.2.2 hTB hR ⟨Ne.symm hm.1, Ne.symm tv.2.2.2.1, Ne.symm rv.2.2.2.1⟩ ⟨Ne.symm hm.2, Ne.symm tv.2.2.2.2, Ne.symm rv.2.2.2.2⟩, fun j hj => ?_, h2, h.s⟩, h3⟩
  by_cases e : j = i
  · subst e; rw [upd_same]; exact h1
  · rw [upd_other _ _ e]
    have tt := h.s.tt j i hj hi e
    have tvj := h.s.tv j hj
    have rvj := h.s.rv j hj
    exact TN.chg3 (h.u j hj) h3 ho.2.2.2.2 hTB hR ⟨tvj.2.2.1, tt.1, tt.2.1⟩ ⟨rvj.2.2.1, tt.2.2.1, tt.2.2.2⟩
theorem EV.take (h : EV w V O Q G cap k TB R d next T U M mt E w0) (hn : next < T.n) (x y z : Int) :
    Calls Tryz.prog 43 #[.pointer (some ⟨O, 0, none⟩), .agg #[.pointer (some ⟨M, 0, none⟩), .int .i64 x, .int .i64 y, .int .i64 z], .int .i64 (next : Int)] w fun e w' =>
      ∃ v, e = .returned (.tuple #[v, .nilIface]) ∧ w'.ownsRow w.heap.size 47 3 v (entsL (T.M next) (T.S next)).length (entV (entsL (T.M next) (T.S next))) ∧ EV w' V O Q G cap k TB R d next (T.takeT next) U M (mt.add x y z) E w0 ∧ Chg (fun b => b = M ∨ b = O ∨ b = Q) w w' := by
  have ho := h.s.o
  have hv := h.s.v
  have hg := h.s.g
  have hm := h.s.m
  refine ((TMW.meter h.t h.m hm.1 hm.2 ho.2.2.2.2).take next hn _ (LensAt.m M) x y z).mono ?_
  rintro e w' ⟨v, rfl, h1, h2, h3⟩
  have h4 : Chg (fun b => b = M ∨ b = O ∨ b = Q) w w' := h3.mono (fun b _ e => by
    rcases e with e | e
    · exact .inl (Option.some.inj e).symm
    · exact .inr e)
  refine ⟨v, rfl, h1, ⟨h.e.chg h4 (by rintro (e | e | e) <;> omega) (by rintro (e | e | e) <;> omega), h2.unmeter, fun j hj => ?_, h2.m M rfl, h.s⟩, h4⟩
  have tvj := h.s.tv j hj
  have rvj := h.s.rv j hj
  exact TN.chg3 (h.u j hj) h4 ho.2.2.2.2 ho.2.1 ho.2.2.1 ⟨tvj.2.2.1, tvj.2.2.2.1, tvj.2.2.2.2⟩ ⟨rvj.2.2.1, rvj.2.2.2.1, rvj.2.2.2.2⟩
structure ESt (wr : World) (V O Q G cap k : Nat) (TB R : Nat → Nat) (d next : Nat) (T' : TabS) (l : List EntS) (s : (Nat → TabS) × Nat) (M : Nat) (mt : MeterS) (E : Nat → Addr) (base : Nat) (vl : Value) (w0 w : World) : Prop where
  e : EV wr V O Q G cap k TB R d next T' s.1 M (addN mt 0 1 0 s.2) E w0
  r : wr.ownsRow base 47 3 vl l.length (entV l)
  c : Chg (fun b => b = M ∨ b = O ∨ b = Q ∨ b = V ∨ ∃ i, i < k ∧ (b = TB i ∨ b = R i)) w wr
theorem ESt.later {wr w' w : World} {T' : TabS} {l : List EntS} {s : (Nat → TabS) × Nat} {base : Nat} {vl : Value} (h : ESt wr V O Q G cap k TB R d next T' l s M mt E base vl w0 w) (hb : Below wr.heap.size wr w') : ESt w' V O Q G cap k TB R d next T' l s M mt E base vl w0 w :=
  ⟨h.e.later hb, ownsRow_later h.r hb, h.c.thenBelow hb⟩
theorem ESt.drew {wr w : World} {T' : TabS} {l : List EntS} {s : (Nat → TabS) × Nat} {base : Nat} {vl : Value} (h : ESt wr V O Q G cap k TB R d next T' l s M mt E base vl w0 w) : ESt wr.drew V O Q G cap k TB R d next T' l s M mt E base vl w0 w := h.later (Below.refl _ _).drew
end
end Go.Proofs.YtannohinhlefaaaGreatDoor

namespace Go.Proofs.YtannohinhlefaaaGreatDoor
open Go.RowKit Go.Proofs
attribute [local go_sem] neq_nilG eql_nilG
end Go.Proofs.YtannohinhlefaaaGreatDoor
