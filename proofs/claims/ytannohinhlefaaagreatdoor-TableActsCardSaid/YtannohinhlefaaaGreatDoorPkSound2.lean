/- Texts joined: SoundP Sound SoundCk SoundPath Made10 SoundL. No condition but those that stand within. -/
import Derived.Maps.OwnSet
import Derived.Maps.OwnOps
import Derived.Lib.Bytealg
import Derived.Test.YtannohinhlefaaaGreatDoorPkSwar
import Derived.Test.YtannohinhlefaaaGreatDoorPkMeter
import Derived.Test.YtannohinhlefaaaGreatDoorPkErrs
import Derived.Test.YtannohinhlefaaaGreatDoorPkGroup
import Derived.Test.YtannohinhlefaaaGreatDoorPkTab
import Derived.Test.YtannohinhlefaaaGreatDoorPkTab2
import Derived.Test.YtannohinhlefaaaGreatDoorPkTab3
import Derived.Test.YtannohinhlefaaaGreatDoorPkTake
import Derived.Test.YtannohinhlefaaaGreatDoorPkTabM
import Derived.Test.YtannohinhlefaaaGreatDoorPkEvac
import Derived.Test.YtannohinhlefaaaGreatDoorPkSound
import Derived.Test.YtannohinhlefaaaGreatDoorPkRef09
import Derived.Test.YtannohinhlefaaaGreatDoorPkEvac2
import Derived.Test.YtannohinhlefaaaGreatDoorPkEvac3
set_option linter.unusedVariables false
set_option linter.unusedSimpArgs false
namespace Go.Proofs.YtannohinhlefaaaGreatDoor
open Go.RowKit Go.Proofs
theorem entsTo_len (T : TabS) : ∀ k, (entsTo' T k).length ≤ 8 * k
  | 0 => by simp [entsTo']
  | k + 1 => by rw [entsTo_snoc, List.length_append]; have := entsTo_len T k; have := entsL_len (T.M k) (T.S k); omega
theorem looks_bd {T : TabS} (hT : TGood T) (key : Int) (h : Nat) : 1 ≤ T.looks key h ∧ T.looks key h ≤ T.n := by
  have hn := hT.bounds
  have h1 := (lookN_spec (fun j => T.stop key h (T.wk h j)) T.n 0)
  unfold TabS.looks
  have h2 := h1.2.1
  have h3 := h1.2.2.1 (by omega)
  omega
end Go.Proofs.YtannohinhlefaaaGreatDoor

namespace Go.Proofs.YtannohinhlefaaaGreatDoor
open Go.RowKit Go.Proofs
attribute [local go_sem] neq_nilG eql_nilG
attribute [local go_sem high] run_maxZ
theorem entV_one (l : List EntS) : ∀ u ∈ entV l, u.oneCell' = true := by
  intro u hu
  unfold entV at hu
  simp only [List.mem_flatMap, e3, List.mem_cons, List.not_mem_nil, or_false] at hu
  obtain ⟨e, -, rfl | rfl | rfl⟩ := hu <;> rfl
theorem wpList_append_ents {w : World} {ops : Array Oper} {rest : List Oper} {o : Oper} {a : Act} {Q : Exit → Act → World → Prop} (hgd : o.guard = none) (s x : Operand)
    (ho : o.op = .call { callee := .builtin .append, args := #[s, x], argTypes := #[68, 68] })
    (base : Nat) (v : Value) (l1 : List EntS) (hs : a.eval s = v) (hown : w.ownsRow base 47 3 v l1.length (entV l1))
    (y : Value) (base2 : Nat) (l2 : List EntS) (hx : a.eval x = y) (hy : w.ownsRow base2 47 3 y l2.length (entV l2)) (hlen : l1.length + l2.length ≤ 1000000) (hbase : base ≤ w.heap.size)
    (h : ∀ v' w', w'.ownsRow base 47 3 v' (l1 ++ l2).length (entV (l1 ++ l2)) → Below base w w' → w.grownBy w' v.ownBlock → wpList Tryz.prog ops Q rest (a.put o.dst v') w') : wpList Tryz.prog ops Q (o :: rest) a w := by
  obtain ⟨i0, hi, hz0, hz1, hz2⟩ := info_parts infoET
  rcases hy.2 with ⟨e, h0⟩ | ⟨g, cap, cur, e, hb, hh, hr⟩
  · have hl2 : l2 = [] := List.eq_nil_of_length_eq_zero h0
    subst hl2
    subst e
    refine wpList_append_own_none hgd _ _ 68 ho base 47 i0 3 Tryz.underlying68 hi _ _ _ hs hown hx ?_
    have := h v w (by simpa using hown) (Below.refl _ _) ⟨rfl, rfl, rfl, Nat.le_refl _, fun _ _ _ => rfl⟩
    exact this
  · subst e
    refine wpList_append_own w hgd _ _ 68 ho base 47 i0 (.agg #[.int .u64 0, .int .u64 0, .int .u64 0]) 3 24 Tryz.underlying68 hi hz0 hz1 hz2 rfl (by decide) _ _ _ hs hown ⟨g, 0, none⟩ l2.length cap (entV l2) hx (entV_length _) (fun j u hu => hy.cells (g := g) rfl j u hu) (entV_one _) (by unfold maxLen; omega) (by omega) hbase ?_
    intro v' w' h1 h2 _
    exact h v' w' (by rw [List.length_append, entV_append]; exact h1) ((Below.refl base w).grown h2 hbase (fun q eq => (hown.lt q eq).1)) h2
section
variable {w w' w0 : World} {B Q : Nat} {T : TabS} {E : Nat → Addr}
structure SR (wx : World) (M O B Q : Nat) (T : TabS) (mt : MeterS) (E : Nat → Addr) (w0 w : World) : Prop where
  t : TMW wx B Q (some M) T mt E w0
  o : Blk wx O 47 #[.int .u64 0, .int .u64 0, .int .u64 0]
  b : Below w.heap.size w wx
theorem SR.later {wx w' w w0 : World} {M O B Q : Nat} {T : TabS} {mt : MeterS} {E : Nat → Addr} (h : SR wx M O B Q T mt E w0 w) (hb : Below wx.heap.size wx w') : SR w' M O B Q T mt E w0 w := ⟨h.t.later hb, h.o.below hb h.o.lt, h.b.trans (hb.mono h.b.size)⟩
theorem SR.alloc {wx w w0 : World} {M O B Q : Nat} {T : TabS} {mt : MeterS} {E : Nat → Addr} (h : SR wx M O B Q T mt E w0 w) (o : Obj) : SR (wx.alloc o) M O B Q T mt E w0 w := h.later ((Below.refl _ _).alloc (Nat.le_refl _) o)
theorem SR.drew {wx w w0 : World} {M O B Q : Nat} {T : TabS} {mt : MeterS} {E : Nat → Addr} (h : SR wx M O B Q T mt E w0 w) : SR wx.drew M O B Q T mt E w0 w := h.later (Below.refl _ _).drew
theorem SR.find {wx w' w w0 : World} {M O B Q : Nat} {T : TabS} {mt mt' : MeterS} {E : Nat → Addr} (h : SR wx M O B Q T mt E w0 w) (ht : TMW w' B Q (some M) T mt' E w0) (hc : Chg (fun b => some M = some b) wx w') (hM : w.heap.size ≤ M) (hO : O ≠ M) : SR w' M O B Q T mt' E w0 w :=
  ⟨ht, h.o.chg hc (fun e => hO (Option.some.inj e).symm), h.b.trans (hc.below (n := w.heap.size) h.b.size (fun b hb e => by have := Option.some.inj e; omega))⟩
theorem SR.m {wx w w0 : World} {M O B Q : Nat} {T : TabS} {mt : MeterS} {E : Nat → Addr} (h : SR wx M O B Q T mt E w0 w) : Blk wx M 38 mt.cells := h.t.m M rfl
theorem SR.new {wx w' w w0 : World} {M O B Q P : Nat} {T : TabS} {mt : MeterS} {E : Nat → Addr} (h : SR wx M O B Q T mt E w0 w) (hc : Chg (fun b => b = P) wx w') (h0 : w0.heap.size ≤ P ∧ w.heap.size ≤ P) (h1 : P ≠ B ∧ P ≠ Q ∧ P ≠ M ∧ P ≠ O) : SR w' M O B Q T mt E w0 w :=
  ⟨h.t.chg hc (by rintro b rfl; exact h0.1) (fun e => h1.1 e.symm) (fun e => h1.2.1 e.symm) (fun b e e2 => h1.2.2.1 (by rw [← e2]; exact (Option.some.inj e).symm)), h.o.chg hc (fun e => h1.2.2.2 e.symm), h.b.trans (hc.below (n := w.heap.size) h.b.size (fun b hb e => by subst e; omega))⟩
end
end Go.Proofs.YtannohinhlefaaaGreatDoor

namespace Go.Proofs.YtannohinhlefaaaGreatDoor
open Go.RowKit Go.Proofs Go.Maps
attribute [local go_sem] neq_nilG eql_nilG
def KB (T : TabS) : Prop := ∀ i g k, T.At i g k → 0 ≤ i ∧ i < 18446744073709551616
section
variable {w w' w0 : World} {B Q : Nat} {T : TabS} {E : Nat → Addr} {H : Int → Nat}
end
end Go.Proofs.YtannohinhlefaaaGreatDoor

namespace Go.Proofs.YtannohinhlefaaaGreatDoor
open Go.RowKit Go.Proofs
attribute [local go_sem] Oper.semAt_some wide_depth round_depth wide_fn round_fn
def TabS.pl (T : TabS) (h : Nat) : Nat := lookN (fun j => openB (T.M (T.wk h j))) T.n 0
section
variable {w w' w0 : World} {B Q : Nat} {T : TabS} {E : Nat → Addr}
end
end Go.Proofs.YtannohinhlefaaaGreatDoor

namespace Go.Proofs.YtannohinhlefaaaGreatDoor
open Go.RowKit Go.Proofs
attribute [local go_sem] neq_nilG eql_nilG
structure S10 (T : TabS) (n1 : Nat) (G : Nat → Nat) : Prop where
  f : TFun T (hashH n1 G)
  k : ∀ q, T.has q (hashH n1 G q) = true → 0 ≤ q ∧ q < n1
theorem S10.new {g n1 : Nat} {G : Nat → Nat} (hr : rightB (g : Int) = true) : S10 (TabS.new g) n1 G := ⟨TFun.new hr _, fun q hq => by rw [new_no hr] at hq; cases hq⟩
theorem S10.put {T : TabS} {n1 : Nat} {G : Nat → Nat} (h : S10 T n1 G) {x : Nat} (hx : x < n1) (hG : ∀ i, hashH n1 G i < 18446744073709551616) (v : Int) : S10 (T.putT (x : Int) v (hashH n1 G x)) n1 G := by
  refine ⟨h.f.putT _ v (hG _), fun q hq => ?_⟩
  rw [(h.f.put_at (x : Int) v (hG _) q).1] at hq
  by_cases e : q = (x : Int)
  · subst e; omega
  · rw [if_neg e] at hq; exact h.k q hq
theorem S10.del {T : TabS} {n1 : Nat} {G : Nat → Nat} (h : S10 T n1 G) (x : Int) : S10 (T.delT x (hashH n1 G x)) n1 G := by
  refine ⟨h.f.delT _ _, fun q hq => ?_⟩
  rw [(h.f.del_at x q).1] at hq
  by_cases e : q = x
  · rw [if_pos e] at hq; cases hq
  · rw [if_neg e] at hq; exact h.k q hq
theorem S10.take {T : TabS} {n1 : Nat} {G : Nat → Nat} (h : S10 T n1 G) {i : Nat} (hi : i < T.n) : S10 (T.takeT i) n1 G := by
  refine ⟨h.f.takeT hi, fun q hq => ?_⟩
  obtain ⟨g, k, ha⟩ := (h.f.takeT hi).has_iff.1 hq
  rw [at_takeT hi] at ha
  exact h.k q (h.f.has_of ha.2)
theorem nilT (w : World) : (binOp .eql 25 (.pointer none) (.pointer none)).run Tryz.prog w = .ok (.bool true) w := by kernel_rfl
end Go.Proofs.YtannohinhlefaaaGreatDoor

namespace Go.Proofs.YtannohinhlefaaaGreatDoor
open Go.RowKit Go.Proofs
attribute [local go_sem] neq_nilG eql_nilG
end Go.Proofs.YtannohinhlefaaaGreatDoor
