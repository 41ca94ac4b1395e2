/- Texts joined: SwarPlain Range Mem Chg Seq Swar EqInts SwarRef SwarFirst SwarIter SwarRef2 SwarCount SwarBack. No condition but those that stand within. -/
import Derived.WalkKit
import Derived.IntWalk
import Derived.Laws.Bits64
import Derived.Laws.Bits64b
import Derived.RangeFuncNested
import Derived.RangeFuncBound
import Derived.RangeFuncCalls
import Derived.RangeFuncLeaves
import Derived.OwnWalkIn
import Derived.TacticsInMore
import Derived.LoopNIn
import Derived.LoopIn
import Derived.Shelf.Abstract
import Derived.Handy
import Derived.Lib.Hide
import Derived.WalkSmall
import Derived.OrdersHeld
import Derived.Deep.MidRow
import Derived.Deep.RegionHeld3
import Derived.KernelRfl
import Derived.Test.YtolhmibejhldkaaDoorProg
import Derived.ChangeKeysEq
import Derived.LoopN
import Derived.Lib.TrailingZeros
import Derived.LoopTactic
import Derived.Deep.Cut
import Derived.Maps.AppendAt
set_option linter.unusedVariables false
set_option linter.unusedSimpArgs false
namespace Go.Proofs.YtolhmibejhldkaaDoor
open Go.RowKit
def ln (w i : Nat) : Nat := w / 2 ^ (8 * i) % 2 ^ 8
def ofL (l : Nat → Nat) : Nat := l 0 + 256 * l 1 + 65536 * l 2 + 16777216 * l 3 + 4294967296 * l 4 + 1099511627776 * l 5 + 281474976710656 * l 6 + 72057594037927936 * l 7
theorem ln_lt (w i : Nat) : ln w i < 256 := Nat.mod_lt _ (by decide)
theorem lt8 {i : Nat} (h : i < 8) : i = 0 ∨ i = 1 ∨ i = 2 ∨ i = 3 ∨ i = 4 ∨ i = 5 ∨ i = 6 ∨ i = 7 := by omega
theorem ln_ofL (l : Nat → Nat) (hl : ∀ i, i < 8 → l i < 256) (i : Nat) (hi : i < 8) : ln (ofL l) i = l i := by
  have h0 := hl 0 (by omega); have h1 := hl 1 (by omega); have h2 := hl 2 (by omega); have h3 := hl 3 (by omega)
  have h4 := hl 4 (by omega); have h5 := hl 5 (by omega); have h6 := hl 6 (by omega); have h7 := hl 7 (by omega)
  rcases lt8 hi with rfl | rfl | rfl | rfl | rfl | rfl | rfl | rfl <;> simp only [ofL, ln, Nat.reduceMul, Nat.reducePow] <;> omega
theorem ofL_lt (l : Nat → Nat) (hl : ∀ i, i < 8 → l i < 256) : ofL l < 18446744073709551616 := by
  have h0 := hl 0 (by omega); have h1 := hl 1 (by omega); have h2 := hl 2 (by omega); have h3 := hl 3 (by omega)
  have h4 := hl 4 (by omega); have h5 := hl 5 (by omega); have h6 := hl 6 (by omega); have h7 := hl 7 (by omega)
  unfold ofL; omega
def rep (b : Nat) : Nat := 72340172838076673 * b
theorem rep_ofL (b : Nat) : rep b = ofL (fun _ => b) := by unfold rep ofL; dsimp only; omega
theorem ln_rep (b i : Nat) (hb : b < 256) (hi : i < 8) : ln (rep b) i = b := by rw [rep_ofL, ln_ofL _ (fun _ _ => hb) i hi]
def highB (w : Nat) (i : Nat) : Bool := decide (128 ≤ ln w i)
def equalB (w b : Nat) (i : Nat) : Bool := decide (ln w i = b)
def setL (w i b : Nat) : Nat := ofL (fun k => if k = i then b else ln w k)
theorem setL_bd (w i b : Nat) (hb : b < 256) : ∀ k, k < 8 → (if k = i then b else ln w k) < 256 := fun k _ => by split <;> first | exact hb | exact ln_lt _ _
theorem setL_lt (w i b : Nat) (hb : b < 256) : setL w i b < 18446744073709551616 := ofL_lt _ (setL_bd w i b hb)
theorem ln_setL (w i b k : Nat) (hb : b < 256) (hk : k < 8) : ln (setL w i b) k = if k = i then b else ln w k := ln_ofL _ (setL_bd w i b hb) k hk
theorem at_ofL (c i : Nat) (hi : i < 8) : c * 2 ^ (8 * i) = ofL (fun k => if k = i then c else 0) := by
  rcases lt8 hi with rfl | rfl | rfl | rfl | rfl | rfl | rfl | rfl <;> simp [ofL] <;> omega
theorem at_lt (c i : Nat) (hc : c < 256) (hi : i < 8) : c * 2 ^ (8 * i) < 18446744073709551616 := by
  rw [at_ofL c i hi]; exact ofL_lt _ fun k _ => by split <;> omega
end Go.Proofs.YtolhmibejhldkaaDoor

namespace Go.Proofs.YtolhmibejhldkaaDoor
open Go.RowKit
theorem wide_depth : (Fence.wide.depth.isSome = true) = False := by simp [Fence.wide]
theorem round_depth (l : Nat) : ((Fence.wide.inRound l).depth.isSome = true) = False := by simp [Fence.wide, Fence.inRound]
theorem wide_fn (f : Nat) : Fence.wide.fn f = True := by simp [Fence.wide]
theorem round_fn (l f : Nat) : (Fence.wide.inRound l).fn f = True := by simp [Fence.wide, Fence.inRound]
def Same (S : Nat → Prop) (W W' : World) : Prop := ∀ b, S b → W'.heap[b]? = W.heap[b]?
theorem Same.refl (S : Nat → Prop) (W : World) : Same S W W := fun _ _ => rfl
theorem Same.trans {S : Nat → Prop} {A B C : World} (h : Same S A B) (k : Same S B C) : Same S A C := fun b hb => (k b hb).trans (h b hb)
theorem Same.of_below {S : Nat → Prop} {n : Nat} {W W' : World} (h : Below n W W') (hS : ∀ b, S b → b < n) : Same S W W' := fun b hb => h.block b (hS b hb)
theorem Same.cell {S : Nat → Prop} {W W' : World} (h : Same S W W') {a : Addr} (ha : S a.block) : W'.cell? a = W.cell? a := World.cell?_of_block (h _ ha)
theorem Same.putObj {S : Nat → Prop} {W : World} {l : Nat} (o' : Obj) (hl : ¬ S l) : Same S W (W.putObj l o') := fun b hb => World.putObj_heap_other (fun e => hl (e ▸ hb))
theorem Same.setCell {S : Nat → Prop} {W : World} {a : Addr} (v : Value) (ha : ¬ S a.block) : Same S W (W.setCell a v) := fun b hb => Below.heap_setCell W a v b (fun e => ha (e ▸ hb))
theorem Same.alloc {S : Nat → Prop} {W : World} (o : Obj) (hS : ∀ b, S b → b < W.heap.size) : Same S W (W.alloc o) := fun b hb => Below.heap_alloc W o b (hS b hb)
theorem Same.grown {S : Nat → Prop} {W W' : World} {row : Option Nat} (hg : W.grownBy W' row) (hS : ∀ b, S b → b < W.heap.size) (hr : ∀ b, S b → some b ≠ row) : Same S W W' := fun b hb => hg.block b (hS b hb) (hr b hb)
def GivesAt (P : Program) (g : Nat) (lb : Array Value) (encs : Nat → Array Value) (N : Nat) (S : Nat → Prop) (w : World) : Prop :=
  ∀ (l : Nat) (J : Nat → World → Prop) (Jx : World → Prop) (W : World), Same S w W →
    (∀ i A B, J i A → A.grownBy B none → J i B) →
    (∀ i W1, i < N → J i W1 → Same S W W1 → YieldAt Fence.wide 0 P l (encs i) W1 fun e W' =>
      (e = .returned (.bool true) ∧ J (i + 1) W' ∧ Same S W1 W') ∨ (e = .returned (.bool false) ∧ Jx W')) →
    (∀ A B, Jx A → A.grownBy B none → Jx B) →
    J 0 W →
    CallsIn Fence.wide 0 P g (#[.func (.yield l) #[] #[]] ++ lb) W fun e W' => (∃ v, e = .returned v) ∧ (J N W' ∨ Jx W')
theorem GivesAt.later {P : Program} {g : Nat} {lb : Array Value} {encs : Nat → Array Value} {N : Nat} {S : Nat → Prop} {w W : World} (h : GivesAt P g lb encs N S w) (hb : Same S w W) : GivesAt P g lb encs N S W :=
  fun l J Jx V hV => h l J Jx V (hb.trans hV)
theorem below_putObj {m : Nat} {W : World} {l : Nat} {o : Obj} (o' : Obj) (hB : m ≤ l) (hl : W.heap[l]? = some o) : Below m W (W.putObj l o') :=
  (Below.refl m W).grown (grownBy_putObj' W l o') (by have := (Array.getElem?_eq_some_iff.1 hl).1; omega) (fun k e => by cases e; exact hB)
end Go.Proofs.YtolhmibejhldkaaDoor

namespace Go.Proofs.YtolhmibejhldkaaDoor
open Go.RowKit
def Blk (W : World) (B : Nat) (T : TypeId) (c : Array Value) : Prop := W.heap[B]? = some (.cells c T (0, 0))
theorem Blk.lt {W : World} {B : Nat} {T : TypeId} {c : Array Value} (h : Blk W B T c) : B < W.heap.size := (Array.getElem?_eq_some_iff.1 h).1
theorem Blk.cell {W : World} {B : Nat} {T : TypeId} {c : Array Value} (h : Blk W B T c) (j : Nat) : W.cell? ⟨B, j, none⟩ = c[j]? := by simp [World.cell?, show W.heap[B]? = _ from h]
theorem Blk.frozen {W : World} {B : Nat} {T : TypeId} {c : Array Value} (h : Blk W B T c) (j : Nat) : W.frozen? ⟨B, j, none⟩ = false := by simp [World.frozen?, show W.heap[B]? = _ from h]
theorem Blk.new (W : World) (T : TypeId) (c : Array Value) : Blk (W.alloc (.cells c T)) W.heap.size T c := World.alloc_heap_new W _
theorem Blk.new_at {W : World} {T : TypeId} {c : Array Value} {B : Nat} (h : B = W.heap.size) : Blk (W.alloc (.cells c T)) B T c := by subst h; exact World.alloc_heap_new W _
theorem Blk.kept {W W' : World} {row : Option Nat} {B : Nat} {T : TypeId} {c : Array Value} (h : Blk W B T c) (hg : W.grownBy W' row) (hne : some B ≠ row) : Blk W' B T c := (hg.block B h.lt hne).trans h
theorem Blk.alloc {W : World} {B : Nat} {T : TypeId} {c : Array Value} (h : Blk W B T c) (o : Obj) : Blk (W.alloc o) B T c := h.kept (World.grownBy_alloc W o none) (by simp)
theorem Blk.drew {W : World} {B : Nat} {T : TypeId} {c : Array Value} (h : Blk W B T c) : Blk W.drew B T c := h
theorem Blk.below {n : Nat} {W W' : World} {B : Nat} {T : TypeId} {c : Array Value} (h : Blk W B T c) (hb : Below n W W') (hB : B < n) : Blk W' B T c := (hb.block B hB).trans h
theorem Blk.set {W : World} {B : Nat} {T : TypeId} {c : Array Value} (h : Blk W B T c) (j : Nat) (v : Value) : Blk (W.setCell ⟨B, j, none⟩ v) B T (c.setIfInBounds j v) := by
  obtain ⟨hlt, hk⟩ := Array.getElem?_eq_some_iff.1 h
  show (W.heap.modify B _)[B]? = _
  rw [Array.getElem?_eq_getElem (by rw [Array.size_modify]; exact hlt), Array.getElem_modify_self, hk]
  rfl
theorem Blk.other {W : World} {B B' : Nat} {T : TypeId} {c : Array Value} (h : Blk W B T c) (hne : B ≠ B') (j : Nat) (v : Value) : Blk (W.setCell ⟨B', j, none⟩ v) B T c :=
  (Below.heap_setCell W ⟨B', j, none⟩ v B hne).trans h
theorem Blk.putObj {W : World} {B : Nat} {T : TypeId} {c : Array Value} (h : Blk W B T c) {l : Nat} (hne : B ≠ l) (o : Obj) : Blk (W.putObj l o) B T c := (World.putObj_heap_other hne).trans h
theorem Blk.boxed {W : World} {B : Nat} {T : TypeId} {v : Value} (h : Blk W B T #[v]) : Boxed W B T v := h
def ReadsInts (w : World) (v : Value) (xs : List Int) : Prop :=
  ∃ a cap, v = .slice a xs.length cap ∧ (xs ≠ [] → ∃ b off, a = some ⟨b, off, none⟩ ∧ ∀ i (h : i < xs.length), w.cell? ⟨b, off + i, none⟩ = some (.int .i64 xs[i]))
theorem readsInts_own {w : World} {base : Nat} {e : TypeId} {v : Value} {n : Nat} {xs : List Int} (h : w.ownsRow base e 1 v n (xs.map (Value.int .i64))) : ReadsInts w v xs := by
  have hl : xs.length = n := by have := h.1; simpa using this
  rcases h.2 with ⟨rfl, h0⟩ | ⟨g, cap, cur, rfl, hb, hg, h1, h2, h3, h4⟩
  · subst h0
    obtain rfl : xs = [] := by simpa using hl
    exact ⟨none, 0, rfl, fun h => absurd rfl h⟩
  · subst hl
    refine ⟨_, cap, rfl, fun _ => ⟨g, 0, rfl, fun i hi => ?_⟩⟩
    have := h.cells (g := g) rfl i (Value.int .i64 xs[i]) (by simp [hi])
    simp only [Addr.add] at this
    split at this
    · subst i; exact this
    · exact this
theorem ReadsInts.opened {w : World} {a : Option Addr} {n cap : Nat} {xs : List Int} (h : ReadsInts w (.slice a n cap) xs) :
    n = xs.length ∧ (xs ≠ [] → ∃ b off, a = some ⟨b, off, none⟩ ∧ ∀ i (h : i < xs.length), w.cell? ⟨b, off + i, none⟩ = some (.int .i64 xs[i])) := by
  obtain ⟨a', cap', e, hx⟩ := h
  simp only [Value.slice.injEq] at e
  obtain ⟨rfl, h1, rfl⟩ := e
  exact ⟨h1, hx⟩
theorem ReadsInts.later {w w' : World} {v : Value} {xs : List Int} (h : ReadsInts w v xs) (hb : Below w.heap.size w w') : ReadsInts w' v xs := by
  obtain ⟨a, cap, rfl, hx⟩ := h
  refine ⟨a, cap, rfl, fun hne => ?_⟩
  obtain ⟨b, off, rfl, hc⟩ := hx hne
  exact ⟨b, off, rfl, fun i hi => (hb.cell (p := ⟨b, off + i, none⟩) (World.block_lt_of_cell? w ⟨b, off + i, none⟩ (hc i hi))).trans (hc i hi)⟩
section laws
variable {P : Program} {F : Fence} {n : Nat} {ops : Array Oper} {rest : List Oper} {o : Oper} {a : Act} {Q : Exit → Act → World → Prop} {w w' : World} {v : Value}
end laws
section ends
variable {P : Program} {F : Fence} {n : Nat} {fn : Func} {R : Ending → World → Prop} {tmps : Array Value} {W : World} {D : Nat}
theorem end_mark {v : Value} (hK : W.heap[D]? = some (.deferred (some []))) (hr : (results fn tmps).run P (W.putObj D (.deferred none)) = .ok v (W.putObj D (.deferred none)))
    (hR : R (.returned v) (W.putObj D (.deferred none))) (e : Exit) (he : e = .ret ∨ e = .normal) : bodyPostM F n P fn R e { tmps := tmps, defers := [{ target := Target.collected D, args := #[] }] } W := by
  rcases he with rfl | rfl
  · exact ⟨by simp, .inl ⟨_, _, rfl, run_takeDeferred hK, ⟨v, hr, hR⟩⟩⟩
  · exact ⟨by simp, .inl ⟨_, _, rfl, run_takeDeferred hK, ⟨v, hr, hR⟩⟩⟩
end ends
end Go.Proofs.YtolhmibejhldkaaDoor

namespace Go.Proofs.YtolhmibejhldkaaDoor
open Go.RowKit
structure Chg (X : Nat → Prop) (w w' : World) : Prop where
  os : w'.os = w.os
  tape : w'.tape = w.tape
  output : w'.output = w.output
  size : w.heap.size ≤ w'.heap.size
  block : ∀ k, k < w.heap.size → ¬ X k → w'.heap[k]? = w.heap[k]?
theorem Chg.refl (X : Nat → Prop) (w : World) : Chg X w w := ⟨rfl, rfl, rfl, Nat.le_refl _, fun _ _ _ => rfl⟩
theorem Chg.trans' {X Y : Nat → Prop} {a b c : World} (h : Chg X a b) (k : Chg Y b c) (hs : ∀ i, i < a.heap.size → Y i → X i) : Chg X a c :=
  ⟨k.os.trans h.os, k.tape.trans h.tape, k.output.trans h.output, Nat.le_trans h.size k.size, fun i hi hx => (k.block i (Nat.lt_of_lt_of_le hi h.size) (fun hy => hx (hs i hi hy))).trans (h.block i hi hx)⟩
theorem Chg.trans {X : Nat → Prop} {a b c : World} (h : Chg X a b) (k : Chg X b c) : Chg X a c := h.trans' k (fun _ _ h => h)
theorem Chg.mono {X Y : Nat → Prop} {a b : World} (h : Chg X a b) (hs : ∀ i, i < a.heap.size → X i → Y i) : Chg Y a b :=
  ⟨h.os, h.tape, h.output, h.size, fun i hi hy => h.block i hi (fun hx => hy (hs i hi hx))⟩
theorem Chg.of_below {X : Nat → Prop} {w w' : World} (h : Below w.heap.size w w') : Chg X w w' := ⟨h.os, h.tape, h.output, h.size, fun k hk _ => h.block k hk⟩
theorem Chg.thenBelow {X : Nat → Prop} {a b c : World} (h : Chg X a b) (k : Below b.heap.size b c) : Chg X a c := h.trans (Chg.of_below k)
theorem Chg.below {X : Nat → Prop} {n : Nat} {w w' : World} (h : Chg X w w') (hn : n ≤ w.heap.size) (hx : ∀ k, k < n → ¬ X k) : Below n w w' :=
  ⟨h.os, h.tape, h.output, h.size, fun k hk => h.block k (Nat.lt_of_lt_of_le hk hn) (hx k hk)⟩
theorem Chg.alloc {X : Nat → Prop} {a w : World} (h : Chg X a w) (o : Obj) : Chg X a (w.alloc o) := h.trans (Chg.of_below ((Below.refl _ w).alloc (Nat.le_refl _) o))
theorem Chg.drew {X : Nat → Prop} {a w : World} (h : Chg X a w) : Chg X a w.drew := ⟨h.os, h.tape, h.output, h.size, h.block⟩
theorem Chg.drewN {X : Nat → Prop} {a w : World} (h : Chg X a w) (n : Nat) : Chg X a (w.drewN n) := ⟨h.os, h.tape, h.output, h.size, h.block⟩
theorem Chg.setCell {X : Nat → Prop} {a w : World} (h : Chg X a w) {p : Addr} (hp : X p.block ∨ a.heap.size ≤ p.block) (u : Value) : Chg X a (w.setCell p u) :=
  ⟨h.os, h.tape, h.output, by simpa [World.setCell] using h.size, fun k hk hx => by
    rw [Below.heap_setCell _ _ _ _ (fun e => by
      rcases hp with hp | hp
      · exact hx (e ▸ hp)
      · omega)]
    exact h.block k hk hx⟩
theorem Chg.set1 {B : Nat} {a w : World} (h : Chg (fun b => b = B) a w) (off : Nat) (u : Value) : Chg (fun b => b = B) a (w.setCell ⟨B, off, none⟩ u) := h.setCell (.inl rfl) u
theorem Chg.cell {X : Nat → Prop} {w w' : World} (h : Chg X w w') {p : Addr} (hp : p.block < w.heap.size) (hx : ¬ X p.block) : w'.cell? p = w.cell? p := World.cell?_of_block (w := w) (h.block _ hp hx)
theorem Chg.frozen {X : Nat → Prop} {w w' : World} (h : Chg X w w') {p : Addr} (hp : p.block < w.heap.size) (hx : ¬ X p.block) : w'.frozen? p = w.frozen? p := World.frozen?_of_block (w := w) (h.block _ hp hx)
theorem Chg.cells {X : Nat → Prop} {w w' : World} (h : Chg X w w') : ∀ b o, b < w.heap.size → ¬ X b → w'.cell? ⟨b, o, none⟩ = w.cell? ⟨b, o, none⟩ := fun b o hb hx => h.cell (p := ⟨b, o, none⟩) hb hx
theorem Chg.keep {X : Nat → Prop} {w w' : World} (h : Chg X w w') {a : Addr} {v : Value} (hc : w.cell? a = some v) (hx : ¬ X a.block) : w'.cell? a = some v := (h.cell (World.block_lt_of_cell? _ _ hc) hx).trans hc
theorem Blk.chg {X : Nat → Prop} {w w' : World} {B : Nat} {T : TypeId} {c : Array Value} (hb : Blk w B T c) (h : Chg X w w') (hx : ¬ X B) : Blk w' B T c := (h.block B hb.lt hx).trans hb
theorem Chg.blk {X : Nat → Prop} {w w' : World} {B : Nat} {T : TypeId} {c : Array Value} (h : Chg X w w') (hb : Blk w B T c) (hx : ¬ X B) : Blk w' B T c := hb.chg h hx
theorem Chg.undrew {X : Nat → Prop} {w w' : World} (h : Chg X w.drew w') : Chg X w w' := ⟨h.os, h.tape, h.output, h.size, h.block⟩
theorem Below.undrew {n : Nat} {w w' : World} (h : Below n w.drew w') : Below n w w' := ⟨h.os, h.tape, h.output, h.size, h.block⟩
theorem bcell {W w1 : World} (hb : Below W.heap.size W w1) : (∀ b o, b < W.heap.size → w1.cell? ⟨b, o, none⟩ = W.cell? ⟨b, o, none⟩) ∧ (∀ b o, b < W.heap.size → w1.frozen? ⟨b, o, none⟩ = W.frozen? ⟨b, o, none⟩) :=
  ⟨fun b o h => hb.cell (p := ⟨b, o, none⟩) h, fun b o h => hb.frozen (p := ⟨b, o, none⟩) h⟩
theorem setRow_size (w : World) (g : Nat) (cs : Array Value) : (w.setRow g cs).heap.size = w.heap.size := by simp [World.setRow]
theorem setRow_other (w : World) (g : Nat) (cs : Array Value) {b : Nat} (h : b ≠ g) : (w.setRow g cs).heap[b]? = w.heap[b]? := by
  simp only [World.setRow, Array.getElem?_modify]
  rw [if_neg (by omega)]
theorem Blk.setRow {w : World} {g : Nat} {T : TypeId} {cur : Array Value} (h : Blk w g T cur) (cs : Array Value) : Blk (w.setRow g cs) g T cs := by
  obtain ⟨hlt, hk⟩ := Array.getElem?_eq_some_iff.1 h
  show (w.heap.modify g _)[g]? = _
  rw [Array.getElem?_eq_getElem (by rw [Array.size_modify]; exact hlt), Array.getElem_modify_self, hk]
theorem Below.setRow {n : Nat} {a w : World} (h : Below n a w) {g : Nat} (hg : n ≤ g) (cs : Array Value) : Below n a (w.setRow g cs) :=
  h.trans ⟨rfl, rfl, rfl, by rw [setRow_size]; exact Nat.le_refl _, fun k hk => setRow_other w g cs (by omega)⟩
theorem Chg.setRow {X : Nat → Prop} {a w : World} (h : Chg X a w) {g : Nat} (hp : X g ∨ a.heap.size ≤ g) (cs : Array Value) : Chg X a (w.setRow g cs) :=
  ⟨h.os, h.tape, h.output, by rw [setRow_size]; exact h.size, fun k hk hx => by
    rw [setRow_other _ _ _ (fun e => by
      rcases hp with hp | hp
      · exact hx (e ▸ hp)
      · omega)]
    exact h.block k hk hx⟩
section
variable {P : Program} {w : World}
end
end Go.Proofs.YtolhmibejhldkaaDoor

namespace Go.Proofs.YtolhmibejhldkaaDoor
open Go.RowKit
structure Note where
  direct : Nat
  ahead : Nat
  dst : Nat
  looks : Nat
  kind : Nat
def maskL (l : List Nat) : Nat := l.foldl (fun m i => m ||| 2 ^ i) 0
theorem maskL_acc (l : List Nat) (m i : Nat) : (l.foldl (fun m i => m ||| 2 ^ i) m).testBit i = (m.testBit i || l.contains i) := by
  induction l generalizing m with
  | nil => simp
  | cons x l ih =>
    rw [List.foldl_cons, ih, Nat.testBit_or, Nat.testBit_two_pow, List.contains_cons, Bool.or_assoc]
    congr 2
    rw [Bool.eq_iff_iff, decide_eq_true_iff, beq_iff_eq]
    exact eq_comm
theorem maskL_bit (l : List Nat) (i : Nat) : (maskL l).testBit i = l.contains i := by rw [maskL, maskL_acc]; simp
def bound (md : Region.Mode) (o : Oper) : List Nat := o.after.toList.filterMap fun e => if Region.binds md e then some e.on else none
def dstL (o : Oper) : List Nat := o.dst.toList
def notesOk (md : Region.Mode) (ops : Array Oper) (ns : Array Note) : Bool :=
  ns.size == ops.size && (List.range ops.size).all fun j => match ops[j]?, ns[j]? with
    | some o, some n =>
      let b := bound md o
      n.direct == maskL b && b.all (· < ops.size) &&
      n.ahead == b.foldl (fun m i => m ||| 2 ^ i ||| (if i < j then (ns[i]?.map (·.ahead)).getD 0 else 0)) 0 &&
      n.dst == maskL (dstL o) && n.looks == maskL (o.looksAt ops)
    | _, _ => false
def ready (n : Note) (L j : Nat) : Bool := !L.testBit j && (n.direct &&& L == n.direct)
def flagged (n : Note) (loads j : Nat) : Bool := (loads &&& (n.ahead ||| 2 ^ j)) != loads
def apartN (x y : Note) : Bool := (x.dst &&& (y.looks ||| y.dst) == 0) && (y.dst &&& x.looks == 0)
def planOk (ns : Array Note) (loads : Nat) : List Nat → Nat → Bool
  | [], L => (List.range ns.size).all fun j => L.testBit j
  | i :: rest, L => match ns[i]? with
    | none => false
    | some n => ready n L i && (n.kind != 1 || loads.testBit i) &&
      (if n.kind < 2 then (List.range ns.size).all fun j => j == i || L.testBit j || (match ns[j]? with | some m => m.ahead.testBit i || apartN n m | none => true)
       else (List.range ns.size).all fun j => j == i || match ns[j]? with | some m => !ready m L j | none => true) &&
      (n.kind < 3 || !flagged n loads i) &&
      planOk ns loads rest (L ||| 2 ^ i)
section
variable {P : Program} {ops : Array Oper} {Q : Exit → Act → World → Prop} {md : Region.Mode} {X : Nat → Prop}
def wpSeq (P : Program) (ops : Array Oper) (Q : Exit → Act → World → Prop) (X : Nat → Prop) : List (Nat × Nat) → Act → World → Prop
  | [], a, w => Q .normal a w
  | (i, k) :: rest, a, w =>
    if k = 0 then ∃ o v, ops[i]? = some o ∧ Yields P ops o v a ∧ wpSeq P ops Q X rest (a.put o.dst v) w
    else if k = 1 then ∃ o v, ops[i]? = some o ∧ YieldsIf P ops (Chg X w) o v a ∧ wpSeq P ops Q X rest (a.put o.dst v) w
    else if k = 2 then wpOp P ops Q i (fun a' w' => Chg X w w' ∧ wpSeq P ops Q X rest a' w') a w
    else wpOp P ops Q i (wpSeq P ops Q X rest) a w
def wpAnyF (P : Program) (ops : Array Oper) (ns : Array Note) (fl : Nat → Bool) (Q : Exit → Act → World → Prop) (X : Nat → Prop) : Nat → Nat → Act → World → Prop
  | 0, L, a, w => (∀ j n, ns[j]? = some n → ready n L j = false) ∧ Q .normal a w
  | fuel + 1, L, a, w =>
    ((∀ j n, ns[j]? = some n → ready n L j = false) → Q .normal a w) ∧
    ∀ j n, ns[j]? = some n → ready n L j = true → wpOp P ops Q j (fun a' w' => (fl j = true → Chg X w w') ∧ wpAnyF P ops ns fl Q X fuel (L ||| 2 ^ j) a' w') a w
variable {ns : Array Note} {fl : Nat → Bool}
theorem bit_or {L i j : Nat} : (L ||| 2 ^ i).testBit j = (L.testBit j || decide (i = j)) := by rw [Nat.testBit_or, Nat.testBit_two_pow]
theorem and_eq_left_iff {x L : Nat} : (x &&& L == x) = true ↔ ∀ i, x.testBit i = true → L.testBit i = true := by
  rw [beq_iff_eq]
  constructor
  · intro h i hi
    have := congrArg (·.testBit i) h
    simp only [Nat.testBit_and, hi, Bool.true_and] at this
    exact this
  · intro h
    apply Nat.eq_of_testBit_eq
    intro i
    rw [Nat.testBit_and]
    cases hx : x.testBit i
    · simp
    · simp [h i hx]
theorem ready_iff {n : Note} {L j : Nat} : ready n L j = true ↔ L.testBit j = false ∧ ∀ i, n.direct.testBit i = true → L.testBit i = true := by
  simp only [ready, Bool.and_eq_true, Bool.not_eq_true', and_eq_left_iff]
theorem ready_more {n : Note} {L i j : Nat} (h : ready n L j = true) (hne : j ≠ i) : ready n (L ||| 2 ^ i) j = true := by
  rw [ready_iff] at *
  refine ⟨by rw [bit_or, h.1]; simp [Ne.symm hne], fun k hk => by rw [bit_or, h.2 k hk]; rfl⟩
def closedL (ns : Array Note) (L : Nat) : Prop := ∀ j n, ns[j]? = some n → L.testBit j = true → ∀ i, n.direct.testBit i = true → L.testBit i = true
theorem closed_more {L j : Nat} {n : Note} (hc : closedL ns L) (hn : ns[j]? = some n) (hr : ready n L j = true) : closedL ns (L ||| 2 ^ j) := by
  intro k m hk hL i hi
  rw [bit_or] at hL ⊢
  rw [ready_iff] at hr
  rcases Bool.or_eq_true _ _ ▸ hL with h | h
  · rw [hc k m hk h i hi]; rfl
  · have : j = k := of_decide_eq_true h
    subst this
    rw [hn] at hk; cases hk
    rw [hr.2 i hi]; rfl
def AheadOk (ns : Array Note) : Prop := ∀ (j : Nat) (n : Note), ns[j]? = some n → ∀ i, n.ahead.testBit i = true → n.direct.testBit i = true ∨ ∃ (k : Nat) (m : Note), k < j ∧ ns[k]? = some m ∧ n.direct.testBit k = true ∧ m.ahead.testBit i = true
theorem ahead_listed (ha : AheadOk ns) {L : Nat} (hc : closedL ns L) : ∀ (j : Nat) (n : Note), ns[j]? = some n → (∀ i, n.direct.testBit i = true → L.testBit i = true) → ∀ i, n.ahead.testBit i = true → L.testBit i = true := by
  intro j
  induction j using Nat.strongRecOn with
  | ind j ih =>
    intro n hn hd i hi
    rcases ha j n hn i hi with h | ⟨k, m, hk, hm, hdk, hmi⟩
    · exact hd i h
    · exact ih k hk m hm (fun x hx => hc k m hm (hd k hdk) x hx) i hmi
theorem wpAnyF_first {T : World → Prop} {i : Nat} {oi : Oper} {v : Value} (ha : AheadOk ns) (hsz : ns.size = ops.size) (hi : ops[i]? = some oi) (hsel : ∀ (j : Nat) (o : Oper) cs b, ops[j]? = some o → o.op ≠ .select cs b)
    (hQ : ∀ c a w, Q (.panic c) (a.put oi.dst v) w → Q (.panic c) a w) :
    ∀ (fuel L : Nat) (a : Act) (w : World), closedL ns L → L.testBit i = false →
      (∀ (j : Nat) (n : Note) (oj : Oper), ns[j]? = some n → ops[j]? = some oj → j ≠ i → L.testBit j = false → n.ahead.testBit i = false → oi.apart ops oj = true ∧ ∀ u u', (fl j = true → Chg X u u') → T u → T u') →
      (∀ n, ns[i]? = some n → ready n L i = true) → YieldsIf P ops T oi v a → T w →
      wpAnyF P ops ns fl Q X fuel (L ||| 2 ^ i) (a.put oi.dst v) w → wpAnyF P ops ns fl Q X (fuel + 1) L a w := by
  intro fuel
  induction fuel with
  | zero =>
    intro L a w hc hLi hfree hr hy hT H
    have hlt : i < ns.size := by rw [hsz]; exact (Array.getElem?_eq_some_iff.1 hi).1
    refine ⟨fun h => absurd (h i _ (Array.getElem?_eq_getElem hlt)) (by rw [hr _ (Array.getElem?_eq_getElem hlt)]; simp), fun j n hn hj => ?_⟩
    by_cases hji : j = i
    · subst hji; exact hy.wpOp hi hT ⟨fun _ => Chg.refl _ _, H⟩
    · have := H.1 j n hn
      rw [ready_more hj hji] at this
      cases this
  | succ fuel ih =>
    intro L a w hc hLi hfree hr hy hT H
    have hlt : i < ns.size := by rw [hsz]; exact (Array.getElem?_eq_some_iff.1 hi).1
    refine ⟨fun h => absurd (h i _ (Array.getElem?_eq_getElem hlt)) (by rw [hr _ (Array.getElem?_eq_getElem hlt)]; simp), fun j n hn hj => ?_⟩
    by_cases hji : j = i
    · subst hji; exact hy.wpOp hi hT ⟨fun _ => Chg.refl _ _, H⟩
    · have h1 := H.2 j n hn (ready_more hj hji)
      have hjl : j < ops.size := by rw [← hsz]; exact (Array.getElem?_eq_some_iff.1 hn).1
      obtain ⟨oj, hoj⟩ : ∃ oj, ops[j]? = some oj := ⟨_, Array.getElem?_eq_getElem hjl⟩
      have hjun := (ready_iff.1 hj).1
      have hahead : n.ahead.testBit i = false := by
        cases hb : n.ahead.testBit i
        · rfl
        · have := ahead_listed ha hc j n hn (ready_iff.1 hj).2 i hb
          rw [hLi] at this; cases this
      obtain ⟨hap, hTj⟩ := hfree j n oj hn hoj hji hjun hahead
      have h2 := wpOp_putIf hoj hap (fun cs b => hsel i oi cs b hi) (fun cs b => hsel j oj cs b hoj) hQ hy h1
      refine wpOp_mono (fun a' w' h3 => ⟨h3.2.1, ?_⟩) h2
      have hLi' : (L ||| 2 ^ j).testBit i = false := by rw [bit_or, hLi]; simp [hji]
      refine ih (L ||| 2 ^ j) a' w' (closed_more hc hn hj) hLi' (fun k m ok hk hok hki hun hah => hfree k m ok hk hok hki ?_ hah) (fun m hm => ready_more (hr m hm) (Ne.symm hji)) h3.1 (hTj w w' h3.2.1 hT) ?_
      · rw [bit_or, Bool.or_eq_false_iff] at hun; exact hun.1
      · rw [show (L ||| 2 ^ j) ||| 2 ^ i = (L ||| 2 ^ i) ||| 2 ^ j by rw [Nat.or_assoc, Nat.or_comm (2 ^ j), ← Nat.or_assoc]]
        exact h3.2.2
theorem wpAnyF_only {i : Nat} {fuel L : Nat} {a : Act} {w : World} (hi : i < ns.size)
    (hr : ∀ n, ns[i]? = some n → ready n L i = true) (ho : ∀ (j : Nat) (n : Note), ns[j]? = some n → j ≠ i → ready n L j = false)
    (h : wpOp P ops Q i (fun a' w' => (fl i = true → Chg X w w') ∧ wpAnyF P ops ns fl Q X fuel (L ||| 2 ^ i) a' w') a w) : wpAnyF P ops ns fl Q X (fuel + 1) L a w := by
  refine ⟨fun hn => absurd (hn i _ (Array.getElem?_eq_getElem hi)) (by rw [hr _ (Array.getElem?_eq_getElem hi)]; simp), fun j n hn hj => ?_⟩
  by_cases hji : j = i
  · subst hji; exact h
  · rw [ho j n hn hji] at hj; cases hj
theorem notesOk_spec (h : notesOk md ops ns = true) : ns.size = ops.size ∧ AheadOk ns ∧
    (∀ (j : Nat) (n : Note) (o : Oper), ns[j]? = some n → ops[j]? = some o → n.direct = maskL (bound md o) ∧ n.dst = maskL (dstL o) ∧ n.looks = maskL (o.looksAt ops) ∧ ∀ i ∈ bound md o, i < ops.size) := by
  simp only [notesOk, Bool.and_eq_true, beq_iff_eq, List.all_eq_true, List.mem_range] at h
  obtain ⟨hs, hall⟩ := h
  have key : ∀ (j : Nat) (n : Note) (o : Oper), ns[j]? = some n → ops[j]? = some o → (n.direct = maskL (bound md o) ∧ (∀ i ∈ bound md o, i < ops.size)) ∧
      n.ahead = (bound md o).foldl (fun m i => m ||| 2 ^ i ||| (if i < j then (ns[i]?.map (·.ahead)).getD 0 else 0)) 0 ∧ n.dst = maskL (dstL o) ∧ n.looks = maskL (o.looksAt ops) := by
    intro j n o hn ho
    have h1 := hall j (Array.getElem?_eq_some_iff.1 ho).1
    simp only [hn, ho, Bool.and_eq_true, beq_iff_eq, List.all_eq_true, decide_eq_true_eq] at h1
    obtain ⟨⟨⟨⟨a, b⟩, c⟩, d⟩, e⟩ := h1
    exact ⟨⟨a, b⟩, c, d, e⟩
  refine ⟨hs, fun j n hn i hi => ?_, fun j n o hn ho => ⟨(key j n o hn ho).1.1, (key j n o hn ho).2.2.1, (key j n o hn ho).2.2.2, (key j n o hn ho).1.2⟩⟩
  have hjl : j < ops.size := by rw [← hs]; exact (Array.getElem?_eq_some_iff.1 hn).1
  obtain ⟨⟨hd, _⟩, ha, _, _⟩ := key j n _ hn (Array.getElem?_eq_getElem hjl)
  rw [ha] at hi
  have gen : ∀ (l : List Nat) (m : Nat), (l.foldl (fun m i => m ||| 2 ^ i ||| (if i < j then (ns[i]?.map (·.ahead)).getD 0 else 0)) m).testBit i = true →
      m.testBit i = true ∨ i ∈ l ∨ ∃ (k : Nat) (x : Note), k ∈ l ∧ k < j ∧ ns[k]? = some x ∧ x.ahead.testBit i = true := by
    intro l
    induction l with
    | nil => intro m h; exact .inl h
    | cons y l ih =>
      intro m h
      rw [List.foldl_cons] at h
      rcases ih _ h with h | h | ⟨k, x, hk, h1, h2, h3⟩
      · rw [Nat.testBit_or, bit_or, Bool.or_eq_true, Bool.or_eq_true] at h
        rcases h with (h | h) | h
        · exact .inl h
        · exact .inr (.inl (by simp [of_decide_eq_true h]))
        · split at h
          · rename_i hy
            cases hx : ns[y]? with
            | none => simp [hx] at h
            | some x => exact .inr (.inr ⟨y, x, by simp, hy, hx, by simpa [hx] using h⟩)
          · simp at h
      · exact .inr (.inl (by simp [h]))
      · exact .inr (.inr ⟨k, x, by simp [hk], h1, h2, h3⟩)
  rcases gen _ _ hi with h | h | ⟨k, x, hk, h1, h2, h3⟩
  · simp at h
  · exact .inl (by rw [hd, maskL_bit]; simpa using h)
  · exact .inr ⟨k, x, h1, h2, by rw [hd, maskL_bit]; simpa using hk, h3⟩
theorem and_zero {a b i : Nat} (h : a &&& b = 0) (ha : a.testBit i = true) : b.testBit i = false := by
  have := congrArg (·.testBit i) h
  simpa [Nat.testBit_and, ha] using this
theorem apart_of {x y : Oper} {m n : Note} (hm : m.dst = maskL (dstL x)) (hm' : m.looks = maskL (x.looksAt ops)) (hn : n.dst = maskL (dstL y)) (hn' : n.looks = maskL (y.looksAt ops))
    (h : apartN m n = true) : x.apart ops y = true := by
  simp only [apartN, Bool.and_eq_true, beq_iff_eq] at h
  obtain ⟨h1, h2⟩ := h
  have a1 : ∀ d, x.dst = some d → ¬ (y.looksAt ops).contains d = true ∧ y.dst ≠ some d := fun d hd => by
    have hb : m.dst.testBit d = true := by rw [hm, maskL_bit]; simp [dstL, hd]
    have := and_zero h1 hb
    rw [Nat.testBit_or, Bool.or_eq_false_iff, hn, hn', maskL_bit, maskL_bit] at this
    refine ⟨by rw [this.1]; simp, fun hy => ?_⟩
    have h' := this.2
    simp [dstL, hy] at h'
  have a2 : ∀ d, y.dst = some d → ¬ (x.looksAt ops).contains d = true := fun d hd => by
    have hb : n.dst.testBit d = true := by rw [hn, maskL_bit]; simp [dstL, hd]
    have := and_zero h2 hb
    rw [hm', maskL_bit] at this
    rw [this]; simp
  unfold Oper.apart
  rw [Bool.and_eq_true]
  constructor
  · cases hx : x.dst with
    | none => rfl
    | some d =>
      have := a1 d hx
      simp only [Bool.and_eq_true, Bool.not_eq_true', bne_iff_ne, ne_eq]
      exact ⟨by simpa using this.1, this.2⟩
  · cases hy : y.dst with
    | none => rfl
    | some d => have := a2 d hy; simpa using this
theorem yieldsT {o : Oper} {v : Value} {a : Act} (h : Yields P ops o v a) : YieldsIf P ops (fun _ => True) o v a :=
  h.imp (fun ⟨hw, hv⟩ => ⟨hw, fun w _ => hv w⟩) id
theorem wpAnyF_of_seq {loads : Nat} (hn : notesOk md ops ns = true) (hsel : Region.noSelect ops = true) (hQ : ∀ c (a : Act) d v w, Q (.panic c) (a.put d v) w → Q (.panic c) a w) :
    ∀ (pl : List (Nat × Nat)) (L : Nat) (a : Act) (w : World), closedL ns L → (∀ x ∈ pl, ∀ n, ns[x.1]? = some n → n.kind = x.2) → planOk ns loads (pl.map (·.1)) L = true →
      wpSeq P ops Q X pl a w → wpAnyF P ops ns (fun j => match ns[j]? with | some n => flagged n loads j | none => false) Q X pl.length L a w := by
  obtain ⟨hsz, hah, hnote⟩ := notesOk_spec hn
  have hsel' := Region.noSelect_spec hsel
  intro pl
  induction pl with
  | nil =>
    intro L a w hc hk hp h
    simp only [List.map_nil, planOk, List.all_eq_true, List.mem_range] at hp
    refine ⟨fun j n hj => ?_, h⟩
    have := hp j (Array.getElem?_eq_some_iff.1 hj).1
    simp [ready, this]
  | cons x pl ih =>
    intro L a w hc hk hp h
    obtain ⟨i, k⟩ := x
    simp only [List.map_cons, planOk] at hp
    cases hni : ns[i]? with
    | none => simp [hni] at hp
    | some n =>
      have hkn : n.kind = k := hk (i, k) (by simp) n hni
      simp only [hni, Bool.and_eq_true] at hp
      obtain ⟨⟨⟨⟨hr, hld⟩, hcase⟩, hfl⟩, hrest⟩ := hp
      have hiL := (ready_iff.1 hr).1
      have hil : i < ns.size := (Array.getElem?_eq_some_iff.1 hni).1
      have hr' : ∀ m, ns[i]? = some m → ready m L i = true := fun m hm => by rw [hni] at hm; cases hm; exact hr
      have hc' : closedL ns (L ||| 2 ^ i) := closed_more hc hni hr
      have hk' : ∀ x ∈ pl, ∀ n, ns[x.1]? = some n → n.kind = x.2 := fun x hx => hk x (by simp [hx])
      have hfree : n.kind < 2 → ∀ (j : Nat) (m : Note) (oi oj : Oper), ns[j]? = some m → ops[i]? = some oi → ops[j]? = some oj → j ≠ i → L.testBit j = false → m.ahead.testBit i = false → oi.apart ops oj = true := by
        intro hlt j m oi oj hm hoi hoj hji hjL hja
        rw [if_pos hlt] at hcase
        have := List.all_eq_true.1 hcase j (List.mem_range.2 (Array.getElem?_eq_some_iff.1 hm).1)
        simp only [hm, hjL, hja, Bool.or_false, Bool.false_or, Bool.or_eq_true, beq_iff_eq, hji, false_or] at this
        obtain ⟨_, d1, d2, _⟩ := hnote i n oi hni hoi
        obtain ⟨_, e1, e2, _⟩ := hnote j m oj hm hoj
        exact apart_of d1 d2 e1 e2 this
      unfold wpSeq at h
      by_cases k0 : k = 0
      · rw [if_pos k0] at h
        obtain ⟨o, v, ho, hy, h⟩ := h
        exact wpAnyF_first (T := fun _ => True) hah hsz ho hsel' (fun c a w => hQ c a _ _ w) _ L a w hc hiL (fun j m oj hm hoj hji hjL hja => ⟨hfree (by omega) j m o oj hm ho hoj hji hjL hja, fun _ _ _ _ => trivial⟩) hr' (yieldsT hy) trivial
          (ih _ _ _ hc' hk' hrest h)
      · rw [if_neg k0] at h
        by_cases k1 : k = 1
        · rw [if_pos k1] at h
          obtain ⟨o, v, ho, hy, h⟩ := h
          have hlb : loads.testBit i = true := by
            rcases Bool.or_eq_true _ _ ▸ hld with h' | h'
            · rw [bne_iff_ne] at h'; exact absurd (hkn.trans k1) h'
            · exact h'
          refine wpAnyF_first (T := Chg X w) hah hsz ho hsel' (fun c a w => hQ c a _ _ w) _ L a w hc hiL (fun j m oj hm hoj hji hjL hja => ⟨hfree (by omega) j m o oj hm ho hoj hji hjL hja, fun u u' hf hT => hT.trans (hf ?_)⟩) hr' hy (Chg.refl _ _)
            (ih _ _ _ hc' hk' hrest h)
          simp only [hm, flagged, bne_iff_ne, ne_eq]
          intro e
          have := congrArg (·.testBit i) e
          simp [Nat.testBit_and, Nat.testBit_or, hlb, hja, Nat.testBit_two_pow, hji] at this
        · rw [if_neg k1] at h
          have ho : ∀ (j : Nat) (m : Note), ns[j]? = some m → j ≠ i → ready m L j = false := by
            intro j m hm hji
            by_cases h2 : n.kind < 2
            · exact absurd (by omega : k = 0 ∨ k = 1) (by omega)
            · rw [if_neg h2] at hcase
              have := List.all_eq_true.1 hcase j (List.mem_range.2 (Array.getElem?_eq_some_iff.1 hm).1)
              simpa [hm, hji] using this
          by_cases k2 : k = 2
          · rw [if_pos k2] at h
            exact wpAnyF_only hil hr' ho (wpOp_mono (fun a' w' h' => ⟨fun _ => h'.1, ih _ _ _ hc' hk' hrest h'.2⟩) h)
          · rw [if_neg k2] at h
            refine wpAnyF_only hil hr' ho (wpOp_mono (fun a' w' h' => ⟨fun hf => ?_, ih _ _ _ hc' hk' hrest h'⟩) h)
            have h3 : ¬ n.kind < 3 := by omega
            rw [hni] at hf
            simp only [h3, decide_false, Bool.false_or, Bool.not_eq_true'] at hfl
            simp only [hfl] at hf
            cases hf
theorem wpAny_of_F (hn : notesOk md ops ns = true) : ∀ (fuel : Nat) (listed : Array Bool) (L : Nat) (a : Act) (w : World), (∀ j, j < ops.size → listed[j]? = some (L.testBit j)) →
    wpAnyF P ops ns fl Q X fuel L a w → wpAny P md ops Q fuel listed a w := by
  obtain ⟨hsz, hah, hnote⟩ := notesOk_spec hn
  have key : ∀ (listed : Array Bool) (L : Nat), (∀ j, j < ops.size → listed[j]? = some (L.testBit j)) → ∀ j, j ∈ Region.ready md ops listed ↔ ∃ n, ns[j]? = some n ∧ ready n L j = true := by
    intro listed L hl j
    rw [mem_ready]
    constructor
    · rintro ⟨h0, o, ho, h1⟩
      have hjl : j < ops.size := (Array.getElem?_eq_some_iff.1 ho).1
      obtain ⟨n, hnj⟩ : ∃ n, ns[j]? = some n := ⟨_, Array.getElem?_eq_getElem (by omega)⟩
      refine ⟨n, hnj, ready_iff.2 ⟨?_, fun i hi => ?_⟩⟩
      · simpa [hl j hjl] using h0
      · obtain ⟨hd, _, _, hb⟩ := hnote j n o hnj ho
        rw [hd, maskL_bit] at hi
        have hi' : i ∈ bound md o := by simpa using hi
        have hil := hb i hi'
        simp only [bound, List.mem_filterMap] at hi'
        obtain ⟨e, he, hb'⟩ := hi'
        split at hb'
        · rename_i hbd
          cases hb'
          have := h1 e (by simpa using he) hbd
          simpa [hl _ hil] using this
        · cases hb'
    · rintro ⟨n, hnj, hr⟩
      have hjl : j < ops.size := by rw [← hsz]; exact (Array.getElem?_eq_some_iff.1 hnj).1
      obtain ⟨h0, h1⟩ := ready_iff.1 hr
      refine ⟨by simp [hl j hjl, h0], _, Array.getElem?_eq_getElem hjl, fun e he hb => ?_⟩
      obtain ⟨hd, _, _, hbl⟩ := hnote j n _ hnj (Array.getElem?_eq_getElem hjl)
      have hm : e.on ∈ bound md ops[j] := by
        simp only [bound, List.mem_filterMap]
        exact ⟨e, by simpa using he, by simp [hb]⟩
      have := h1 e.on (by rw [hd, maskL_bit]; simpa using hm)
      simp [hl _ (hbl _ hm), this]
  have knil : ∀ (listed : Array Bool) (L : Nat), (∀ j, j < ops.size → listed[j]? = some (L.testBit j)) → (Region.ready md ops listed = [] ↔ ∀ (j : Nat) (n : Note), ns[j]? = some n → ready n L j = false) := by
    intro listed L hl
    rw [List.eq_nil_iff_forall_not_mem]
    constructor
    · intro h j n hnj
      cases hr : ready n L j
      · rfl
      · exact absurd ((key listed L hl j).2 ⟨n, hnj, hr⟩) (h j)
    · intro h j hj
      obtain ⟨n, hnj, hr⟩ := (key listed L hl j).1 hj
      rw [h j n hnj] at hr; cases hr
  intro fuel
  induction fuel with
  | zero => intro listed L a w hl h; exact ⟨(knil listed L hl).2 h.1, h.2⟩
  | succ fuel ih =>
    intro listed L a w hl h
    refine ⟨fun hr => h.1 ((knil listed L hl).1 hr), fun j hj => ?_⟩
    obtain ⟨n, hnj, hr⟩ := (key listed L hl j).1 hj
    refine wpOp_mono (fun a' w' h' => ih _ _ a' w' (fun k hk => ?_) h'.2) (h.2 j n hnj hr)
    rw [Array.getElem?_setIfInBounds, bit_or]
    by_cases hjk : j = k
    · subst hjk
      have := hl j hk
      have hs : j < listed.size := (Array.getElem?_eq_some_iff.1 this).1
      simp [hs]
    · simp [hjk, hl k hk]
theorem wp_region_seq {id : Nat} {a : Act} {w : World} (X : Nat → Prop) (ns : Array Note) (loads : Nat) (pl : List (Nat × Nat)) (hm : P.follows .mixedOrders = true)
    (hn : notesOk .any ops ns = true) (hsel : Region.noSelect ops = true) (hlen : pl.length = ops.size) (hk : (pl.all fun x => (ns[x.1]?.map (·.kind)).getD x.2 == x.2) = true) (hp : planOk ns loads (pl.map (·.1)) 0 = true)
    (hQ : ∀ c (a : Act) d v w, Q (.panic c) (a.put d v) w → Q (.panic c) a w) (h : wpSeq P ops Q X pl a w.drew) : (Code.region id ops true).wp P Q a w := by
  refine wp_region_any hm ?_
  rw [← hlen]
  refine wpAny_of_F hn pl.length _ 0 a _ (fun j hj => ?_) (wpAnyF_of_seq hn hsel hQ pl 0 a w.drew (fun j n _ h0 => by simp at h0) (fun x hx n hxn => ?_) hp h)
  · rw [Array.getElem?_replicate]; simp [hlen, hj]
  · have := List.all_eq_true.1 hk x hx
    simpa [hxn] using this
theorem wp_at {c : Code} {a : Act} {w : World} (h : ∀ W, W = w → c.wp P Q a W) : c.wp P Q a w := h w rfl
theorem Blk.range {w : World} {B : Nat} {T : TypeId} {c : Array Value} (h : Blk w B T c) (off : Nat) (cs : List Value) (hc : ∀ j v, cs[j]? = some v → c[off + j]? = some v) : w.rangeAt B off cs := fun j v hj => (h.cell (off + j)).trans (hc j v hj)
theorem Blk.whole {w : World} {B : Nat} {T : TypeId} {cs : List Value} (h : Blk w B T cs.toArray) : w.rangeAt B 0 cs := h.range 0 cs fun j v hj => by simpa using hj
theorem seq_nil {a : Act} {w : World} (h : Q .normal a w) : wpSeq P ops Q X [] a w := h
theorem seq_calc {i : Nat} {rest : List (Nat × Nat)} {o : Oper} {v : Value} {a : Act} {w : World} (ho : ops[i]? = some o) (hw : Region.wanted o (yielded ops a.tmps) = true)
    (hy : ∀ u, (execOp a.eval o).run P u = .ok (.value v) u) (h : wpSeq P ops Q X rest (a.put o.dst v) w) : wpSeq P ops Q X ((i, 0) :: rest) a w := by
  unfold wpSeq; rw [if_pos rfl]; exact ⟨o, v, ho, .inl ⟨hw, hy⟩, h⟩
theorem seq_skip {i k : Nat} {rest : List (Nat × Nat)} {o : Oper} {a : Act} {w : World} (ho : ops[i]? = some o) (hw : Region.wanted o (yielded ops a.tmps) = false)
    (h : wpSeq P ops Q X rest (a.put o.dst undef) w) : wpSeq P ops Q X ((i, k) :: rest) a w := by
  unfold wpSeq
  split
  · exact ⟨o, undef, ho, .inr ⟨hw, rfl⟩, h⟩
  split
  · exact ⟨o, undef, ho, .inr ⟨hw, rfl⟩, h⟩
  split
  · unfold wpOp; simp only [ho, hw, Bool.false_eq_true, if_false]; exact ⟨Chg.refl _ _, h⟩
  · unfold wpOp; simp only [ho, hw, Bool.false_eq_true, if_false]; exact h
theorem seq_load {i : Nat} {rest : List (Nat × Nat)} {o : Oper} {v : Value} {a : Act} {w : World} (ho : ops[i]? = some o) (hw : Region.wanted o (yielded ops a.tmps) = true)
    (hy : ∀ u, Chg X w u → (execOp a.eval o).run P u = .ok (.value v) u) (h : wpSeq P ops Q X rest (a.put o.dst v) w) : wpSeq P ops Q X ((i, 1) :: rest) a w := by
  unfold wpSeq; rw [if_neg (by decide), if_pos rfl]; exact ⟨o, v, ho, .inl ⟨hw, hy⟩, h⟩
theorem run_load_agg {t : TypeId} {b off : Nat} {cs : List Value} {d : TypeDesc} {w : World} (hu : P.underlying t = some d) (hd : d.isRow = true) (hi : (P.info? t).map (·.size) = some cs.length)
    (hc : w.rangeAt b off cs) : (Instr.loadAt t (.pointer (some ⟨b, off, none⟩))).run P w = .ok (.agg cs.toArray) w := run_loadAt_mid (P := P) w b off t cs d hc hu hd hi
theorem run_load_one {t : TypeId} {p : Addr} {v : Value} {d : TypeDesc} {w : World} (hu : P.underlying t = some d) (hd : d.isRow = false) (hc : w.cell? p = some v) :
    (Instr.loadAt t (.pointer (some p))).run P w = .ok v w := by
  have hag : (isAgg t).run P w = .ok false w := by
    unfold isAgg
    rw [Sem.run_bind, run_underlying hu w]
    cases d <;> simp_all [TypeDesc.isRow]
  simp [Instr.loadAt, Instr.sureAddr, loadVar, Sem.run_bind, hag, Result.andThen, hc]
def cellsAre (w : World) (b off : Nat) : List Value → Prop
  | [] => True
  | c :: cs => w.cell? ⟨b, off, none⟩ = some c ∧ cellsAre w b (off + 1) cs
theorem cellsAre_range {w : World} {b : Nat} : ∀ {cs : List Value} {off : Nat}, cellsAre w b off cs → w.rangeAt b off cs := by
  intro cs
  induction cs with
  | nil => intro off _ j v h; simp at h
  | cons c cs ih =>
    intro off h j v hj
    cases j with
    | zero => simp at hj; subst hj; exact h.1
    | succ j => have := ih h.2 j v (by simpa using hj); rwa [show off + 1 + j = off + (j + 1) by omega] at this
theorem range_chg {w u : World} {b off : Nat} {cs : List Value} (h : w.rangeAt b off cs) (hu : Chg X w u) (hX : ¬ X b) : u.rangeAt b off cs := fun j v hj => hu.keep (h j v hj) hX
theorem seq_load1 {i : Nat} {rest : List (Nat × Nat)} {o : Oper} {v : Value} {a : Act} {w : World} {t : TypeId} {x : Operand} {p : Addr} {d : TypeDesc} (ho : ops[i]? = some o) (hw : Region.wanted o (yielded ops a.tmps) = true)
    (hop : o.op = .load t x) (hx : a.eval x = .pointer (some p)) (hu : P.underlying t = some d) (hd : d.isRow = false) (hc : w.cell? p = some v) (hX : ¬ X p.block)
    (h : wpSeq P ops Q X rest (a.put o.dst v) w) : wpSeq P ops Q X ((i, 1) :: rest) a w :=
  seq_load ho hw (fun u hc' => by simp [execOp, hop, hx, Sem.run_bind, run_load_one (P := P) hu hd (hc'.keep hc hX), Result.andThen]) h
theorem seq_loads {i : Nat} {rest : List (Nat × Nat)} {o : Oper} (cs : List Value) {a : Act} {w : World} {t : TypeId} {x : Operand} {b off : Nat} {d : TypeDesc} (ho : ops[i]? = some o) (hw : Region.wanted o (yielded ops a.tmps) = true)
    (hop : o.op = .load t x) (hx : a.eval x = .pointer (some ⟨b, off, none⟩)) (hu : P.underlying t = some d) (hd : d.isRow = true) (hi : (P.info? t).map (·.size) = some cs.length) (hc : w.rangeAt b off cs) (hX : ¬ X b)
    (h : wpSeq P ops Q X rest (a.put o.dst (.agg cs.toArray)) w) : wpSeq P ops Q X ((i, 1) :: rest) a w :=
  seq_load ho hw (fun u hc' => by simp [execOp, hop, hx, Sem.run_bind, run_load_agg (P := P) hu hd hi (range_chg hc hc' hX), Result.andThen]) h
theorem seq_do {i : Nat} {rest : List (Nat × Nat)} {o : Oper} {a : Act} {w : World} (ho : ops[i]? = some o) (hw : Region.wanted o (yielded ops a.tmps) = true)
    (h : ∀ K : Act → World → Prop, Hid (∀ a' w', Chg X w w' → wpSeq P ops Q X rest a' w' → K a' w') → o.wp P a w K Q) : wpSeq P ops Q X ((i, 2) :: rest) a w := by
  unfold wpSeq; rw [if_neg (by decide), if_neg (by decide), if_pos rfl]
  unfold wpOp; simp only [ho, hw, if_true]; exact .inl (h _ (fun _ _ h1 h2 => ⟨h1, h2⟩))
theorem seq_last {i : Nat} {rest : List (Nat × Nat)} {o : Oper} {a : Act} {w : World} (ho : ops[i]? = some o) (hw : Region.wanted o (yielded ops a.tmps) = true)
    (h : ∀ K : Act → World → Prop, Hid (∀ a' w', wpSeq P ops Q X rest a' w' → K a' w') → o.wp P a w K Q) : wpSeq P ops Q X ((i, 3) :: rest) a w := by
  unfold wpSeq; rw [if_neg (by decide), if_neg (by decide), if_neg (by decide)]
  unfold wpOp; simp only [ho, hw, if_true]; exact .inl (h _ (fun _ _ h => h))
end
end Go.Proofs.YtolhmibejhldkaaDoor
namespace Go.Proofs.YtolhmibejhldkaaDoor
open Go.RowKit Go.Proofs
section
variable {P : Program} {ops : Array Oper} {Q : Exit → Act → World → Prop} {X : Nat → Prop} {i : Nat} {rest : List (Nat × Nat)} {o : Oper} {a : Act} {w : World}
theorem zqP {a' : Act} (h : wpSeq P ops Q X rest a' w) (e : a = a' := by first | (simp only [Act.put, List.setIfInBounds_toArray, List.set_cons_zero, List.set_cons_succ]; rfl) | rfl) : wpSeq P ops Q X rest a w := e ▸ h
theorem zqC {v : Value} {a' : Act} (h : wpSeq P ops Q X rest a' w) (ho : ops[i]? = some o := by simp only [List.getElem?_toArray, List.getElem?_cons_succ, List.getElem?_cons_zero]; rfl) (hw : Region.wanted o (yielded ops a.tmps) = true := by rfl)
  (hy : ∀ u, (execOp a.eval o).run P u = .ok (.value v) u := by intro u; go_simp <;> with_reducible rfl) (e : a.put o.dst v = a' := by first | (simp only [Act.put, List.setIfInBounds_toArray, List.set_cons_zero, List.set_cons_succ]; rfl) | rfl) : wpSeq P ops Q X ((i, 0) :: rest) a w := seq_calc ho hw hy (e ▸ h)
theorem zqA {v : Value} (h : wpSeq P ops Q X rest (a.put o.dst v) w) (ho : ops[i]? = some o := by simp only [List.getElem?_toArray, List.getElem?_cons_succ, List.getElem?_cons_zero]; rfl) (hw : Region.wanted o (yielded ops a.tmps) = true := by rfl)
  (hy : ∀ u, (execOp a.eval o).run P u = .ok (.value v) u := by intro u; go_simp <;> with_reducible rfl) : wpSeq P ops Q X ((i, 0) :: rest) a w := seq_calc ho hw hy h
theorem zqK {k : Nat} (h : wpSeq P ops Q X rest (a.put o.dst undef) w) (ho : ops[i]? = some o := by simp only [List.getElem?_toArray, List.getElem?_cons_succ, List.getElem?_cons_zero]; rfl) (hw : Region.wanted o (yielded ops a.tmps) = false := by rfl) : wpSeq P ops Q X ((i, k) :: rest) a w := seq_skip ho hw h
theorem zq1 {v : Value} {t : TypeId} {x : Operand} {p : Addr} {d : TypeDesc} (hu : P.underlying t = some d) (h : wpSeq P ops Q X rest (a.put o.dst v) w) (ho : ops[i]? = some o := by simp only [List.getElem?_toArray, List.getElem?_cons_succ, List.getElem?_cons_zero]; rfl) (hw : Region.wanted o (yielded ops a.tmps) = true := by rfl)
  (hop : o.op = .load t x := by rfl) (hx : a.eval x = .pointer (some p) := by rfl) (hd : d.isRow = false := by rfl) (hc : w.cell? p = some v := by go_simp <;> with_reducible rfl) (hX : ¬ X p.block := by first | exact id | assumption | (simp; done) | (simp; omega)) : wpSeq P ops Q X ((i, 1) :: rest) a w := seq_load1 ho hw hop hx hu hd hc hX h
theorem zqL (cs : List Value) {t : TypeId} {x : Operand} {b off : Nat} {d : TypeDesc} (hu : P.underlying t = some d) (h : wpSeq P ops Q X rest (a.put o.dst (.agg cs.toArray)) w) (ho : ops[i]? = some o := by simp only [List.getElem?_toArray, List.getElem?_cons_succ, List.getElem?_cons_zero]; rfl) (hw : Region.wanted o (yielded ops a.tmps) = true := by rfl)
  (hop : o.op = .load t x := by rfl) (hx : a.eval x = .pointer (some ⟨b, off, none⟩) := by rfl) (hd : d.isRow = true := by rfl) (hi : (P.info? t).map (·.size) = some cs.length := by kernel_rfl) (hc : w.rangeAt b off cs := by first | (with_reducible assumption) | (refine cellsAre_range ?_; simp only [cellsAre]; (repeat' (first | exact True.intro | apply And.intro)); all_goals (go_simp <;> with_reducible rfl))) (hX : ¬ X b := by first | exact id | assumption | (simp; done) | (simp; omega)) : wpSeq P ops Q X ((i, 1) :: rest) a w := seq_loads cs ho hw hop hx hu hd hi hc hX h
theorem zqD (h : ∀ K : Act → World → Prop, Hid (∀ a' w', Chg X w w' → wpSeq P ops Q X rest a' w' → K a' w') → o.wp P a w K Q) (ho : ops[i]? = some o := by simp only [List.getElem?_toArray, List.getElem?_cons_succ, List.getElem?_cons_zero]; rfl) (hw : Region.wanted o (yielded ops a.tmps) = true := by rfl) : wpSeq P ops Q X ((i, 2) :: rest) a w := seq_do ho hw h
theorem zqE (h : ∀ K : Act → World → Prop, Hid (∀ a' w', wpSeq P ops Q X rest a' w' → K a' w') → o.wp P a w K Q) (ho : ops[i]? = some o := by simp only [List.getElem?_toArray, List.getElem?_cons_succ, List.getElem?_cons_zero]; rfl) (hw : Region.wanted o (yielded ops a.tmps) = true := by rfl) : wpSeq P ops Q X ((i, 3) :: rest) a w := seq_last ho hw h
end
end Go.Proofs.YtolhmibejhldkaaDoor
namespace Go.Proofs.YtolhmibejhldkaaDoor
open Go.RowKit Go.Proofs
theorem hkA {K R : Act → World → Prop} {X : Nat → Prop} {b : Act} {w u : World} (hK : Hid (∀ a' w', Chg X w w' → R a' w' → K a' w')) (hc : Chg X w u := by first | (with_reducible exact Chg.refl _ _) | (with_reducible assumption) | (refine Chg.of_below ?_; with_reducible assumption) | (with_reducible exact (Chg.refl _ _).alloc _) | (with_reducible exact (Chg.refl _ _).drewN _) | (with_reducible exact (Chg.refl _ _).drew) | exact ⟨rfl, rfl, rfl, Nat.le_refl _, fun _ _ _ => rfl⟩ | exact (Chg.refl _ _).setCell (.inl (.inl rfl)) _ | exact (Chg.refl _ _).setCell (.inl (.inr rfl)) _ | exact ((Chg.refl _ _).setCell (.inl (.inl rfl)) _).setCell (.inl (.inl rfl)) _ | exact ((Chg.refl _ _).setCell (.inl (.inr rfl)) _).setCell (.inl (.inr rfl)) _ | exact Chg.drew (Chg.setCell ⟨rfl, rfl, rfl, Nat.le_refl _, fun _ _ _ => rfl⟩ (.inl (.inl rfl)) _) | exact Chg.drew (Chg.setCell ⟨rfl, rfl, rfl, Nat.le_refl _, fun _ _ _ => rfl⟩ (.inl (.inr rfl)) _)) (h : R b u) : K b u := hK.out _ _ hc h
end Go.Proofs.YtolhmibejhldkaaDoor

namespace Go.Proofs.YtolhmibejhldkaaDoor
open Go.RowKit Go.Proofs
theorem ret_u64 {a b : Int} (h : a = b) : Ending.returned (.int .u64 a) = .returned (.int .u64 b) := by rw [h]
theorem repeat_any (b : Nat) (hb : b < 256) (w : World) :
    Calls Tryd.prog 87 #[.int .u8 (b : Int)] w fun e w' => e = .returned (.int .u64 ((rep b : Nat) : Int)) ∧ w = w' := by
  go_enter Tryd.func87, Tryd.ntmps87
  go_wp2
  go_ret
  exact ⟨ret_u64 (by unfold rep; omega), rfl⟩
end Go.Proofs.YtolhmibejhldkaaDoor

namespace Go.Proofs.YtolhmibejhldkaaDoor
open Go.RowKit
end Go.Proofs.YtolhmibejhldkaaDoor

namespace Go.Proofs.YtolhmibejhldkaaDoor
open Go.RowKit Go.Proofs
end Go.Proofs.YtolhmibejhldkaaDoor

namespace Go.Proofs.YtolhmibejhldkaaDoor
open Go.RowKit Go.Proofs
def firstFrom (f : Nat → Bool) : Nat → Nat → Option Nat
  | 0, _ => none
  | n + 1, k => if f k then some k else firstFrom f n (k + 1)
def firstL (f : Nat → Bool) : Option Nat := firstFrom f 8 0
end Go.Proofs.YtolhmibejhldkaaDoor

namespace Go.Proofs.YtolhmibejhldkaaDoor
open Go.RowKit Go.Proofs
attribute [local go_sem] Oper.semAt_some wide_depth round_depth wide_fn round_fn
def lanesL (f : Nat → Bool) : List Nat := (List.range 8).filter f
end Go.Proofs.YtolhmibejhldkaaDoor

namespace Go.Proofs.YtolhmibejhldkaaDoor
open Go.RowKit Go.Proofs
end Go.Proofs.YtolhmibejhldkaaDoor

namespace Go.Proofs.YtolhmibejhldkaaDoor
open Go.RowKit Go.Proofs
def stages (v n : Nat) : Prop :=
  (64 * v) &&& 6148914691236517205 = 64 * v ∧ (128 * v) &&& 6148914691236517205 = 0 ∧ (16 * v) &&& 3689348814741910323 = 16 * v ∧ (64 * v) &&& 3689348814741910323 = 0 ∧
  (v + 16 * v) &&& 1085102592571150095 = v ∧ (v + v / 256 + (v + v / 256) / 65536 + (v + v / 256 + (v + v / 256) / 65536) / 4294967296) &&& 127 = n
instance (v n : Nat) : Decidable (stages v n) := by unfold stages; infer_instance
end Go.Proofs.YtolhmibejhldkaaDoor

namespace Go.Proofs.YtolhmibejhldkaaDoor
open Go.RowKit Go.Proofs
attribute [local go_sem] Oper.semAt_some wide_depth round_depth wide_fn round_fn
end Go.Proofs.YtolhmibejhldkaaDoor
