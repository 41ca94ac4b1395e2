/- Worlds that differ in some blocks alone. No condition. -/
import Derived.Test.YtfdeoblciichmaaDoorMem
namespace Go.Proofs.YtfdeoblciichmaaDoor
set_option linter.unusedVariables false
set_option linter.unusedSimpArgs false
open Go.RowKit

/-- the blocks that were there hold what they held, but those of X -/
structure Chg (X : Nat → Prop) (w w' : World) : Prop where
  os : w'.os = w.os
  tape : w'.tape = w.tape
  output : w'.output = w.output
  size : w.heap.size ≤ w'.heap.size
  block : ∀ k, k < w.heap.size → ¬ X k → w'.heap[k]? = w.heap[k]?

theorem Chg.refl (X : Nat → Prop) (w : World) : Chg X w w := ⟨rfl, rfl, rfl, Nat.le_refl _, fun _ _ _ => rfl⟩
theorem Chg.trans' {X Y : Nat → Prop} {a b c : World} (h : Chg X a b) (k : Chg Y b c) (hs : ∀ i, i < a.heap.size → Y i → X i) : Chg X a c :=
  ⟨k.os.trans h.os, k.tape.trans h.tape, k.output.trans h.output, Nat.le_trans h.size k.size, fun i hi hx => (k.block i (Nat.lt_of_lt_of_le hi h.size) (fun hy => hx (hs i hi hy))).trans (h.block i hi hx)⟩
theorem Chg.trans {X : Nat → Prop} {a b c : World} (h : Chg X a b) (k : Chg X b c) : Chg X a c := h.trans' k (fun _ _ h => h)
theorem Chg.mono {X Y : Nat → Prop} {a b : World} (h : Chg X a b) (hs : ∀ i, i < a.heap.size → X i → Y i) : Chg Y a b :=
  ⟨h.os, h.tape, h.output, h.size, fun i hi hy => h.block i hi (fun hx => hy (hs i hi hx))⟩
theorem Chg.of_below {X : Nat → Prop} {w w' : World} (h : Below w.heap.size w w') : Chg X w w' := ⟨h.os, h.tape, h.output, h.size, fun k hk _ => h.block k hk⟩
theorem Chg.thenBelow {X : Nat → Prop} {a b c : World} (h : Chg X a b) (k : Below b.heap.size b c) : Chg X a c := h.trans (Chg.of_below k)
theorem Chg.below {X : Nat → Prop} {n : Nat} {w w' : World} (h : Chg X w w') (hn : n ≤ w.heap.size) (hx : ∀ k, k < n → ¬ X k) : Below n w w' :=
  ⟨h.os, h.tape, h.output, h.size, fun k hk => h.block k (Nat.lt_of_lt_of_le hk hn) (hx k hk)⟩
theorem Chg.alloc {X : Nat → Prop} {a w : World} (h : Chg X a w) (o : Obj) : Chg X a (w.alloc o) := h.trans (Chg.of_below ((Below.refl _ w).alloc (Nat.le_refl _) o))
theorem Chg.drew {X : Nat → Prop} {a w : World} (h : Chg X a w) : Chg X a w.drew := ⟨h.os, h.tape, h.output, h.size, h.block⟩
theorem Chg.drewN {X : Nat → Prop} {a w : World} (h : Chg X a w) (n : Nat) : Chg X a (w.drewN n) := ⟨h.os, h.tape, h.output, h.size, h.block⟩
theorem Chg.setCell {X : Nat → Prop} {a w : World} (h : Chg X a w) {p : Addr} (hp : X p.block ∨ a.heap.size ≤ p.block) (u : Value) : Chg X a (w.setCell p u) :=
  ⟨h.os, h.tape, h.output, by simpa [World.setCell] using h.size, fun k hk hx => by
    rw [Below.heap_setCell _ _ _ _ (fun e => by
      rcases hp with hp | hp
      · exact hx (e ▸ hp)
      · omega)]
    exact h.block k hk hx⟩
theorem Chg.set1 {B : Nat} {a w : World} (h : Chg (fun b => b = B) a w) (off : Nat) (u : Value) : Chg (fun b => b = B) a (w.setCell ⟨B, off, none⟩ u) := h.setCell (.inl rfl) u
theorem Chg.cell {X : Nat → Prop} {w w' : World} (h : Chg X w w') {p : Addr} (hp : p.block < w.heap.size) (hx : ¬ X p.block) : w'.cell? p = w.cell? p := World.cell?_of_block (w := w) (h.block _ hp hx)
theorem Chg.frozen {X : Nat → Prop} {w w' : World} (h : Chg X w w') {p : Addr} (hp : p.block < w.heap.size) (hx : ¬ X p.block) : w'.frozen? p = w.frozen? p := World.frozen?_of_block (w := w) (h.block _ hp hx)
theorem Chg.cells {X : Nat → Prop} {w w' : World} (h : Chg X w w') : ∀ b o, b < w.heap.size → ¬ X b → w'.cell? ⟨b, o, none⟩ = w.cell? ⟨b, o, none⟩ := fun b o hb hx => h.cell (p := ⟨b, o, none⟩) hb hx
theorem Chg.somes {X : Nat → Prop} {w w' : World} (h : Chg X w w') : ∀ b o, (w.cell? ⟨b, o, none⟩).isSome = true → ¬ X b → w'.cell? ⟨b, o, none⟩ = w.cell? ⟨b, o, none⟩ := fun b o hs hx => by
  obtain ⟨v, hv⟩ := Option.isSome_iff_exists.1 hs
  exact h.cell (p := ⟨b, o, none⟩) (World.block_lt_of_cell? w ⟨b, o, none⟩ hv) hx
theorem Chg.keep {X : Nat → Prop} {w w' : World} (h : Chg X w w') {a : Addr} {v : Value} (hc : w.cell? a = some v) (hx : ¬ X a.block) : w'.cell? a = some v := (h.cell (World.block_lt_of_cell? _ _ hc) hx).trans hc
theorem Blk.chg {X : Nat → Prop} {w w' : World} {B : Nat} {T : TypeId} {c : Array Value} (hb : Blk w B T c) (h : Chg X w w') (hx : ¬ X B) : Blk w' B T c := (h.block B hb.lt hx).trans hb
theorem Below.of_chg {w w' : World} (h : Chg (fun _ => False) w w') : Below w.heap.size w w' := h.below (Nat.le_refl _) (fun _ _ h => h)
/-- all old cells and all old marks read as before -/
theorem bcell {W w1 : World} (hb : Below W.heap.size W w1) : (∀ b o, b < W.heap.size → w1.cell? ⟨b, o, none⟩ = W.cell? ⟨b, o, none⟩) ∧ (∀ b o, b < W.heap.size → w1.frozen? ⟨b, o, none⟩ = W.frozen? ⟨b, o, none⟩) :=
  ⟨fun b o h => hb.cell (p := ⟨b, o, none⟩) h, fun b o h => hb.frozen (p := ⟨b, o, none⟩) h⟩
end Go.Proofs.YtfdeoblciichmaaDoor
