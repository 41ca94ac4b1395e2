/- Worlds that differ in some blocks alone. No condition. -/
import Derived.Test.YtcmjddkljmfklaaDoorMem
namespace Go.Proofs.YtcmjddkljmfklaaDoor
set_option linter.unusedVariables false
set_option linter.unusedSimpArgs false
open Go.RowKit

/-- the blocks that were there hold what they held, but those of X -/
structure Chg (X : Nat → Prop) (w w' : World) : Prop where
  os : w'.os = w.os
  tape : w'.tape = w.tape
  output : w'.output = w.output
  size : w.heap.size ≤ w'.heap.size
  block : ∀ k, k < w.heap.size → ¬ X k → w'.heap[k]? = w.heap[k]?

theorem Chg.refl (X : Nat → Prop) (w : World) : Chg X w w := ⟨rfl, rfl, rfl, Nat.le_refl _, fun _ _ _ => rfl⟩
theorem Chg.trans' {X Y : Nat → Prop} {a b c : World} (h : Chg X a b) (k : Chg Y b c) (hs : ∀ i, i < a.heap.size → Y i → X i) : Chg X a c :=
  ⟨k.os.trans h.os, k.tape.trans h.tape, k.output.trans h.output, Nat.le_trans h.size k.size, fun i hi hx => (k.block i (Nat.lt_of_lt_of_le hi h.size) (fun hy => hx (hs i hi hy))).trans (h.block i hi hx)⟩
theorem Chg.trans {X : Nat → Prop} {a b c : World} (h : Chg X a b) (k : Chg X b c) : Chg X a c := h.trans' k (fun _ _ h => h)
theorem Chg.mono {X Y : Nat → Prop} {a b : World} (h : Chg X a b) (hs : ∀ i, i < a.heap.size → X i → Y i) : Chg Y a b :=
  ⟨h.os, h.tape, h.output, h.size, fun i hi hy => h.block i hi (fun hx => hy (hs i hi hx))⟩
theorem Chg.of_below {X : Nat → Prop} {w w' : World} (h : Below w.heap.size w w') : Chg X w w' := ⟨h.os, h.tape, h.output, h.size, fun k hk _ => h.block k hk⟩
theorem Chg.thenBelow {X : Nat → Prop} {a b c : World} (h : Chg X a b) (k : Below b.heap.size b c) : Chg X a c := h.trans (Chg.of_below k)
theorem Chg.below {X : Nat → Prop} {n : Nat} {w w' : World} (h : Chg X w w') (hn : n ≤ w.heap.size) (hx : ∀ k, k < n → ¬ X k) : Below n w w' :=
  ⟨h.os, h.tape, h.output, h.size, fun k hk => h.block k (Nat.lt_of_lt_of_le hk hn) (hx k hk)⟩
theorem Chg.alloc {X : Nat → Prop} {a w : World} (h : Chg X a w) (o : Obj) : Chg X a (w.alloc o) := h.trans (Chg.of_below ((Below.refl _ w).alloc (Nat.le_refl _) o))
theorem Chg.drew {X : Nat → Prop} {a w : World} (h : Chg X a w) : Chg X a w.drew := ⟨h.os, h.tape, h.output, h.size, h.block⟩
theorem Chg.drewN {X : Nat → Prop} {a w : World} (h : Chg X a w) (n : Nat) : Chg X a (w.drewN n) := ⟨h.os, h.tape, h.output, h.size, h.block⟩
theorem Chg.setCell {X : Nat → Prop} {a w : World} (h : Chg X a w) {p : Addr} (hp : X p.block ∨ a.heap.size ≤ p.block) (u : Value) : Chg X a (w.setCell p u) :=
  ⟨h.os, h.tape, h.output, by simpa [World.setCell] using h.size, fun k hk hx => by
    rw [Below.heap_setCell _ _ _ _ (fun e => by
      rcases hp with hp | hp
      · exact hx (e ▸ hp)
      · omega)]
    exact h.block k hk hx⟩
theorem Chg.set1 {B : Nat} {a w : World} (h : Chg (fun b => b = B) a w) (off : Nat) (u : Value) : Chg (fun b => b = B) a (w.setCell ⟨B, off, none⟩ u) := h.setCell (.inl rfl) u
theorem Chg.cell {X : Nat → Prop} {w w' : World} (h : Chg X w w') {p : Addr} (hp : p.block < w.heap.size) (hx : ¬ X p.block) : w'.cell? p = w.cell? p := World.cell?_of_block (w := w) (h.block _ hp hx)
theorem Chg.frozen {X : Nat → Prop} {w w' : World} (h : Chg X w w') {p : Addr} (hp : p.block < w.heap.size) (hx : ¬ X p.block) : w'.frozen? p = w.frozen? p := World.frozen?_of_block (w := w) (h.block _ hp hx)
theorem Chg.cells {X : Nat → Prop} {w w' : World} (h : Chg X w w') : ∀ b o, b < w.heap.size → ¬ X b → w'.cell? ⟨b, o, none⟩ = w.cell? ⟨b, o, none⟩ := fun b o hb hx => h.cell (p := ⟨b, o, none⟩) hb hx
theorem Chg.somes {X : Nat → Prop} {w w' : World} (h : Chg X w w') : ∀ b o, (w.cell? ⟨b, o, none⟩).isSome = true → ¬ X b → w'.cell? ⟨b, o, none⟩ = w.cell? ⟨b, o, none⟩ := fun b o hs hx => by
  obtain ⟨v, hv⟩ := Option.isSome_iff_exists.1 hs
  exact h.cell (p := ⟨b, o, none⟩) (World.block_lt_of_cell? w ⟨b, o, none⟩ hv) hx
theorem Chg.keep {X : Nat → Prop} {w w' : World} (h : Chg X w w') {a : Addr} {v : Value} (hc : w.cell? a = some v) (hx : ¬ X a.block) : w'.cell? a = some v := (h.cell (World.block_lt_of_cell? _ _ hc) hx).trans hc
theorem Blk.chg {X : Nat → Prop} {w w' : World} {B : Nat} {T : TypeId} {c : Array Value} (hb : Blk w B T c) (h : Chg X w w') (hx : ¬ X B) : Blk w' B T c := (h.block B hb.lt hx).trans hb
theorem Chg.blk {X : Nat → Prop} {w w' : World} {B : Nat} {T : TypeId} {c : Array Value} (h : Chg X w w') (hb : Blk w B T c) (hx : ¬ X B) : Blk w' B T c := hb.chg h hx
theorem Chg.undrew {X : Nat → Prop} {w w' : World} (h : Chg X w.drew w') : Chg X w w' := ⟨h.os, h.tape, h.output, h.size, h.block⟩
theorem Below.undrew {n : Nat} {w w' : World} (h : Below n w.drew w') : Below n w w' := ⟨h.os, h.tape, h.output, h.size, h.block⟩
theorem Below.of_chg {w w' : World} (h : Chg (fun _ => False) w w') : Below w.heap.size w w' := h.below (Nat.le_refl _) (fun _ _ h => h)
/-- all old cells and all old marks read as before -/
theorem bcell {W w1 : World} (hb : Below W.heap.size W w1) : (∀ b o, b < W.heap.size → w1.cell? ⟨b, o, none⟩ = W.cell? ⟨b, o, none⟩) ∧ (∀ b o, b < W.heap.size → w1.frozen? ⟨b, o, none⟩ = W.frozen? ⟨b, o, none⟩) :=
  ⟨fun b o h => hb.cell (p := ⟨b, o, none⟩) h, fun b o h => hb.frozen (p := ⟨b, o, none⟩) h⟩

/-! ### whole variables -/
theorem setRow_size (w : World) (g : Nat) (cs : Array Value) : (w.setRow g cs).heap.size = w.heap.size := by simp [World.setRow]
theorem setRow_other (w : World) (g : Nat) (cs : Array Value) {b : Nat} (h : b ≠ g) : (w.setRow g cs).heap[b]? = w.heap[b]? := by
  simp only [World.setRow, Array.getElem?_modify]
  rw [if_neg (by omega)]
theorem Blk.setRow {w : World} {g : Nat} {T : TypeId} {cur : Array Value} (h : Blk w g T cur) (cs : Array Value) : Blk (w.setRow g cs) g T cs := by
  obtain ⟨hlt, hk⟩ := Array.getElem?_eq_some_iff.1 h
  show (w.heap.modify g _)[g]? = _
  rw [Array.getElem?_eq_getElem (by rw [Array.size_modify]; exact hlt), Array.getElem_modify_self, hk]
theorem Blk.rowOther {w : World} {B g : Nat} {T : TypeId} {c : Array Value} (h : Blk w B T c) (hne : B ≠ g) (cs : Array Value) : Blk (w.setRow g cs) B T c := (setRow_other w g cs hne).trans h
theorem Below.setRow {n : Nat} {a w : World} (h : Below n a w) {g : Nat} (hg : n ≤ g) (cs : Array Value) : Below n a (w.setRow g cs) :=
  h.trans ⟨rfl, rfl, rfl, by rw [setRow_size]; exact Nat.le_refl _, fun k hk => setRow_other w g cs (by omega)⟩
theorem Chg.setRow {X : Nat → Prop} {a w : World} (h : Chg X a w) {g : Nat} (hp : X g ∨ a.heap.size ≤ g) (cs : Array Value) : Chg X a (w.setRow g cs) :=
  ⟨h.os, h.tape, h.output, by rw [setRow_size]; exact h.size, fun k hk hx => by
    rw [setRow_other _ _ _ (fun e => by
      rcases hp with hp | hp
      · exact hx (e ▸ hp)
      · omega)]
    exact h.block k hk hx⟩
section
variable {P : Program} {w : World}
theorem run_loadVar_blk {t : TypeId} {g : Nat} {T : TypeId} {cs : Array Value} {d : TypeDesc} (hu : P.underlying t = some d) (hd : (match d with | .struct _ | .array _ _ => true | _ => false) = true) (hg : Blk w g T cs) (hi : (sizeOf t).run P w = .ok cs.size w) :
    (loadVar t ⟨g, 0, none⟩).run P w = .ok (.agg cs) w := by
  have hag : (isAgg t).run P w = .ok true w := by
    unfold isAgg
    rw [Sem.run_bind, run_underlying hu w]
    cases d <;> simp_all
  have hl : (loadCells ⟨g, 0, none⟩ cs.toList.length).run P w = .ok cs.toList.toArray w :=
    run_loadCells_list (P := P) w ⟨g, 0, none⟩ cs.toList (fun j v hv => by
      have : (⟨g, 0, none⟩ : Addr).add j = ⟨g, j, none⟩ := by simp [Addr.add]; intro e; exact e.symm
      rw [this, hg.cell]; simpa using hv)
  simp only [Array.length_toList, Array.toArray_toList] at hl
  simp [loadVar, Sem.run_bind, hag, hi, hl, Result.andThen]
theorem exec_loadAll {ρ : Operand → Value} {o : Oper} {t : TypeId} {x : Operand} {g : Nat} {cs : Array Value} {T : TypeId} {d : TypeDesc} (hop : o.op = .load t x) (hx : ρ x = .pointer (some ⟨g, 0, none⟩))
    (hu : P.underlying t = some d) (hd : (match d with | .struct _ | .array _ _ => true | _ => false) = true) (hg : Blk w g T cs) (hi : (sizeOf t).run P w = .ok cs.size w) : (execOp ρ o).run P w = .ok (.value (.agg cs)) w := by
  simp [execOp, hop, hx, Instr.loadAt, Instr.sureAddr, Sem.run_bind, run_loadVar_blk hu hd hg hi, Result.andThen]
theorem exec_box {ρ : Operand → Value} {o : Oper} {t : TypeId} {x : Operand} {cs : Array Value} (hop : o.op = .box t x) (hx : ρ x = .agg cs) : (execOp ρ o).run P w = .ok (.value (.pointer (some ⟨w.heap.size, 0, none⟩))) (w.alloc (.cells cs t)) := by
  simp [execOp, hop, hx, Instr.box, newVar, newRow, Sem.run_bind, Result.andThen, run_newObj_alloc, Value.cells]
theorem results_blk {fn : Func} {tmps : Array Value} {p : Tmp} {t : TypeId} {g : Nat} {cs : Array Value} {T : TypeId} {d : TypeDesc} (hres : fn.results = #[.cell p t]) (hp : tmps.getD p undef = .pointer (some ⟨g, 0, none⟩))
    (hu : P.underlying t = some d) (hd : (match d with | .struct _ | .array _ _ => true | _ => false) = true) (hg : Blk w g T cs) (hi : (sizeOf t).run P w = .ok cs.size w) : (results fn tmps).run P w = .ok (.agg cs) w := by
  have hp' : tmps[p]?.getD undef = .pointer (some ⟨g, 0, none⟩) := by simpa using hp
  simp [results, hres, hp', asAddr, Sem.run_bind, run_loadVar_blk hu hd hg hi, Result.andThen]
end
theorem blk8 {w : World} {B : Nat} {T : TypeId} {v0 v1 v2 v3 v4 v5 v6 v7 : Value} (h : Blk w B T #[v0, v1, v2, v3, v4, v5, v6, v7]) :
    (w.cell? ⟨B, 0, none⟩ = some v0 ∧ w.cell? ⟨B, 1, none⟩ = some v1 ∧ w.cell? ⟨B, 2, none⟩ = some v2 ∧ w.cell? ⟨B, 3, none⟩ = some v3 ∧ w.cell? ⟨B, 4, none⟩ = some v4 ∧ w.cell? ⟨B, 5, none⟩ = some v5 ∧ w.cell? ⟨B, 6, none⟩ = some v6 ∧ w.cell? ⟨B, 7, none⟩ = some v7) ∧
    (w.frozen? ⟨B, 0, none⟩ = false ∧ w.frozen? ⟨B, 1, none⟩ = false ∧ w.frozen? ⟨B, 2, none⟩ = false ∧ w.frozen? ⟨B, 3, none⟩ = false ∧ w.frozen? ⟨B, 4, none⟩ = false ∧ w.frozen? ⟨B, 5, none⟩ = false ∧ w.frozen? ⟨B, 6, none⟩ = false ∧ w.frozen? ⟨B, 7, none⟩ = false) :=
  ⟨⟨h.cell 0, h.cell 1, h.cell 2, h.cell 3, h.cell 4, h.cell 5, h.cell 6, h.cell 7⟩, h.frozen 0, h.frozen 1, h.frozen 2, h.frozen 3, h.frozen 4, h.frozen 5, h.frozen 6, h.frozen 7⟩
end Go.Proofs.YtcmjddkljmfklaaDoor
