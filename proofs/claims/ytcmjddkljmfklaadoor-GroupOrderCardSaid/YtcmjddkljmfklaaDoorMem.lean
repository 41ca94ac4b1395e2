/- Blocks of memory by what they hold; slices that read as numbers. No condition. -/
import Derived.Test.YtcmjddkljmfklaaDoorRange
import Derived.Handy
import Derived.Lib.Hide
import Derived.WalkSmall
namespace Go.Proofs.YtcmjddkljmfklaaDoor
set_option linter.unusedVariables false
set_option linter.unusedSimpArgs false
open Go.RowKit

/-- block B holds just c, of element type T, and may be written -/
def Blk (W : World) (B : Nat) (T : TypeId) (c : Array Value) : Prop := W.heap[B]? = some (.cells c T (0, 0))

theorem Blk.lt {W : World} {B : Nat} {T : TypeId} {c : Array Value} (h : Blk W B T c) : B < W.heap.size := (Array.getElem?_eq_some_iff.1 h).1
theorem Blk.cell {W : World} {B : Nat} {T : TypeId} {c : Array Value} (h : Blk W B T c) (j : Nat) : W.cell? ⟨B, j, none⟩ = c[j]? := by simp [World.cell?, show W.heap[B]? = _ from h]
theorem Blk.frozen {W : World} {B : Nat} {T : TypeId} {c : Array Value} (h : Blk W B T c) (j : Nat) : W.frozen? ⟨B, j, none⟩ = false := by simp [World.frozen?, show W.heap[B]? = _ from h]
theorem Blk.new (W : World) (T : TypeId) (c : Array Value) : Blk (W.alloc (.cells c T)) W.heap.size T c := World.alloc_heap_new W _
theorem Blk.new_at {W : World} {T : TypeId} {c : Array Value} {B : Nat} (h : B = W.heap.size) : Blk (W.alloc (.cells c T)) B T c := by subst h; exact World.alloc_heap_new W _
theorem Blk.kept {W W' : World} {row : Option Nat} {B : Nat} {T : TypeId} {c : Array Value} (h : Blk W B T c) (hg : W.grownBy W' row) (hne : some B ≠ row) : Blk W' B T c := (hg.block B h.lt hne).trans h
theorem Blk.alloc {W : World} {B : Nat} {T : TypeId} {c : Array Value} (h : Blk W B T c) (o : Obj) : Blk (W.alloc o) B T c := h.kept (World.grownBy_alloc W o none) (by simp)
theorem Blk.drew {W : World} {B : Nat} {T : TypeId} {c : Array Value} (h : Blk W B T c) : Blk W.drew B T c := h
theorem Blk.below {n : Nat} {W W' : World} {B : Nat} {T : TypeId} {c : Array Value} (h : Blk W B T c) (hb : Below n W W') (hB : B < n) : Blk W' B T c := (hb.block B hB).trans h
theorem Blk.set {W : World} {B : Nat} {T : TypeId} {c : Array Value} (h : Blk W B T c) (j : Nat) (v : Value) : Blk (W.setCell ⟨B, j, none⟩ v) B T (c.setIfInBounds j v) := by
  obtain ⟨hlt, hk⟩ := Array.getElem?_eq_some_iff.1 h
  show (W.heap.modify B _)[B]? = _
  rw [Array.getElem?_eq_getElem (by rw [Array.size_modify]; exact hlt), Array.getElem_modify_self, hk]
  rfl
theorem Blk.other {W : World} {B B' : Nat} {T : TypeId} {c : Array Value} (h : Blk W B T c) (hne : B ≠ B') (j : Nat) (v : Value) : Blk (W.setCell ⟨B', j, none⟩ v) B T c :=
  (Below.heap_setCell W ⟨B', j, none⟩ v B hne).trans h
theorem Blk.putObj {W : World} {B : Nat} {T : TypeId} {c : Array Value} (h : Blk W B T c) {l : Nat} (hne : B ≠ l) (o : Obj) : Blk (W.putObj l o) B T c := (World.putObj_heap_other hne).trans h
theorem Blk.ofBoxed {W : World} {B : Nat} {T : TypeId} {v : Value} (h : Boxed W B T v) : Blk W B T #[v] := h
theorem Blk.boxed {W : World} {B : Nat} {T : TypeId} {v : Value} (h : Blk W B T #[v]) : Boxed W B T v := h
theorem blk_own {β : Type} (B : β → Nat) (T : β → TypeId) (c : β → Array Value) : Own (fun s W => Blk W (B s) (T s) (c s)) := by
  intro s X Y row h hg hrow
  refine h.kept hg fun e => ?_
  obtain ⟨o, ho, hc⟩ := hrow (B s) e.symm
  rw [show X.heap[B s]? = _ from h] at ho; cases ho; cases hc
theorem own_and {β : Type} {I I' : β → World → Prop} (h : Own I) (h' : Own I') : Own (fun s W => I s W ∧ I' s W) := fun s W W' row hs hg hr => ⟨h s W W' row hs.1 hg hr, h' s W W' row hs.2 hg hr⟩
theorem own_pure {β : Type} (p : β → Prop) : Own (fun s (_ : World) => p s) := fun _ _ _ _ hs _ _ => hs
theorem own_ex {β γ : Type} {I : γ → β → World → Prop} (h : ∀ g, Own (I g)) : Own (fun s W => ∃ g, I g s W) := fun s W W' row ⟨g, hs⟩ hg hr => ⟨g, h g s W W' row hs hg hr⟩

/-- the slice value v reads as the integers xs -/
def ReadsInts (w : World) (v : Value) (xs : List Int) : Prop :=
  ∃ a cap, v = .slice a xs.length cap ∧ (xs ≠ [] → ∃ b off, a = some ⟨b, off, none⟩ ∧ ∀ i (h : i < xs.length), w.cell? ⟨b, off + i, none⟩ = some (.int .i64 xs[i]))

theorem readsInts_own {w : World} {base : Nat} {e : TypeId} {v : Value} {n : Nat} {xs : List Int} (h : w.ownsRow base e 1 v n (xs.map (Value.int .i64))) : ReadsInts w v xs := by
  have hl : xs.length = n := by have := h.1; simpa using this
  rcases h.2 with ⟨rfl, h0⟩ | ⟨g, cap, cur, rfl, hb, hg, h1, h2, h3, h4⟩
  · subst h0
    obtain rfl : xs = [] := by simpa using hl
    exact ⟨none, 0, rfl, fun h => absurd rfl h⟩
  · subst hl
    refine ⟨_, cap, rfl, fun _ => ⟨g, 0, rfl, fun i hi => ?_⟩⟩
    have := h.cells (g := g) rfl i (Value.int .i64 xs[i]) (by simp [hi])
    simp only [Addr.add] at this
    split at this
    · subst i; exact this
    · exact this
theorem readsInts_blk {w : World} {B : Nat} {T : TypeId} {xs : List Int} {c : Array Value} {cap : Nat} (h : Blk w B T c) (hc : c = (xs.map (Value.int .i64)).toArray) : ReadsInts w (.slice (some ⟨B, 0, none⟩) xs.length cap) xs := by
  subst hc
  refine ⟨_, cap, rfl, fun _ => ⟨B, 0, rfl, fun i hi => ?_⟩⟩
  rw [Nat.zero_add, h.cell]; simp [hi]
theorem ReadsInts.opened {w : World} {a : Option Addr} {n cap : Nat} {xs : List Int} (h : ReadsInts w (.slice a n cap) xs) :
    n = xs.length ∧ (xs ≠ [] → ∃ b off, a = some ⟨b, off, none⟩ ∧ ∀ i (h : i < xs.length), w.cell? ⟨b, off + i, none⟩ = some (.int .i64 xs[i])) := by
  obtain ⟨a', cap', e, hx⟩ := h
  simp only [Value.slice.injEq] at e
  obtain ⟨rfl, h1, rfl⟩ := e
  exact ⟨h1, hx⟩
theorem ReadsInts.later {w w' : World} {v : Value} {xs : List Int} (h : ReadsInts w v xs) (hb : Below w.heap.size w w') : ReadsInts w' v xs := by
  obtain ⟨a, cap, rfl, hx⟩ := h
  refine ⟨a, cap, rfl, fun hne => ?_⟩
  obtain ⟨b, off, rfl, hc⟩ := hx hne
  exact ⟨b, off, rfl, fun i hi => (hb.cell (p := ⟨b, off + i, none⟩) (World.block_lt_of_cell? w ⟨b, off + i, none⟩ (hc i hi))).trans (hc i hi)⟩
/-! ### Operations by what they come to: for values that are not to be written out -/
section laws
variable {P : Program} {F : Fence} {n : Nat} {ops : Array Oper} {rest : List Oper} {o : Oper} {a : Act} {Q : Exit → Act → World → Prop} {w w' : World} {v : Value}

theorem wpListIn_value (hgd : o.guard = none) (hnc : ∀ c, o.op ≠ .call c) (hnd : ∀ c, o.op ≠ .defer c) (hrun : (execOp a.eval o).run P w = .ok (.value v) w')
    (h : wpListIn F n P ops Q rest (a.put o.dst v) w') : wpListIn F n P ops Q (o :: rest) a w := by
  refine wpListIn_plain hgd fun K hK => ?_
  unfold Oper.wpIn
  refine ⟨fun f hf => ?_, ?_⟩
  · unfold Oper.about at hf
    split at hf
    · rename_i c hc; exact absurd hc (hnc c)
    · cases hf
  · rw [Oper.semAt_plain F _ _ hnd, hrun]
    exact hK _ _ h
theorem wpListIn_unit (hgd : o.guard = none) (hnc : ∀ c, o.op ≠ .call c) (hnd : ∀ c, o.op ≠ .defer c) (hrun : (execOp a.eval o).run P w = .ok .skip w')
    (h : wpListIn F n P ops Q rest (a.put o.dst undef) w') : wpListIn F n P ops Q (o :: rest) a w := by
  refine wpListIn_plain hgd fun K hK => ?_
  unfold Oper.wpIn
  refine ⟨fun f hf => ?_, ?_⟩
  · unfold Oper.about at hf
    split at hf
    · rename_i c hc; exact absurd hc (hnc c)
    · cases hf
  · rw [Oper.semAt_plain F _ _ hnd, hrun]
    exact hK _ _ h
theorem wpList_value (hgd : o.guard = none) (hrun : (execOp a.eval o).run P w = .ok (.value v) w')
    (h : wpList P ops Q rest (a.put o.dst v) w') : wpList P ops Q (o :: rest) a w := by
  refine wpList_plain hgd fun K hK => ?_
  unfold Oper.wp
  rw [hrun]
  exact hK _ _ h
theorem wpList_unit (hgd : o.guard = none) (hrun : (execOp a.eval o).run P w = .ok .skip w')
    (h : wpList P ops Q rest (a.put o.dst undef) w') : wpList P ops Q (o :: rest) a w := by
  refine wpList_plain hgd fun K hK => ?_
  unfold Oper.wp
  rw [hrun]
  exact hK _ _ h

/-- an array's or a struct's zero value -/
theorem exec_zero {ρ : Operand → Value} {t : TypeId} (hop : o.op = .build t #[]) {d : TypeDesc} {Z : Value} (hu : P.underlying t = some d) (hd : (match d with | .array _ _ => true | _ => false) = true)
    (hz : ∀ w, (zeroValue t).run P w = .ok Z w) (he : ∀ w, ∃ s, (match d with | .array _ e => (sizeOf e).run P w | _ => .ok 0 w) = .ok s w) : (execOp ρ o).run P w = .ok (.value (.agg Z.cells)) w := by
  cases d <;> simp at hd
  rename_i m e
  obtain ⟨s, hs⟩ := he w
  simp only at hs
  simp [execOp, hop, Instr.build, Sem.run_bind, hz, run_underlying hu, hs, Instr.fill, Result.andThen]
/-- a new variable -/
theorem exec_alloc {ρ : Operand → Value} {t : TypeId} (hop : o.op = .alloc t) {Z : Value} (hz : ∀ w, (zeroValue t).run P w = .ok Z w) :
    (execOp ρ o).run P w = .ok (.value (.pointer (some ⟨w.heap.size, 0, none⟩))) (w.alloc (.cells Z.cells t)) := by
  simp [execOp, hop, Instr.alloc, Sem.run_bind, hz, newVar, newRow, Result.andThen, run_newObj_alloc]
/-- a whole variable stored -/
theorem exec_storeAll {ρ : Operand → Value} {t : TypeId} {x y : Operand} (hop : o.op = .store t x y) {g : Nat} {cs cur : Array Value} {T : TypeId} (hx : ρ x = .pointer (some ⟨g, 0, none⟩)) (hy : ρ y = .agg cs)
    (hg : Blk w g T cur) (hs : cs.size = cur.size) (hi : (sizeOf t).run P w = .ok cs.size w) (h1 : ∀ v ∈ cs.toList, v.oneCell' = true) :
    (execOp ρ o).run P w = .ok .skip (w.setRow g cs) := by
  have h := run_storeCells_at P g 0 T cs.toList 0 cur w hg (by simp [hs]) h1
  simp only [Nat.add_zero, List.take_zero, List.nil_append, Nat.zero_add] at h
  rw [List.drop_of_length_le (by simp [hs]), List.append_nil] at h
  simp [execOp, hop, hx, hy, Instr.storeAt, Instr.sureAddr, storeVar, Sem.run_bind, hi, Value.cells, h, Result.andThen]
theorem setRow_new {W : World} {T : TypeId} {cur cs : Array Value} {g : Nat} (hg : g = W.heap.size) : (W.alloc (.cells cur T)).setRow g cs = W.alloc (.cells cs T) := by
  subst hg
  unfold World.setRow World.alloc
  simp only
  congr 1
  apply Array.ext_getElem?
  intro k
  simp only [Array.getElem?_modify, Array.getElem?_push]
  by_cases hk : k = W.heap.size
  · subst hk; simp
  · simp [hk, Ne.symm hk]
end laws

/-! ### A function's end behind a loop over an iterator -/
section ends
variable {P : Program} {F : Fence} {n : Nat} {fn : Func} {R : Ending → World → Prop} {tmps : Array Value} {W : World} {D : Nat}

theorem end_mark {v : Value} (hK : W.heap[D]? = some (.deferred (some []))) (hr : (results fn tmps).run P (W.putObj D (.deferred none)) = .ok v (W.putObj D (.deferred none)))
    (hR : R (.returned v) (W.putObj D (.deferred none))) (e : Exit) (he : e = .ret ∨ e = .normal) : bodyPostM F n P fn R e { tmps := tmps, defers := [{ target := Target.collected D, args := #[] }] } W := by
  rcases he with rfl | rfl
  · exact ⟨by simp, .inl ⟨_, _, rfl, run_takeDeferred hK, ⟨v, hr, hR⟩⟩⟩
  · exact ⟨by simp, .inl ⟨_, _, rfl, run_takeDeferred hK, ⟨v, hr, hR⟩⟩⟩
theorem results_cell1 {p : Tmp} {ty : TypeId} {v : Value} {a : Addr} (hres : fn.results = #[.cell p ty]) (hp : tmps.getD p undef = .pointer (some a)) (hc : W.cell? a = some v) (hag : ∀ w, (isAgg ty).run P w = .ok false w) :
    (results fn tmps).run P W = .ok v W := by
  have hp' : tmps[p]?.getD undef = .pointer (some a) := by simpa using hp
  simp [results, hres, hp', asAddr, loadVar, Sem.run_bind, hag, Result.andThen, hc, go_sem]
end ends

end Go.Proofs.YtcmjddkljmfklaaDoor
