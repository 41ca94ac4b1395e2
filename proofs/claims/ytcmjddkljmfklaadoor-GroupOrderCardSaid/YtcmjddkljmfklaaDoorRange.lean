/- A loop over an iterator whose elements are known by their number: the iterator's word ('GivesAt') and the law of the statement ('wp_rangeAt'). No condition. -/
import Derived.RangeFuncNested
import Derived.RangeFuncBound
import Derived.RangeFuncCalls
import Derived.RangeFuncLeaves
import Derived.WalkKit
import Derived.OwnWalkIn
import Derived.TacticsInMore
import Derived.LoopNIn
import Derived.LoopIn
import Derived.Shelf.Abstract
namespace Go.Proofs.YtcmjddkljmfklaaDoor
set_option linter.unusedVariables false
set_option linter.unusedSimpArgs false
open Go.RowKit

theorem wide_depth : (Fence.wide.depth.isSome = true) = False := by simp [Fence.wide]
theorem round_depth (l : Nat) : ((Fence.wide.inRound l).depth.isSome = true) = False := by simp [Fence.wide, Fence.inRound]
theorem wide_fn (f : Nat) : Fence.wide.fn f = True := by simp [Fence.wide]
theorem round_fn (l f : Nat) : (Fence.wide.inRound l).fn f = True := by simp [Fence.wide, Fence.inRound]

/-- the blocks of S hold in the later world what they held -/
def Same (S : Nat → Prop) (W W' : World) : Prop := ∀ b, S b → W'.heap[b]? = W.heap[b]?
theorem Same.refl (S : Nat → Prop) (W : World) : Same S W W := fun _ _ => rfl
theorem Same.trans {S : Nat → Prop} {A B C : World} (h : Same S A B) (k : Same S B C) : Same S A C := fun b hb => (k b hb).trans (h b hb)
theorem Same.of_below {S : Nat → Prop} {n : Nat} {W W' : World} (h : Below n W W') (hS : ∀ b, S b → b < n) : Same S W W' := fun b hb => h.block b (hS b hb)
theorem Same.cell {S : Nat → Prop} {W W' : World} (h : Same S W W') {a : Addr} (ha : S a.block) : W'.cell? a = W.cell? a := World.cell?_of_block (h _ ha)
theorem Same.putObj {S : Nat → Prop} {W : World} {l : Nat} (o' : Obj) (hl : ¬ S l) : Same S W (W.putObj l o') := fun b hb => World.putObj_heap_other (fun e => hl (e ▸ hb))
theorem Same.setCell {S : Nat → Prop} {W : World} {a : Addr} (v : Value) (ha : ¬ S a.block) : Same S W (W.setCell a v) := fun b hb => Below.heap_setCell W a v b (fun e => ha (e ▸ hb))
theorem Same.alloc {S : Nat → Prop} {W : World} (o : Obj) (hS : ∀ b, S b → b < W.heap.size) : Same S W (W.alloc o) := fun b hb => Below.heap_alloc W o b (hS b hb)
theorem Same.grown {S : Nat → Prop} {W W' : World} {row : Option Nat} (hg : W.grownBy W' row) (hS : ∀ b, S b → b < W.heap.size) (hr : ∀ b, S b → some b ≠ row) : Same S W W' := fun b hb => hg.block b (hS b hb) (hr b hb)

/-- The value '.func g' with lb captured, called with whatever yield, hands out 'encs 0', 'encs 1' .. up to N of them, in order, and stops where a round says no; the rounds must keep the blocks of S. -/
def GivesAt (P : Program) (g : Nat) (lb : Array Value) (encs : Nat → Array Value) (N : Nat) (S : Nat → Prop) (w : World) : Prop :=
  ∀ (l : Nat) (J : Nat → World → Prop) (Jx : World → Prop) (W : World), Same S w W →
    (∀ i A B, J i A → A.grownBy B none → J i B) →
    (∀ i W1, i < N → J i W1 → Same S W W1 → YieldAt Fence.wide 0 P l (encs i) W1 fun e W' =>
      (e = .returned (.bool true) ∧ J (i + 1) W' ∧ Same S W1 W') ∨ (e = .returned (.bool false) ∧ Jx W')) →
    (∀ A B, Jx A → A.grownBy B none → Jx B) →
    J 0 W →
    CallsIn Fence.wide 0 P g (#[.func (.yield l) #[] #[]] ++ lb) W fun e W' => (∃ v, e = .returned v) ∧ (J N W' ∨ Jx W')

theorem GivesAt.later {P : Program} {g : Nat} {lb : Array Value} {encs : Nat → Array Value} {N : Nat} {S : Nat → Prop} {w W : World} (h : GivesAt P g lb encs N S w) (hb : Same S w W) : GivesAt P g lb encs N S W :=
  fun l J Jx V hV => h l J Jx V (hb.trans hV)

/-- How a round's body is left. -/
def roundEnd (B : Nat) (S : Nat → Prop) (I : Nat → World → Prop) (Ix : Code → World → Prop) (i : Nat) (W : World) : Exit → Act → World → Prop
  | .normal, _, W' => KeepsFrom B W W' ∧ Same S W W' ∧ I (i + 1) W'
  | .ret, _, W' => KeepsFrom B W W' ∧ Ix .ret W'
  | .exit id, _, W' => KeepsFrom B W W' ∧ Ix (.exit id) W'
  | .goto t, _, W' => KeepsFrom B W W' ∧ Ix (.goto t) W'
  | .panic _, _, _ => False
  | .outgrown, _, _ => False

theorem below_putObj {m : Nat} {W : World} {l : Nat} {o : Obj} (o' : Obj) (hB : m ≤ l) (hl : W.heap[l]? = some o) : Below m W (W.putObj l o') :=
  (Below.refl m W).grown (grownBy_putObj' W l o') (by have := (Array.getElem?_eq_some_iff.1 hl).1; omega) (fun k e => by cases e; exact hB)

/-- THE STATEMENT: I i: what holds when i rounds are over; Ix c: a round has left by the jump c. -/
theorem wp_rangeAt {P : Program} {g : Operand} {ps : Array Tmp} {assign body : Code} {Q : Exit → Act → World → Prop} {a : Act} {w : World} {gf : Nat} {lb : Array Value} {encs : Nat → Array Value} {N : Nat} {S : Nat → Prop}
    (hg : a.eval g = .func (.func gf) #[] lb) (eg : ∀ args w, (callFunc gf args).run P w = .ok (.enter gf args) w)
    (hseq : GivesAt P gf lb encs N S w) (hS : ∀ b, S b → b < w.heap.size) (hps : ∀ i, (encs i).size = ps.size)
    (I : Nat → World → Prop) (Ix : Code → World → Prop) (hI : OwnFrom w.heap.size I) (hIx : OwnFrom w.heap.size Ix) (h0 : I 0 w) (Ax : Array Value → Nat → Act → World → Prop)
    (hassign : ∀ (l i : Nat) (W : World) (K : Act → World → Prop), I i W → i < N → w.heap.size + 2 ≤ W.heap.size → (∀ a₁ W1, KeepsFrom w.heap.size W W1 → Same S W W1 → I i W1 → Ax a.tmps i a₁ W1 → K a₁ W1) →
      assign.wpIn (Fence.wide.inRound l) 0 P (Exit.then K (fun _ _ _ => False)) { tmps := (ps.zip (encs i)).foldl (fun t (p, v) => t.setIfInBounds p v) a.tmps, defers := [] } W)
    (hAx : OwnFrom w.heap.size (fun (p : Nat × Act) W => Ax a.tmps p.1 p.2 W))
    (hbody : ∀ (l i : Nat) (a₁ : Act) (W : World), I i W → i < N → w.heap.size + 2 ≤ W.heap.size → Ax a.tmps i a₁ W → body.wpIn (Fence.wide.inRound l) 0 P (roundEnd w.heap.size S I Ix i W) a₁ W)
    (hdone : ∀ (D : Nat) (W : World), w.heap.size ≤ D → I N W → W.heap[D]? = some (.deferred (some [])) → Q .normal { a with defers := { target := .collected D, args := #[] } :: a.defers } W)
    (hstop : ∀ (D : Nat) (c : Code) (W : World), w.heap.size ≤ D → Ix c W → W.heap[D]? = some (.deferred (some [])) → c.wpIn Fence.wide 0 P Q { a with defers := { target := .collected D, args := #[] } :: a.defers } W) :
    (Code.rangeFunc g ps assign body).wpIn Fence.wide 0 P Q a w := by
  refine wpIn_rangeFunc ?_
  intro fn hfn
  let rc : LoopState → Option Code → Loop := fun st pe => { state := st, pending := pe, fn, tmps := a.tmps, params := ps, assign, body, defers := w.heap.size }
  obtain ⟨V, hV⟩ : ∃ V, (w.alloc (.deferred (some []))).alloc (.loop (rc .ready none)) = V := ⟨_, rfl⟩
  have sV : V.heap.size = w.heap.size + 2 := by rw [← hV]; simp
  have rV : V.heap[w.heap.size + 1]? = some (.loop (rc .ready none)) := by
    rw [← hV]; have := World.alloc_heap_new (w.alloc (.deferred (some []))) (.loop (rc .ready none)); rwa [World.size_alloc] at this
  have dV : V.heap[w.heap.size]? = some (.deferred (some [])) := by
    rw [← hV]; exact (Below.heap_alloc _ _ _ (by simp)).trans (World.alloc_heap_new w _)
  have bV : Below w.heap.size w V := by rw [← hV]; exact ((Below.refl _ w).alloc (Nat.le_refl _) _).alloc (by simp) _
  have nS : ¬ S (w.heap.size + 1) := fun h => by have := hS _ h; omega
  have iV : I 0 V := by rw [← hV]; exact hI.alloc _ (hI.alloc _ h0)
  refine ⟨w.heap.size + 1, [{ target := .collected w.heap.size, args := #[] }], V, { target := .fn (.func gf) lb, args := #[.func (.yield (w.heap.size + 1)) #[] #[]] }, V, gf,
    #[.func (.yield (w.heap.size + 1)) #[] #[]] ++ lb, V, ?_, ?_, ?_, ?_, fun h => by simp [Fence.wide] at h, ?_⟩
  · rw [← hV]; exact run_enterLoop_outer _ _ _ _ _
  · simp only [resolve, hg]
    simp [go_sem]
  · intro f' _; trivial
  · simp [invoke, go_sem, eg]
  -- the iterator's word, at the caller's invariant with the two blocks of the loop's own beside it
  refine (hseq (w.heap.size + 1)
    (fun i W => I i W ∧ W.heap[w.heap.size + 1]? = some (.loop (rc .ready none)) ∧ W.heap[w.heap.size]? = some (.deferred (some [])) ∧ w.heap.size + 2 ≤ W.heap.size)
    (fun W => ∃ c, Ix c W ∧ W.heap[w.heap.size + 1]? = some (.loop (rc .done (some c))) ∧ W.heap[w.heap.size]? = some (.deferred (some [])))
    V (Same.of_below bV hS) ?_ ?_ ?_ ⟨iV, rV, dV, by omega⟩).mono ?_
  · rintro i A B ⟨h1, h2, h3, h4⟩ hg'
    exact ⟨hI i A B none h1 hg' (fun r e => by cases e), (hg'.block _ (Array.getElem?_eq_some_iff.1 h2).1 (by simp)).trans h2, (hg'.block _ (Array.getElem?_eq_some_iff.1 h3).1 (by simp)).trans h3, Nat.le_trans h4 hg'.size⟩
  · -- a round
    rintro i W hlt ⟨hi, hl, hk, hs⟩ hb1
    have hl' : w.heap.size + 1 < W.heap.size := (Array.getElem?_eq_some_iff.1 hl).1
    have hy := run_yield (P := P) (args := encs i) hl (hps i)
    refine ⟨fn, _, assign, body, hy, roundIn_of_wpIn hfn (hassign (w.heap.size + 1) i W _ hi hlt hs ?_)⟩
    intro a₁ W0 kf0 bl0 hi0 hax0
    have hl0 : W0.heap[w.heap.size + 1]? = some (.loop (rc .ready none)) := kf0.same _ _ (by omega) hl rfl
    have hk0 : W0.heap[w.heap.size]? = some (.deferred (some [])) := kf0.same _ _ (Nat.le_refl _) hk rfl
    have hz0 : w.heap.size + 1 < W0.heap.size := (Array.getElem?_eq_some_iff.1 hl0).1
    refine ⟨_, run_beginRound hl0 rfl, ?_⟩
    obtain ⟨W2, hW2⟩ : ∃ W2, W0.putObj (w.heap.size + 1) (.loop { rc .ready none with state := .busy }) = W2 := ⟨_, rfl⟩
    have hl2 : W2.heap[w.heap.size + 1]? = some (.loop { rc .ready none with state := .busy }) := by rw [← hW2]; exact World.putObj_heap_same hz0
    have hk2 : W2.heap[w.heap.size]? = some (.deferred (some [])) := by rw [← hW2]; exact (World.putObj_heap_other (by omega)).trans hk0
    have hs2 : W2.heap.size = W0.heap.size := by rw [← hW2]; simp
    have bl2 : Same S W0 W2 := by rw [← hW2]; exact Same.putObj _ nS
    have hi2 : I i W2 := by rw [← hW2]; exact hI.putObj _ hi0 (by omega) hl0 rfl
    have ha2 : Ax a.tmps i a₁ W2 := by rw [← hW2]; exact hAx.putObj (s := (i, a₁)) _ hax0 (by omega) hl0 rfl
    show body.wpIn _ _ _ _ _ (W0.putObj (w.heap.size + 1) (.loop { rc .ready none with state := .busy }))
    rw [hW2]
    refine wpIn_mono (hbody (w.heap.size + 1) i a₁ W2 hi2 hlt (by omega) ha2) ?_
    have fin : ∀ (jump : Option Code) (W3 : World), KeepsFrom w.heap.size W2 W3 →
        (Instr.endRound (w.heap.size + 1) jump).run P W3 = .ok (.bool jump.isNone) (W3.putObj (w.heap.size + 1) (.loop (rc (if jump.isNone then .ready else .done) jump))) ∧
        W3.heap[w.heap.size + 1]? = some (.loop { rc .ready none with state := .busy }) ∧
        (W3.putObj (w.heap.size + 1) (.loop (rc (if jump.isNone then .ready else .done) jump))).heap[w.heap.size + 1]? = some (.loop (rc (if jump.isNone then .ready else .done) jump)) ∧
        (W3.putObj (w.heap.size + 1) (.loop (rc (if jump.isNone then .ready else .done) jump))).heap[w.heap.size]? = some (.deferred (some [])) := fun jump W3 hk3 => by
      have hl3 := hk3.same _ _ (by omega) hl2 rfl
      exact ⟨run_endRound (P := P) jump hl3, hl3, World.putObj_heap_same (Array.getElem?_eq_some_iff.1 hl3).1, (World.putObj_heap_other (by omega)).trans (hk3.same _ _ (Nat.le_refl _) hk2 rfl)⟩
    rintro e a3 W3 hp
    cases e with
    | normal =>
      obtain ⟨hk3, hb3, hi3⟩ := hp
      obtain ⟨hr, hl3, hl4, hk4⟩ := fin none W3 hk3
      refine ⟨_, _, hr, .inl ⟨rfl, ⟨hI.putObj _ hi3 (by omega) hl3 rfl, hl4, hk4, by have := hk3.size; simp; omega⟩, ?_⟩⟩
      exact ((bl0.trans bl2).trans hb3).trans (Same.putObj _ nS)
    | ret =>
      obtain ⟨hk3, hi3⟩ := hp
      obtain ⟨hr, hl3, hl4, hk4⟩ := fin (some .ret) W3 hk3
      exact ⟨_, _, hr, .inr ⟨rfl, .ret, hIx.putObj _ hi3 (by omega) hl3 rfl, hl4, hk4⟩⟩
    | exit id =>
      obtain ⟨hk3, hi3⟩ := hp
      obtain ⟨hr, hl3, hl4, hk4⟩ := fin (some (.exit id)) W3 hk3
      exact ⟨_, _, hr, .inr ⟨rfl, .exit id, hIx.putObj _ hi3 (by omega) hl3 rfl, hl4, hk4⟩⟩
    | goto t =>
      obtain ⟨hk3, hi3⟩ := hp
      obtain ⟨hr, hl3, hl4, hk4⟩ := fin (some (.goto t)) W3 hk3
      exact ⟨_, _, hr, .inr ⟨rfl, .goto t, hIx.putObj _ hi3 (by omega) hl3 rfl, hl4, hk4⟩⟩
    | panic ch => exact hp.elim
    | outgrown => exact hp.elim
  · rintro A B ⟨c, h1, h2, h3⟩ hg'
    exact ⟨c, hIx c A B none h1 hg' (fun r e => by cases e), (hg'.block _ (Array.getElem?_eq_some_iff.1 h2).1 (by simp)).trans h2, (hg'.block _ (Array.getElem?_eq_some_iff.1 h3).1 (by simp)).trans h3⟩
  · -- behind the iterator
    rintro e W2 ⟨⟨v, rfl⟩, (⟨hi, hl, hk, _⟩ | ⟨c, hi, hl, hk⟩)⟩
    · exact ⟨none, _, run_endLoop (P := P) hl (by simp [rc]), hdone _ _ (Nat.le_refl _) (hI.putObj _ hi (by omega) hl rfl) ((World.putObj_heap_other (by omega)).trans hk)⟩
    · exact ⟨some c, _, run_endLoop (P := P) hl (by simp [rc]), hstop _ c _ (Nat.le_refl _) (hIx.putObj _ hi (by omega) hl rfl) ((World.putObj_heap_other (by omega)).trans hk)⟩

end Go.Proofs.YtcmjddkljmfklaaDoor
