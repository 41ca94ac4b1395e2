/- A loop over an iterator that makes memory of its own: the rounds turn no block but the caller's; and append with the block it comes to. No condition. -/
import Derived.Test.YtcmjddkljmfklaaDoorRange
namespace Go.Proofs.YtcmjddkljmfklaaDoor
set_option linter.unusedVariables false
set_option linter.unusedSimpArgs false
open Go.RowKit

/-- a round turns no block but those of M; behind it the caller's are M' -/
structure Moves (M M' : Nat → Prop) (A B : World) : Prop where
  size : A.heap.size ≤ B.heap.size
  same : ∀ b, b < A.heap.size → ¬ M b → B.heap[b]? = A.heap[b]?
  grow : ∀ b, M' b → M b ∨ A.heap.size ≤ b
theorem Moves.refl (M : Nat → Prop) (A : World) : Moves M M A A := ⟨Nat.le_refl _, fun _ _ _ => rfl, fun _ h => .inl h⟩
theorem Moves.trans {M M' M'' : Nat → Prop} {A B C : World} (h : Moves M M' A B) (k : Moves M' M'' B C) : Moves M M'' A C :=
  ⟨Nat.le_trans h.size k.size, fun b hb hM => (k.same b (Nat.lt_of_lt_of_le hb h.size) (fun h' => (h.grow b h').elim hM (fun h'' => by omega))).trans (h.same b hb hM),
    fun b hb => (k.grow b hb).elim (fun h' => h.grow b h') (fun h' => .inr (Nat.le_trans h.size h'))⟩

/-- The value '.func g' with lb captured, called with whatever yield, hands out 'encs 0', 'encs 1' .. up to N of them, in order, and stops where a round says no; a round turns the caller's blocks alone, and those are none of the iterator's. -/
def GivesM (P : Program) (g : Nat) (lb : Array Value) (encs : Nat → Array Value) (N : Nat) (S : Nat → Prop) (w : World) : Prop :=
  ∀ (l : Nat) (J : Nat → (Nat → Prop) → World → Prop) (Jx : World → Prop) (W : World), Same S w W →
    (∀ i M A B, J i M A → A.grownBy B none → J i M B) →
    (∀ i M W1, i < N → J i M W1 → YieldAt Fence.wide 0 P l (encs i) W1 fun e W' =>
      (e = .returned (.bool true) ∧ ∃ M', J (i + 1) M' W' ∧ Moves M M' W1 W') ∨ (e = .returned (.bool false) ∧ Jx W')) →
    (∀ A B, Jx A → A.grownBy B none → Jx B) →
    ∀ M0, J 0 M0 W → (∀ b, M0 b → b < W.heap.size ∧ ¬ S b) →
    CallsIn Fence.wide 0 P g (#[.func (.yield l) #[] #[]] ++ lb) W fun e W' => (∃ v, e = .returned v) ∧ ((∃ M, J N M W') ∨ Jx W')

/-- How a round's body is left. -/
def roundEndM (B : Nat) (M : Nat → Prop) (I : Nat → (Nat → Prop) → World → Prop) (Ix : Code → World → Prop) (i : Nat) (W : World) : Exit → Act → World → Prop
  | .normal, _, W' => ∃ M', I (i + 1) M' W' ∧ Moves M M' W W'
  | .ret, _, W' => KeepsFrom B W W' ∧ Ix .ret W'
  | .exit id, _, W' => KeepsFrom B W W' ∧ Ix (.exit id) W'
  | .goto t, _, W' => KeepsFrom B W W' ∧ Ix (.goto t) W'
  | .panic _, _, _ => False
  | .outgrown, _, _ => False

/-- THE STATEMENT: I i M: what holds when i rounds are over, M being the blocks that a round may turn; Ix c: a round has left by the jump c. -/
theorem wp_rangeM {P : Program} {g : Operand} {ps : Array Tmp} {assign body : Code} {Q : Exit → Act → World → Prop} {a : Act} {w : World} {gf : Nat} {lb : Array Value} {encs : Nat → Array Value} {N : Nat} {S : Nat → Prop}
    (hg : a.eval g = .func (.func gf) #[] lb) (eg : ∀ args w, (callFunc gf args).run P w = .ok (.enter gf args) w)
    (hseq : GivesM P gf lb encs N S w) (hS : ∀ b, S b → b < w.heap.size) (hps : ∀ i, (encs i).size = ps.size)
    (I : Nat → (Nat → Prop) → World → Prop) (Ix : Code → World → Prop) (hI : OwnFrom w.heap.size (fun (p : Nat × (Nat → Prop)) W => I p.1 p.2 W)) (hIx : OwnFrom w.heap.size Ix) (M0 : Nat → Prop) (h0 : I 0 M0 w) (hM0 : ∀ b, M0 b → b < w.heap.size ∧ ¬ S b) (Ax : Array Value → Nat → Act → Prop)
    (hassign : ∀ (l i : Nat) (M : Nat → Prop) (W : World) (K : Act → World → Prop), I i M W → i < N → (∀ a₁, Ax a.tmps i a₁ → K a₁ W) →
      assign.wpIn (Fence.wide.inRound l) 0 P (Exit.then K (fun _ _ _ => False)) { tmps := (ps.zip (encs i)).foldl (fun t (p, v) => t.setIfInBounds p v) a.tmps, defers := [] } W)
    (hbody : ∀ (l i : Nat) (M : Nat → Prop) (a₁ : Act) (W : World), I i M W → i < N → w.heap.size + 2 ≤ W.heap.size → Ax a.tmps i a₁ → body.wpIn (Fence.wide.inRound l) 0 P (roundEndM w.heap.size M I Ix i W) a₁ W)
    (hdone : ∀ (D : Nat) (M : Nat → Prop) (W : World), w.heap.size ≤ D → I N M W → W.heap[D]? = some (.deferred (some [])) → (∀ b, M b → b ≠ D) → Q .normal { a with defers := { target := .collected D, args := #[] } :: a.defers } W)
    (hstop : ∀ (D : Nat) (c : Code) (W : World), w.heap.size ≤ D → Ix c W → W.heap[D]? = some (.deferred (some [])) → c.wpIn Fence.wide 0 P Q { a with defers := { target := .collected D, args := #[] } :: a.defers } W) :
    (Code.rangeFunc g ps assign body).wpIn Fence.wide 0 P Q a w := by
  refine wpIn_rangeFunc ?_
  intro fn hfn
  let rc : LoopState → Option Code → Loop := fun st pe => { state := st, pending := pe, fn, tmps := a.tmps, params := ps, assign, body, defers := w.heap.size }
  obtain ⟨V, hV⟩ : ∃ V, (w.alloc (.deferred (some []))).alloc (.loop (rc .ready none)) = V := ⟨_, rfl⟩
  have sV : V.heap.size = w.heap.size + 2 := by rw [← hV]; simp
  have rV : V.heap[w.heap.size + 1]? = some (.loop (rc .ready none)) := by
    rw [← hV]; have := World.alloc_heap_new (w.alloc (.deferred (some []))) (.loop (rc .ready none)); rwa [World.size_alloc] at this
  have dV : V.heap[w.heap.size]? = some (.deferred (some [])) := by
    rw [← hV]; exact (Below.heap_alloc _ _ _ (by simp)).trans (World.alloc_heap_new w _)
  have bV : Below w.heap.size w V := by rw [← hV]; exact ((Below.refl _ w).alloc (Nat.le_refl _) _).alloc (by simp) _
  have nS : ¬ S (w.heap.size + 1) := fun h => by have := hS _ h; omega
  have iV : I 0 M0 V := by rw [← hV]; exact hI.alloc (s := (0, M0)) _ (hI.alloc (s := (0, M0)) _ h0)
  refine ⟨w.heap.size + 1, [{ target := .collected w.heap.size, args := #[] }], V, { target := .fn (.func gf) lb, args := #[.func (.yield (w.heap.size + 1)) #[] #[]] }, V, gf,
    #[.func (.yield (w.heap.size + 1)) #[] #[]] ++ lb, V, ?_, ?_, ?_, ?_, fun h => by simp [Fence.wide] at h, ?_⟩
  · rw [← hV]; exact run_enterLoop_outer _ _ _ _ _
  · simp only [resolve, hg]
    simp [go_sem]
  · intro f' _; trivial
  · simp [invoke, go_sem, eg]
  -- the iterator's word, at the caller's invariant with the two blocks of the loop's own beside it
  refine (hseq (w.heap.size + 1)
    (fun i M' W => ∃ M, (∀ b, M' b ↔ M b ∨ b = w.heap.size + 1) ∧ I i M W ∧ W.heap[w.heap.size + 1]? = some (.loop (rc .ready none)) ∧ W.heap[w.heap.size]? = some (.deferred (some [])) ∧ w.heap.size + 2 ≤ W.heap.size ∧ ∀ b, M b → b ≠ w.heap.size ∧ b ≠ w.heap.size + 1)
    (fun W => ∃ c, Ix c W ∧ W.heap[w.heap.size + 1]? = some (.loop (rc .done (some c))) ∧ W.heap[w.heap.size]? = some (.deferred (some [])))
    V (Same.of_below bV hS) ?_ ?_ ?_ (fun b => M0 b ∨ b = w.heap.size + 1) ⟨M0, fun b => Iff.rfl, iV, rV, dV, by omega, fun b hb => by have := (hM0 b hb).1; omega⟩ ?_).mono ?_
  · rintro i M' A B ⟨M, h0, h1, h2, h3, h4, h5⟩ hg'
    exact ⟨M, h0, hI (i, M) A B none h1 hg' (fun r e => by cases e), (hg'.block _ (Array.getElem?_eq_some_iff.1 h2).1 (by simp)).trans h2, (hg'.block _ (Array.getElem?_eq_some_iff.1 h3).1 (by simp)).trans h3, Nat.le_trans h4 hg'.size, h5⟩
  · -- a round
    rintro i M' W hlt ⟨M, hMM, hi, hl, hk, hs, hMn⟩
    have hl' : w.heap.size + 1 < W.heap.size := (Array.getElem?_eq_some_iff.1 hl).1
    have hy := run_yield (P := P) (args := encs i) hl (hps i)
    refine ⟨fn, _, assign, body, hy, roundIn_of_wpIn hfn (hassign (w.heap.size + 1) i M W _ hi hlt ?_)⟩
    intro a₁ hax0
    refine ⟨_, run_beginRound hl rfl, ?_⟩
    obtain ⟨W2, hW2⟩ : ∃ W2, W.putObj (w.heap.size + 1) (.loop { rc .ready none with state := .busy }) = W2 := ⟨_, rfl⟩
    have hl2 : W2.heap[w.heap.size + 1]? = some (.loop { rc .ready none with state := .busy }) := by rw [← hW2]; exact World.putObj_heap_same hl'
    have hk2 : W2.heap[w.heap.size]? = some (.deferred (some [])) := by rw [← hW2]; exact (World.putObj_heap_other (by omega)).trans hk
    have hs2 : W2.heap.size = W.heap.size := by rw [← hW2]; simp
    have hi2 : I i M W2 := by rw [← hW2]; exact hI.putObj (s := (i, M)) _ hi (by omega) hl rfl
    show body.wpIn _ _ _ _ _ (W.putObj (w.heap.size + 1) (.loop { rc .ready none with state := .busy }))
    rw [hW2]
    refine wpIn_mono (hbody (w.heap.size + 1) i M a₁ W2 hi2 hlt (by omega) hax0) ?_
    have fin : ∀ (jump : Option Code) (W3 : World), W3.heap[w.heap.size + 1]? = some (.loop { rc .ready none with state := .busy }) → W3.heap[w.heap.size]? = some (.deferred (some [])) →
        (Instr.endRound (w.heap.size + 1) jump).run P W3 = .ok (.bool jump.isNone) (W3.putObj (w.heap.size + 1) (.loop (rc (if jump.isNone then .ready else .done) jump))) ∧
        (W3.putObj (w.heap.size + 1) (.loop (rc (if jump.isNone then .ready else .done) jump))).heap[w.heap.size + 1]? = some (.loop (rc (if jump.isNone then .ready else .done) jump)) ∧
        (W3.putObj (w.heap.size + 1) (.loop (rc (if jump.isNone then .ready else .done) jump))).heap[w.heap.size]? = some (.deferred (some [])) := fun jump W3 hl3 hk3 => by
      exact ⟨run_endRound (P := P) jump hl3, World.putObj_heap_same (Array.getElem?_eq_some_iff.1 hl3).1, (World.putObj_heap_other (by omega)).trans hk3⟩
    rintro e a3 W3 hp
    cases e with
    | normal =>
      obtain ⟨M3, hi3, hmv⟩ := hp
      have hl3 := (hmv.same _ (by omega) (fun h => (hMn _ h).2 rfl)).trans hl2
      have hk3 := (hmv.same _ (by omega) (fun h => (hMn _ h).1 rfl)).trans hk2
      obtain ⟨hr, hl4, hk4⟩ := fin none W3 hl3 hk3
      refine ⟨_, _, hr, .inl ⟨rfl, fun b => M3 b ∨ b = w.heap.size + 1, ⟨M3, fun b => Iff.rfl, hI.putObj (s := (i + 1, M3)) _ hi3 (by omega) hl3 rfl, hl4, hk4, by have := hmv.size; simp; omega, ?_⟩, ?_, ?_, ?_⟩⟩
      · intro b hb
        rcases hmv.grow b hb with h | h
        · exact hMn b h
        · omega
      · have := hmv.size; simp; omega
      · intro b hb hnb
        have hne : b ≠ w.heap.size + 1 := fun e => hnb ((hMM b).2 (.inr e))
        rw [World.putObj_heap_other hne, hmv.same b (by omega) (fun h => hnb ((hMM b).2 (.inl h))), ← hW2, World.putObj_heap_other hne]
      · rintro b (h | h)
        · rcases hmv.grow b h with h' | h'
          · exact .inl ((hMM b).2 (.inl h'))
          · exact .inr (by omega)
        · exact .inl ((hMM b).2 (.inr h))
    | ret =>
      obtain ⟨hk3, hi3⟩ := hp
      have hl3 := hk3.same _ _ (by omega) hl2 rfl
      obtain ⟨hr, hl4, hk4⟩ := fin (some .ret) W3 hl3 (hk3.same _ _ (Nat.le_refl _) hk2 rfl)
      exact ⟨_, _, hr, .inr ⟨rfl, .ret, hIx.putObj _ hi3 (by omega) hl3 rfl, hl4, hk4⟩⟩
    | exit id =>
      obtain ⟨hk3, hi3⟩ := hp
      have hl3 := hk3.same _ _ (by omega) hl2 rfl
      obtain ⟨hr, hl4, hk4⟩ := fin (some (.exit id)) W3 hl3 (hk3.same _ _ (Nat.le_refl _) hk2 rfl)
      exact ⟨_, _, hr, .inr ⟨rfl, .exit id, hIx.putObj _ hi3 (by omega) hl3 rfl, hl4, hk4⟩⟩
    | goto t =>
      obtain ⟨hk3, hi3⟩ := hp
      have hl3 := hk3.same _ _ (by omega) hl2 rfl
      obtain ⟨hr, hl4, hk4⟩ := fin (some (.goto t)) W3 hl3 (hk3.same _ _ (Nat.le_refl _) hk2 rfl)
      exact ⟨_, _, hr, .inr ⟨rfl, .goto t, hIx.putObj _ hi3 (by omega) hl3 rfl, hl4, hk4⟩⟩
    | panic ch => exact hp.elim
    | outgrown => exact hp.elim
  · rintro A B ⟨c, h1, h2, h3⟩ hg'
    exact ⟨c, hIx c A B none h1 hg' (fun r e => by cases e), (hg'.block _ (Array.getElem?_eq_some_iff.1 h2).1 (by simp)).trans h2, (hg'.block _ (Array.getElem?_eq_some_iff.1 h3).1 (by simp)).trans h3⟩
  · rintro b (hb | rfl)
    · exact ⟨by have := (hM0 b hb).1; omega, (hM0 b hb).2⟩
    · exact ⟨by omega, nS⟩
  · -- behind the iterator
    rintro e W2 ⟨⟨v, rfl⟩, (⟨M', M, hMM, hi, hl, hk, _, hMn⟩ | ⟨c, hi, hl, hk⟩)⟩
    · exact ⟨none, _, run_endLoop (P := P) hl (by simp [rc]), hdone _ M _ (Nat.le_refl _) (hI.putObj (s := (N, M)) _ hi (by omega) hl rfl) ((World.putObj_heap_other (by omega)).trans hk) (fun b hb => (hMn b hb).1)⟩
    · exact ⟨some c, _, run_endLoop (P := P) hl (by simp [rc]), hstop _ c _ (Nat.le_refl _) (hIx.putObj _ hi (by omega) hl rfl) ((World.putObj_heap_other (by omega)).trans hk)⟩


/-! ### append, with the block that it comes to -/
theorem run_append_own2 {P : Program} (w : World) (base : Nat) (t ty e : TypeId) (i : TypeInfo) (z : Value) (size bytes : Nat) (ht : P.underlying t = some (.slice e)) (hi : P.info? e = some i) (hz : i.zero = some z)
    (hsize : i.size = size) (hby : i.bytes = bytes) (hzs : z.cells.size = size) (hsz : 0 < size)
    (v : Value) (n : Nat) (xs : List Value) (hown : w.ownsRow base e size v n xs)
    (a : Addr) (m c : Nat) (news : List Value) (hl : news.length = m * size) (hnews : ∀ j u, news[j]? = some u → w.cell? (a.add j) = some u) (h1 : ∀ u ∈ news, u.oneCell' = true)
    (h63 : n + m ≤ maxLen) (hbytes : (n + m) * bytes ≤ 140737488355328) (hbase : base ≤ w.heap.size) (hm : 0 < m) :
    ∃ v' w', (Builtin.append_ #[t, t] ty #[v, .slice (some a) m c]).run P w = .ok v' w' ∧ w'.ownsRow base e size v' (n + m) (xs ++ news) ∧ w.grownBy w' v.ownBlock ∧
      (v'.ownBlock = v.ownBlock ∨ v'.ownBlock = some w.heap.size) := by
  obtain ⟨v', w', hr, h2, h3, h4⟩ := run_append_own (P := P) w base t ty e i z size bytes ht hi hz hsize hby hzs hsz v n xs hown a m c news hl hnews h1 h63 hbytes hbase
  refine ⟨v', w', hr, h2, h3, ?_⟩
  subst hsize
  subst hby
  have hs : n + m ≤ 9223372036854775807 := by simp only [maxLen] at h63; omega
  rcases hown.2 with ⟨rfl, rfl⟩ | ⟨g, cap, cur, rfl, hbg, hg, hnc, hcm, hcs, htake⟩
  · have hr2 := run_append_nil (P := P) w t ty e i z ht hi hz a m c news hl hnews hm (by omega) (by have hb := hbytes; simp only [Nat.zero_add] at hb; omega)
    rw [hr2] at hr
    cases hr
    exact .inr rfl
  · by_cases hroom : n + m ≤ cap
    · have hfit : n * i.size + news.length ≤ cur.size := by rw [hl, hcs, ← Nat.add_mul]; exact Nat.mul_le_mul_right _ hroom
      have hr2 := run_append_room (P := P) w t ty e i ht hi g n cap cur hg a m c news hl hnews h1 hroom hfit
      rw [hr2] at hr
      cases hr
      exact .inl rfl
    · have hr2 := run_append_grow (P := P) w t ty e i z ht hi hz ⟨g, 0, none⟩ n cap xs hown.1 (hown.cells (g := g) rfl) a m c news hl hnews (by omega) (by omega) (growslice_fits (by omega) hbytes)
      rw [hr2] at hr
      cases hr
      exact .inr rfl
theorem wpListIn_append_own2 {F : Fence} {n : Nat} {P : Program} (w : World) {ops : Array Oper} {rest : List Oper} {o : Oper} {a : Act} {Q : Exit → Act → World → Prop}
    (hg : o.guard = none) (s x : Operand) (t : TypeId) (hop : o.op = Op.call { callee := Callee.builtin Builtin.append, args := #[s, x], argTypes := #[t, t] })
    (base : Nat) (e : TypeId) (i : TypeInfo) (z : Value) (size bytes : Nat) (h1 : P.underlying t = some (.slice e)) (h2 : P.info? e = some i) (h3 : i.zero = some z) (h4 : i.size = size) (h5 : i.bytes = bytes) (h6 : z.cells.size = size) (h7 : 0 < size)
    (v : Value) (k : Nat) (xs : List Value) (hs : a.eval s = v) (hown : w.ownsRow base e size v k xs) (ad : Addr) (m c : Nat) (news : List Value) (hx : a.eval x = .slice (some ad) m c) (hn : news.length = m * size)
    (hc : ∀ j u, news[j]? = some u → w.cell? (ad.add j) = some u) (h1c : ∀ u ∈ news, u.oneCell' = true) (b1 : k + m ≤ maxLen) (b2 : (k + m) * bytes ≤ 140737488355328) (b3 : base ≤ w.heap.size) (hm : 0 < m)
    (hK : ∀ v' w', w'.ownsRow base e size v' (k + m) (xs ++ news) → w.grownBy w' v.ownBlock → (v'.ownBlock = v.ownBlock ∨ v'.ownBlock = some w.heap.size) → wpListIn F n P ops Q rest (a.put o.dst v') w') :
    wpListIn F n P ops Q (o :: rest) a w := by
  refine wpListIn_plain hg fun K hK' => ?_
  obtain ⟨v', w', hrun, r1, r2, r3⟩ := run_append_own2 (P := P) w base t o.type e i z size bytes h1 h2 h3 h4 h5 h6 h7 v k xs hown ad m c news hn hc h1c b1 b2 b3 hm
  unfold Oper.wpIn
  refine ⟨?_, ?_⟩
  · simp [Oper.about, hop, resolve, Target.leads, Sem.run_pure]
  · rw [Oper.semAt_plain F _ _ (by rw [hop]; intro c hc'; cases hc')]
    simp [execOp, hop, resolve, invoke, builtin, hs, hx, hrun, Result.andThen]
    exact hK' _ _ (hK v' w' r1 r2 r3)
end Go.Proofs.YtcmjddkljmfklaaDoor
