/- A region that draws its order: XSeq's rule where several operations may come up: the plan is a tree. No condition. -/
import Derived.Test.YtcmjddkljmfklaaDoorSeqIn
namespace Go.Proofs.YtcmjddkljmfklaaDoor
set_option linter.unusedVariables false
set_option linter.unusedSimpArgs false
open Go.RowKit

inductive Plan where
  | done
  | step (i k : Nat) (r : Plan)
  | fork (m : Plan)
  | alt (i : Nat) (p m : Plan)
  | none
def Plan.sz : Plan → Nat
  | .done => 0
  | .step _ _ r => r.sz + 1
  | .fork m => m.sz
  | .alt _ p _ => p.sz + 1
  | .none => 0
def Plan.chain : Plan → Bool
  | .alt _ _ _ => true
  | .none => true
  | _ => false
def Plan.set : Plan → List Nat
  | .alt i _ m => i :: m.set
  | _ => []
def stepOk (ns : Array Note) (loads i k L : Nat) : Bool :=
  match ns[i]? with
  | Option.none => false
  | some n => (n.kind == k) && (ready n L i && (n.kind != 1 || loads.testBit i) &&
      (if n.kind < 2 then (List.range ns.size).all fun j => j == i || L.testBit j || match ns[j]? with | some m => m.ahead.testBit i || apartN n m | Option.none => true
       else (List.range ns.size).all fun j => j == i || match ns[j]? with | some m => !ready m L j | Option.none => true) &&
      (n.kind < 3 || !flagged n loads i))
def Plan.ok (ns : Array Note) (loads : Nat) : Plan → Nat → Bool
  | .done, L => (List.range ns.size).all fun i => L.testBit i
  | .step i k r, L => stepOk ns loads i k L && !r.chain && r.ok ns loads (L ||| 2 ^ i)
  | .fork m, L => !m.set.isEmpty && ((List.range ns.size).all fun j => m.set.contains j || match ns[j]? with | some n => !ready n L j | Option.none => true) && m.ok ns loads L
  | .alt i p m, L => (match ns[i]? with | some n => ready n L i | Option.none => false) && !p.chain && p.ok ns loads (L ||| 2 ^ i) && (m.set.isEmpty || m.sz == p.sz + 1) && m.ok ns loads L
  | .none, _ => true
section
variable {P : Program} {ops : Array Oper} {Q : Exit → Act → World → Prop} {md : Region.Mode} {X : Nat → Prop} {ns : Array Note}
def stepP (P : Program) (ops : Array Oper) (Q : Exit → Act → World → Prop) (X : Nat → Prop) (R : Act → World → Prop) (i k : Nat) (a : Act) (w : World) : Prop :=
  if k = 0 then ∃ o v, ops[i]? = some o ∧ Yields P ops o v a ∧ R (a.put o.dst v) w
  else if k = 1 then ∃ o v, ops[i]? = some o ∧ YieldsIf P ops (Chg X w) o v a ∧ R (a.put o.dst v) w
  else if k = 2 then wpOp P ops Q i (fun a' w' => Chg X w w' ∧ R a' w') a w
  else wpOp P ops Q i R a w
def wpT (P : Program) (ops : Array Oper) (Q : Exit → Act → World → Prop) (X : Nat → Prop) : Plan → Act → World → Prop
  | .done, a, w => Q .normal a w
  | .step i k r, a, w => stepP P ops Q X (wpT P ops Q X r) i k a w
  | .fork m, a, w => wpT P ops Q X m a w
  | .alt i p m, a, w => wpOp P ops Q i (fun a' w' => Chg X w w' ∧ wpT P ops Q X p a' w') a w ∧ wpT P ops Q X m a w
  | .none, _, _ => True
/-- one step -/
theorem step_F {loads : Nat} (hn : notesOk md ops ns = true) (hsel : Region.noSelect ops = true) (hQ : ∀ c (a : Act) d v w, Q (.panic c) (a.put d v) w → Q (.panic c) a w) {i k L fuel : Nat} {a : Act} {w : World} {R : Act → World → Prop}
    (hc : closedL ns L) (hp : stepOk ns loads i k L = true) (H : ∀ a' w', R a' w' → wpAnyF P ops ns (fun j => match ns[j]? with | some n => flagged n loads j | Option.none => false) Q X fuel (L ||| 2 ^ i) a' w')
    (h : stepP P ops Q X R i k a w) : wpAnyF P ops ns (fun j => match ns[j]? with | some n => flagged n loads j | Option.none => false) Q X (fuel + 1) L a w := by
  obtain ⟨hsz, hah, hnote⟩ := notesOk_spec hn
  have hsel' := Region.noSelect_spec hsel
  unfold stepOk at hp
  cases hni : ns[i]? with
  | none => simp [hni] at hp
  | some n =>
    simp only [hni, Bool.and_eq_true, beq_iff_eq] at hp
    obtain ⟨hkn, ⟨⟨hr, hld⟩, hcase⟩, hfl⟩ := hp
    have hiL := (ready_iff.1 hr).1
    have hil : i < ns.size := (Array.getElem?_eq_some_iff.1 hni).1
    have hr' : ∀ m, ns[i]? = some m → ready m L i = true := fun m hm => by rw [hni] at hm; cases hm; exact hr
    have hfree : n.kind < 2 → ∀ (j : Nat) (m : Note) (oi oj : Oper), ns[j]? = some m → ops[i]? = some oi → ops[j]? = some oj → j ≠ i → L.testBit j = false → m.ahead.testBit i = false → oi.apart ops oj = true := by
      intro hlt j m oi oj hm hoi hoj hji hjL hja
      rw [if_pos hlt] at hcase
      have := List.all_eq_true.1 hcase j (List.mem_range.2 (Array.getElem?_eq_some_iff.1 hm).1)
      simp only [hm, hjL, hja, Bool.or_false, Bool.false_or, Bool.or_eq_true, beq_iff_eq, hji, false_or] at this
      obtain ⟨_, d1, d2, _⟩ := hnote i n oi hni hoi
      obtain ⟨_, e1, e2, _⟩ := hnote j m oj hm hoj
      exact apart_of d1 d2 e1 e2 this
    unfold stepP at h
    by_cases k0 : k = 0
    · rw [if_pos k0] at h
      obtain ⟨o, v, ho, hy, h⟩ := h
      exact wpAnyF_first (T := fun _ => True) hah hsz ho hsel' (fun c a w => hQ c a _ _ w) _ L a w hc hiL (fun j m oj hm hoj hji hjL hja => ⟨hfree (by omega) j m o oj hm ho hoj hji hjL hja, fun _ _ _ _ => trivial⟩) hr' (yieldsT hy) trivial
        (H _ _ h)
    · rw [if_neg k0] at h
      by_cases k1 : k = 1
      · rw [if_pos k1] at h
        obtain ⟨o, v, ho, hy, h⟩ := h
        have hlb : loads.testBit i = true := by
          rcases Bool.or_eq_true _ _ ▸ hld with h' | h'
          · rw [bne_iff_ne] at h'; exact absurd (hkn.trans k1) h'
          · exact h'
        refine wpAnyF_first (T := Chg X w) hah hsz ho hsel' (fun c a w => hQ c a _ _ w) _ L a w hc hiL (fun j m oj hm hoj hji hjL hja => ⟨hfree (by omega) j m o oj hm ho hoj hji hjL hja, fun u u' hf hT => hT.trans (hf ?_)⟩) hr' hy (Chg.refl _ _)
          (H _ _ h)
        simp only [hm, flagged, bne_iff_ne, ne_eq]
        intro e
        have := congrArg (·.testBit i) e
        simp [Nat.testBit_and, Nat.testBit_or, hlb, hja, Nat.testBit_two_pow, hji] at this
      · rw [if_neg k1] at h
        have ho : ∀ (j : Nat) (m : Note), ns[j]? = some m → j ≠ i → ready m L j = false := by
          intro j m hm hji
          by_cases h2 : n.kind < 2
          · exact absurd (by omega : k = 0 ∨ k = 1) (by omega)
          · rw [if_neg h2] at hcase
            have := List.all_eq_true.1 hcase j (List.mem_range.2 (Array.getElem?_eq_some_iff.1 hm).1)
            simpa [hm, hji] using this
        by_cases k2 : k = 2
        · rw [if_pos k2] at h
          exact wpAnyF_only hil hr' ho (wpOp_mono (fun a' w' h' => ⟨fun _ => h'.1, H _ _ h'.2⟩) h)
        · rw [if_neg k2] at h
          refine wpAnyF_only hil hr' ho (wpOp_mono (fun a' w' h' => ⟨fun hf => ?_, H _ _ h'⟩) h)
          have h3 : ¬ n.kind < 3 := by omega
          rw [hni] at hf
          simp only [h3, decide_false, Bool.false_or, Bool.not_eq_true'] at hfl
          simp only [hfl] at hf
          cases hf
theorem wpAnyF_of_T {loads : Nat} (hn : notesOk md ops ns = true) (hsel : Region.noSelect ops = true) (hQ : ∀ c (a : Act) d v w, Q (.panic c) (a.put d v) w → Q (.panic c) a w) : ∀ (p : Plan),
    (∀ (L : Nat) (a : Act) (w : World), closedL ns L → p.ok ns loads L = true → wpT P ops Q X p a w → p.chain = false → wpAnyF P ops ns (fun j => match ns[j]? with | some n => flagged n loads j | Option.none => false) Q X p.sz L a w) ∧
    (∀ (L : Nat) (a : Act) (w : World), closedL ns L → p.ok ns loads L = true → wpT P ops Q X p a w → ∀ j ∈ p.set, (∃ n, ns[j]? = some n ∧ ready n L j = true) ∧ 1 ≤ p.sz ∧
      wpOp P ops Q j (fun a' w' => Chg X w w' ∧ wpAnyF P ops ns (fun j => match ns[j]? with | some n => flagged n loads j | Option.none => false) Q X (p.sz - 1) (L ||| 2 ^ j) a' w') a w) := by
  intro p
  induction p with
  | done =>
    refine ⟨fun L a w hc hp h _ => ?_, fun L a w hc hp h j hj => by cases hj⟩
    simp only [Plan.ok, List.all_eq_true, List.mem_range] at hp
    refine ⟨fun j n hj => ?_, h⟩
    have := hp j (Array.getElem?_eq_some_iff.1 hj).1
    simp [ready, this]
  | step i k r ih =>
    refine ⟨fun L a w hc hp h _ => ?_, fun L a w hc hp h j hj => by cases hj⟩
    simp only [Plan.ok, Bool.and_eq_true, Bool.not_eq_true'] at hp
    obtain ⟨⟨h1, h2⟩, h3⟩ := hp
    refine step_F hn hsel hQ hc h1 (fun a' w' hR => ih.1 _ a' w' ?_ h3 hR h2) h
    unfold stepOk at h1
    cases hni : ns[i]? with
    | none => simp [hni] at h1
    | some n =>
      simp only [hni, Bool.and_eq_true] at h1
      exact closed_more hc hni h1.2.1.1.1
  | fork m ih =>
    refine ⟨fun L a w hc hp h _ => ?_, fun L a w hc hp h j hj => by cases hj⟩
    simp only [Plan.ok, Bool.and_eq_true, Bool.not_eq_true'] at hp
    obtain ⟨⟨h1, h2⟩, h3⟩ := hp
    have hB := ih.2 L a w hc h3 h
    obtain ⟨j0, hj0⟩ : ∃ j, j ∈ m.set := by
      cases hs : m.set with
      | nil => rw [hs] at h1; cases h1
      | cons j l => exact ⟨j, by simp⟩
    obtain ⟨⟨n0, hn0, hr0⟩, hs1, -⟩ := hB j0 hj0
    obtain ⟨f, hf⟩ : ∃ f, m.sz = f + 1 := ⟨m.sz - 1, by omega⟩
    rw [show (Plan.fork m).sz = m.sz from rfl, hf]
    rw [hf, Nat.add_sub_cancel] at hB
    refine ⟨fun hnone => absurd (hnone j0 n0 hn0) (by rw [hr0]; simp), fun j n hjn hr => ?_⟩
    have hjs : j ∈ m.set := by
      have := List.all_eq_true.1 h2 j (List.mem_range.2 (Array.getElem?_eq_some_iff.1 hjn).1)
      simpa [hjn, hr] using this
    exact wpOp_mono (fun a' w' h' => ⟨fun _ => h'.1, h'.2⟩) (hB j hjs).2.2
  | alt i p m ihp ihm =>
    refine ⟨fun L a w hc hp h hch => (by cases hch), fun L a w hc hp h j hj => ?_⟩
    simp only [Plan.ok, Bool.and_eq_true, Bool.not_eq_true', Bool.or_eq_true, beq_iff_eq] at hp
    obtain ⟨⟨⟨⟨h1, h2⟩, h3⟩, h4⟩, h5⟩ := hp
    cases hni : ns[i]? with
    | none => simp [hni] at h1
    | some n =>
      simp only [hni] at h1
      rcases List.mem_cons.1 hj with rfl | hj
      · exact ⟨⟨n, hni, h1⟩, by simp [Plan.sz], wpOp_mono (fun a' w' h' => ⟨h'.1, ihp.1 _ a' w' (closed_more hc hni h1) h3 h'.2 h2⟩) h.1⟩
      · have hB := ihm.2 L a w hc h5 h.2 j hj
        have hsz : m.sz = p.sz + 1 := by
          rcases h4 with h4 | h4
          · cases hs : m.set with
            | nil => rw [hs] at hj; cases hj
            | cons x l => rw [hs] at h4; cases h4
          · exact h4
        refine ⟨hB.1, by simp [Plan.sz], ?_⟩
        have := hB.2.2
        rw [hsz, Nat.add_sub_cancel] at this
        exact this
  | none => exact ⟨fun L a w hc hp h hch => (by cases hch), fun L a w hc hp h j hj => by cases hj⟩
/-- **THE RULE, with a tree.** -/
theorem any_T {a : Act} {w : World} (X : Nat → Prop) (ns : Array Note) (loads : Nat) (pl : Plan)
    (hn : notesOk .any ops ns = true) (hsel : Region.noSelect ops = true) (hlen : pl.sz = ops.size) (hch : pl.chain = false) (hp : pl.ok ns loads 0 = true)
    (hQ : ∀ c (a : Act) d v w, Q (.panic c) (a.put d v) w → Q (.panic c) a w) (h : wpT P ops Q X pl a w) : wpAny P .any ops Q ops.size (Array.replicate ops.size false) a w := by
  rw [← hlen]
  refine wpAny_of_F hn pl.sz _ 0 a _ (fun j hj => ?_) ((wpAnyF_of_T hn hsel hQ pl).1 0 a w (fun j n _ h0 => by simp at h0) hp h hch)
  rw [Array.getElem?_replicate]; simp [hlen, hj]
theorem wp_region_T {id : Nat} {a : Act} {w : World} (X : Nat → Prop) (ns : Array Note) (loads : Nat) (pl : Plan) (hm : P.follows .mixedOrders = true)
    (hn : notesOk .any ops ns = true) (hsel : Region.noSelect ops = true) (hlen : pl.sz = ops.size) (hch : pl.chain = false) (hp : pl.ok ns loads 0 = true)
    (hQ : ∀ c (a : Act) d v w, Q (.panic c) (a.put d v) w → Q (.panic c) a w) (h : wpT P ops Q X pl a w.drew) : (Code.region id ops true).wp P Q a w :=
  wp_region_any hm (any_T X ns loads pl hn hsel hlen hch hp hQ h)
theorem wp_region_TIn {l n id : Nat} {a : Act} {w : World} (X : Nat → Prop) (ns : Array Note) (loads : Nat) (pl : Plan) (hm : P.follows .mixedOrders = true)
    (hn : notesOk .any ops ns = true) (hsel : Region.noSelect ops = true) (hlen : pl.sz = ops.size) (hch : pl.chain = false) (hp : pl.ok ns loads 0 = true)
    (hQ : ∀ c (a : Act) d v w, Q (.panic c) (a.put d v) w → Q (.panic c) a w) (hd : noDefer ops = true) (hL : ¬ LetsOut Q) (h : wpT P ops Q X pl a w.drew) : (Code.region id ops true).wpIn (Fence.wide.inRound l) n P Q a w :=
  wpIn_region_any hm (wpAny_round hd hL _ _ _ _ (any_T X ns loads pl hn hsel hlen hch hp hQ h))
/-! ### the steps -/
/-- a list of steps ahead of a tree -/
def treeOf : List (Nat × Nat) → Plan → Plan
  | [], p => p
  | (i, k) :: l, p => .step i k (treeOf l p)
theorem T_calc {i : Nat} {r : Plan} {o : Oper} {v : Value} {a : Act} {w : World} (ho : ops[i]? = some o) (hw : Region.wanted o (yielded ops a.tmps) = true)
    (hy : ∀ u, (execOp a.eval o).run P u = .ok (.value v) u) (h : wpT P ops Q X r (a.put o.dst v) w) : wpT P ops Q X (.step i 0 r) a w := by
  unfold wpT stepP; rw [if_pos rfl]; exact ⟨o, v, ho, .inl ⟨hw, hy⟩, h⟩
theorem T_skip {i k : Nat} {r : Plan} {o : Oper} {a : Act} {w : World} (ho : ops[i]? = some o) (hw : Region.wanted o (yielded ops a.tmps) = false)
    (h : wpT P ops Q X r (a.put o.dst undef) w) : wpT P ops Q X (.step i k r) a w := by
  unfold wpT stepP
  split
  · exact ⟨o, undef, ho, .inr ⟨hw, rfl⟩, h⟩
  · split
    · exact ⟨o, undef, ho, .inr ⟨hw, rfl⟩, h⟩
    · split
      · unfold wpOp; simp only [ho, hw]; exact ⟨Chg.refl _ _, h⟩
      · unfold wpOp; simp only [ho, hw]; exact h
theorem T_load {i : Nat} {r : Plan} {o : Oper} {v : Value} {a : Act} {w : World} (ho : ops[i]? = some o) (hw : Region.wanted o (yielded ops a.tmps) = true)
    (hy : ∀ u, Chg X w u → (execOp a.eval o).run P u = .ok (.value v) u) (h : wpT P ops Q X r (a.put o.dst v) w) : wpT P ops Q X (.step i 1 r) a w := by
  unfold wpT stepP; rw [if_neg (by decide), if_pos rfl]; exact ⟨o, v, ho, .inl ⟨hw, hy⟩, h⟩
theorem T_load1 {i : Nat} {r : Plan} {o : Oper} {v : Value} {a : Act} {w : World} {t : TypeId} {x : Operand} {p : Addr} {d : TypeDesc} (ho : ops[i]? = some o) (hw : Region.wanted o (yielded ops a.tmps) = true)
    (hop : o.op = .load t x) (hx : a.eval x = .pointer (some p)) (hu : P.underlying t = some d) (hd : d.isRow = false) (hc : w.cell? p = some v) (hX : ¬ X p.block)
    (h : wpT P ops Q X r (a.put o.dst v) w) : wpT P ops Q X (.step i 1 r) a w :=
  T_load ho hw (fun u hc' => by simp [execOp, hop, hx, Sem.run_bind, run_load_one (P := P) hu hd (hc'.keep hc hX), Result.andThen]) h
theorem T_loads {i : Nat} {r : Plan} {o : Oper} (cs : List Value) {a : Act} {w : World} {t : TypeId} {x : Operand} {b off : Nat} {d : TypeDesc} (ho : ops[i]? = some o) (hw : Region.wanted o (yielded ops a.tmps) = true)
    (hop : o.op = .load t x) (hx : a.eval x = .pointer (some ⟨b, off, none⟩)) (hu : P.underlying t = some d) (hd : d.isRow = true) (hi : (P.info? t).map (·.size) = some cs.length) (hc : w.rangeAt b off cs) (hX : ¬ X b)
    (h : wpT P ops Q X r (a.put o.dst (.agg cs.toArray)) w) : wpT P ops Q X (.step i 1 r) a w :=
  T_load ho hw (fun u hc' => by simp [execOp, hop, hx, Sem.run_bind, run_load_agg (P := P) hu hd hi (range_chg hc hc' hX), Result.andThen]) h
theorem T_do {i : Nat} {r : Plan} {o : Oper} {a : Act} {w : World} (ho : ops[i]? = some o) (hw : Region.wanted o (yielded ops a.tmps) = true)
    (h : ∀ K : Act → World → Prop, Hid (∀ a' w', Chg X w w' → wpT P ops Q X r a' w' → K a' w') → o.wp P a w K Q) : wpT P ops Q X (.step i 2 r) a w := by
  unfold wpT stepP; rw [if_neg (by decide), if_neg (by decide), if_pos rfl]
  unfold wpOp; simp only [ho, hw, if_true]; exact .inl (h _ (fun _ _ h1 h2 => ⟨h1, h2⟩))
theorem T_last {i : Nat} {r : Plan} {o : Oper} {a : Act} {w : World} (ho : ops[i]? = some o) (hw : Region.wanted o (yielded ops a.tmps) = true)
    (h : ∀ K : Act → World → Prop, Hid (∀ a' w', wpT P ops Q X r a' w' → K a' w') → o.wp P a w K Q) : wpT P ops Q X (.step i 3 r) a w := by
  unfold wpT stepP; rw [if_neg (by decide), if_neg (by decide), if_neg (by decide)]
  unfold wpOp; simp only [ho, hw, if_true]; exact .inl (h _ (fun _ _ h => h))
theorem T_done {a : Act} {w : World} (h : Q .normal a w) : wpT P ops Q X .done a w := h
theorem T_fork {m : Plan} {a : Act} {w : World} (h : wpT P ops Q X m a w) : wpT P ops Q X (.fork m) a w := h
theorem T_none {a : Act} {w : World} : wpT P ops Q X .none a w := trivial
theorem T_alt {i : Nat} {p m : Plan} {o : Oper} {a : Act} {w : World} (ho : ops[i]? = some o) (hw : Region.wanted o (yielded ops a.tmps) = true)
    (h : ∀ K : Act → World → Prop, Hid (∀ a' w', Chg X w w' → wpT P ops Q X p a' w' → K a' w') → o.wp P a w K Q) (hm : wpT P ops Q X m a w) : wpT P ops Q X (.alt i p m) a w := by
  refine ⟨?_, hm⟩
  unfold wpOp; simp only [ho, hw, if_true]; exact .inl (h _ (fun _ _ h1 h2 => ⟨h1, h2⟩))
end
end Go.Proofs.YtcmjddkljmfklaaDoor
