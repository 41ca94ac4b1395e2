/- Texts joined: ProbeRight Table Probe Collect ProbeOrder SeqT TableSeek TabS TabGood TabSeek TabSpot TabDo Texts TabMore TableNew. No condition but those that stand within. -/
import Derived.Test.YtolhmibejhldkaaDoorProg
import Derived.Handy
import Derived.Lib.Hide
import Derived.Maps.AppendAt
import Derived.Test.YtolhmibejhldkaaDoorPkSwar
import Derived.Test.YtolhmibejhldkaaDoorPkMeter
import Derived.Test.YtolhmibejhldkaaDoorPkErrs
import Derived.Test.YtolhmibejhldkaaDoorPkGroup
set_option linter.unusedVariables false
set_option linter.unusedSimpArgs false
namespace Go.Proofs.YtolhmibejhldkaaDoor
open Go.RowKit Go.Proofs
set_option maxHeartbeats 400000 in
theorem right_any (n : Int) (w : World) :
    Calls Tryd.prog 56 #[.int .i64 n] w fun e w' => e = .returned (.bool (rightB n)) ∧ w = w' := by
  by_cases h1 : 1 ≤ n
  · by_cases h2 : n ≤ 64
    · go_enter Tryd.func56, Tryd.ntmps56
      go_wp2
      go_ret
      refine ⟨?_, rfl⟩
      show Ending.returned (.bool _) = _
      rw [rightB_bits n h1 h2]
    · have hr : rightB n = false := by
        rw [Bool.eq_false_iff, ne_eq, rightB_iff]; omega
      have hr' := Lib.hid hr
      clear hr
      go_enter Tryd.func56, Tryd.ntmps56
      go_wp2
      go_ret
      exact ⟨by rw [hr'.out]; rfl, rfl⟩
  · have hr : rightB n = false := by
      rw [Bool.eq_false_iff, ne_eq, rightB_iff]; omega
    have hr' := Lib.hid hr
    clear hr
    go_enter Tryd.func56, Tryd.ntmps56
    go_wp2
    go_ret
    exact ⟨by rw [hr'.out]; rfl, rfl⟩
end Go.Proofs.YtolhmibejhldkaaDoor

namespace Go.Proofs.YtolhmibejhldkaaDoor
open Go.RowKit Go.Proofs
attribute [local go_sem] neq_nilG
structure TW (w : World) (B Q n : Nat) (M : Nat → Nat) (S : Nat → Nat → EntS) (lv tb : Int) : Prop where
  head : Blk w B 102 #[.slice (some ⟨Q, 0, none⟩) n n, .int .i64 lv, .int .i64 tb]
  ne : B ≠ Q
  at' : ∀ i, i < n → GW w Q (i * 25) (M i) (S i)
  lt : Q < w.heap.size
theorem TW.below {k : Nat} {w w' : World} {B Q n : Nat} {M : Nat → Nat} {S : Nat → Nat → EntS} {lv tb : Int} (h : TW w B Q n M S lv tb) (hb : Below k w w') (hB : B < k) (hQ : Q < k) : TW w' B Q n M S lv tb :=
  ⟨h.head.below hb hB, h.ne, fun i hi => (h.at' i hi).below hb hQ, by
    have := hb.size
    exact Nat.lt_of_lt_of_le h.lt this⟩
theorem TW.later {w w' : World} {B Q n : Nat} {M : Nat → Nat} {S : Nat → Nat → EntS} {lv tb : Int} (h : TW w B Q n M S lv tb) (hb : Below w.heap.size w w') : TW w' B Q n M S lv tb := h.below hb h.head.lt h.lt
theorem TW.chg {X : Nat → Prop} {w w' : World} {B Q n : Nat} {M : Nat → Nat} {S : Nat → Nat → EntS} {lv tb : Int} (h : TW w B Q n M S lv tb) (hc : Chg X w w') (hB : ¬ X B) (hQ : ¬ X Q) : TW w' B Q n M S lv tb :=
  ⟨h.head.chg hc hB, h.ne, fun i hi => (h.at' i hi).chg hc hQ, Nat.lt_of_lt_of_le h.lt hc.size⟩
theorem TW.group {w w' : World} {B Q n i m : Nat} {s : Nat → EntS} {M : Nat → Nat} {S : Nat → Nat → EntS} {lv tb : Int} (h : TW w B Q n M S lv tb) (hg : GW w' Q (i * 25) m s) (hc : ChgG Q (i * 25) w w') :
    TW w' B Q n (fun j => if j = i then m else M j) (fun j => if j = i then s else S j) lv tb :=
  ⟨h.head.chg hc.chg h.ne, h.ne, fun j hj => by
    by_cases e : j = i
    · subst e; simp only [if_pos rfl]; exact hg
    · simp only [if_neg e]; exact (h.at' j hj).chgG hc (by omega), Nat.lt_of_lt_of_le h.lt hc.chg.size⟩
def LensAt (q : Option Addr) (lp : Option Nat) : Prop := (lp = none ∧ q = none) ∨ ∃ M, lp = some M ∧ q = some ⟨M, 0, none⟩
def LW (w : World) (lp : Option Nat) (mt : MeterS) : Prop := ∀ M, lp = some M → Blk w M 35 mt.cells
theorem LW.later {w w' : World} {lp : Option Nat} {mt : MeterS} (h : LW w lp mt) (hb : Below w.heap.size w w') : LW w' lp mt := fun M e => (h M e).below hb (h M e).lt
theorem LW.chg {X : Nat → Prop} {w w' : World} {lp : Option Nat} {mt : MeterS} (h : LW w lp mt) (hc : Chg X w w') (hX : ∀ M, lp = some M → ¬ X M) : LW w' lp mt := fun M e => (h M e).chg hc (hX M e)
theorem glook_any (G o : Nat) (q : Option Addr) (lp : Option Nat) (hq : LensAt q lp) (mt : MeterS) (x y z : Int) (w : World) (hL : LW w lp mt) :
    Calls Tryd.prog 81 #[.pointer (some ⟨G, o, none⟩), .agg #[.pointer q, .int .i64 x, .int .i64 y, .int .i64 z]] w fun e w' => e = .returned (.agg #[.pointer (some ⟨G, o, none⟩)]) ∧ LW w' lp (mt.add x y z) ∧ Chg (fun b => lp = some b) w w' := by
  rcases hq with ⟨rfl, rfl⟩ | ⟨M, rfl, rfl⟩
  · refine (glookN_any G o x y z w).mono ?_
    rintro e w' ⟨rfl, hb⟩
    exact ⟨rfl, fun M e => (by cases e), Chg.of_below hb⟩
  · refine (glookM_any G o M mt x y z w (hL M rfl)).mono ?_
    rintro e w' ⟨rfl, h1, h2⟩
    exact ⟨rfl, fun M' e => (by cases e; exact h1), h2.mono (fun i _ hi => by rw [hi])⟩
theorem infoG : (Tryd.prog.info? 145).map (fun i => (i.zero, i.size, i.bytes)) = some (some (.agg #[.int .u64 0, .int .u64 0, .int .u64 0, .int .u64 0, .int .u64 0, .int .u64 0, .int .u64 0, .int .u64 0, .int .u64 0, .int .u64 0, .int .u64 0, .int .u64 0, .int .u64 0, .int .u64 0, .int .u64 0, .int .u64 0, .int .u64 0, .int .u64 0, .int .u64 0, .int .u64 0, .int .u64 0, .int .u64 0, .int .u64 0, .int .u64 0, .int .u64 0]), 25, 200) := by kernel_rfl
end Go.Proofs.YtolhmibejhldkaaDoor

namespace Go.Proofs.YtolhmibejhldkaaDoor
open Go.RowKit Go.Proofs
attribute [local go_sem] Oper.semAt_some wide_depth round_depth wide_fn round_fn
end Go.Proofs.YtolhmibejhldkaaDoor

namespace Go.Proofs.YtolhmibejhldkaaDoor
open Go.RowKit Go.Proofs
attribute [local go_sem] Oper.semAt_some wide_depth round_depth wide_fn round_fn
end Go.Proofs.YtolhmibejhldkaaDoor

namespace Go.Proofs.YtolhmibejhldkaaDoor
open Go.RowKit Go.Proofs
attribute [local go_sem] Oper.semAt_some wide_depth round_depth wide_fn round_fn
end Go.Proofs.YtolhmibejhldkaaDoor

namespace Go.Proofs.YtolhmibejhldkaaDoor
open Go.RowKit
inductive Plan where
  | done
  | step (i k : Nat) (r : Plan)
  | fork (m : Plan)
  | alt (i : Nat) (p m : Plan)
  | none
def Plan.sz : Plan → Nat
  | .done => 0
  | .step _ _ r => r.sz + 1
  | .fork m => m.sz
  | .alt _ p _ => p.sz + 1
  | .none => 0
def Plan.chain : Plan → Bool
  | .alt _ _ _ => true
  | .none => true
  | _ => false
def Plan.set : Plan → List Nat
  | .alt i _ m => i :: m.set
  | _ => []
def stepOk (ns : Array Note) (loads i k L : Nat) : Bool :=
  match ns[i]? with
  | Option.none => false
  | some n => (n.kind == k) && (ready n L i && (n.kind != 1 || loads.testBit i) &&
      (if n.kind < 2 then (List.range ns.size).all fun j => j == i || L.testBit j || match ns[j]? with | some m => m.ahead.testBit i || apartN n m | Option.none => true
       else (List.range ns.size).all fun j => j == i || match ns[j]? with | some m => !ready m L j | Option.none => true) &&
      (n.kind < 3 || !flagged n loads i))
def Plan.ok (ns : Array Note) (loads : Nat) : Plan → Nat → Bool
  | .done, L => (List.range ns.size).all fun i => L.testBit i
  | .step i k r, L => stepOk ns loads i k L && !r.chain && r.ok ns loads (L ||| 2 ^ i)
  | .fork m, L => !m.set.isEmpty && ((List.range ns.size).all fun j => m.set.contains j || match ns[j]? with | some n => !ready n L j | Option.none => true) && m.ok ns loads L
  | .alt i p m, L => (match ns[i]? with | some n => ready n L i | Option.none => false) && !p.chain && p.ok ns loads (L ||| 2 ^ i) && (m.set.isEmpty || m.sz == p.sz + 1) && m.ok ns loads L
  | .none, _ => true
section
variable {P : Program} {ops : Array Oper} {Q : Exit → Act → World → Prop} {md : Region.Mode} {X : Nat → Prop} {ns : Array Note}
def stepP (P : Program) (ops : Array Oper) (Q : Exit → Act → World → Prop) (X : Nat → Prop) (R : Act → World → Prop) (i k : Nat) (a : Act) (w : World) : Prop :=
  if k = 0 then ∃ o v, ops[i]? = some o ∧ Yields P ops o v a ∧ R (a.put o.dst v) w
  else if k = 1 then ∃ o v, ops[i]? = some o ∧ YieldsIf P ops (Chg X w) o v a ∧ R (a.put o.dst v) w
  else if k = 2 then wpOp P ops Q i (fun a' w' => Chg X w w' ∧ R a' w') a w
  else wpOp P ops Q i R a w
def wpT (P : Program) (ops : Array Oper) (Q : Exit → Act → World → Prop) (X : Nat → Prop) : Plan → Act → World → Prop
  | .done, a, w => Q .normal a w
  | .step i k r, a, w => stepP P ops Q X (wpT P ops Q X r) i k a w
  | .fork m, a, w => wpT P ops Q X m a w
  | .alt i p m, a, w => wpOp P ops Q i (fun a' w' => Chg X w w' ∧ wpT P ops Q X p a' w') a w ∧ wpT P ops Q X m a w
  | .none, _, _ => True
theorem step_F {loads : Nat} (hn : notesOk md ops ns = true) (hsel : Region.noSelect ops = true) (hQ : ∀ c (a : Act) d v w, Q (.panic c) (a.put d v) w → Q (.panic c) a w) {i k L fuel : Nat} {a : Act} {w : World} {R : Act → World → Prop}
    (hc : closedL ns L) (hp : stepOk ns loads i k L = true) (H : ∀ a' w', R a' w' → wpAnyF P ops ns (fun j => match ns[j]? with | some n => flagged n loads j | Option.none => false) Q X fuel (L ||| 2 ^ i) a' w')
    (h : stepP P ops Q X R i k a w) : wpAnyF P ops ns (fun j => match ns[j]? with | some n => flagged n loads j | Option.none => false) Q X (fuel + 1) L a w := by
  obtain ⟨hsz, hah, hnote⟩ := notesOk_spec hn
  have hsel' := Region.noSelect_spec hsel
  unfold stepOk at hp
  cases hni : ns[i]? with
  | none => simp [hni] at hp
  | some n =>
    simp only [hni, Bool.and_eq_true, beq_iff_eq] at hp
    obtain ⟨hkn, ⟨⟨hr, hld⟩, hcase⟩, hfl⟩ := hp
    have hiL := (ready_iff.1 hr).1
    have hil : i < ns.size := (Array.getElem?_eq_some_iff.1 hni).1
    have hr' : ∀ m, ns[i]? = some m → ready m L i = true := fun m hm => by rw [hni] at hm; cases hm; exact hr
    have hfree : n.kind < 2 → ∀ (j : Nat) (m : Note) (oi oj : Oper), ns[j]? = some m → ops[i]? = some oi → ops[j]? = some oj → j ≠ i → L.testBit j = false → m.ahead.testBit i = false → oi.apart ops oj = true := by
      intro hlt j m oi oj hm hoi hoj hji hjL hja
      rw [if_pos hlt] at hcase
      have := List.all_eq_true.1 hcase j (List.mem_range.2 (Array.getElem?_eq_some_iff.1 hm).1)
      simp only [hm, hjL, hja, Bool.or_false, Bool.false_or, Bool.or_eq_true, beq_iff_eq, hji, false_or] at this
      obtain ⟨_, d1, d2, _⟩ := hnote i n oi hni hoi
      obtain ⟨_, e1, e2, _⟩ := hnote j m oj hm hoj
      exact apart_of d1 d2 e1 e2 this
    unfold stepP at h
    by_cases k0 : k = 0
    · rw [if_pos k0] at h
      obtain ⟨o, v, ho, hy, h⟩ := h
      exact wpAnyF_first (T := fun _ => True) hah hsz ho hsel' (fun c a w => hQ c a _ _ w) _ L a w hc hiL (fun j m oj hm hoj hji hjL hja => ⟨hfree (by omega) j m o oj hm ho hoj hji hjL hja, fun _ _ _ _ => trivial⟩) hr' (yieldsT hy) trivial
        (H _ _ h)
    · rw [if_neg k0] at h
      by_cases k1 : k = 1
      · rw [if_pos k1] at h
        obtain ⟨o, v, ho, hy, h⟩ := h
        have hlb : loads.testBit i = true := by
          rcases Bool.or_eq_true _ _ ▸ hld with h' | h'
          · rw [bne_iff_ne] at h'; exact absurd (hkn.trans k1) h'
          · exact h'
        refine wpAnyF_first (T := Chg X w) hah hsz ho hsel' (fun c a w => hQ c a _ _ w) _ L a w hc hiL (fun j m oj hm hoj hji hjL hja => ⟨hfree (by omega) j m o oj hm ho hoj hji hjL hja, fun u u' hf hT => hT.trans (hf ?_)⟩) hr' hy (Chg.refl _ _)
          (H _ _ h)
        simp only [hm, flagged, bne_iff_ne, ne_eq]
        intro e
        have := congrArg (·.testBit i) e
        simp [Nat.testBit_and, Nat.testBit_or, hlb, hja, Nat.testBit_two_pow, hji] at this
      · rw [if_neg k1] at h
        have ho : ∀ (j : Nat) (m : Note), ns[j]? = some m → j ≠ i → ready m L j = false := by
          intro j m hm hji
          by_cases h2 : n.kind < 2
          · exact absurd (by omega : k = 0 ∨ k = 1) (by omega)
          · rw [if_neg h2] at hcase
            have := List.all_eq_true.1 hcase j (List.mem_range.2 (Array.getElem?_eq_some_iff.1 hm).1)
            simpa [hm, hji] using this
        by_cases k2 : k = 2
        · rw [if_pos k2] at h
          exact wpAnyF_only hil hr' ho (wpOp_mono (fun a' w' h' => ⟨fun _ => h'.1, H _ _ h'.2⟩) h)
        · rw [if_neg k2] at h
          refine wpAnyF_only hil hr' ho (wpOp_mono (fun a' w' h' => ⟨fun hf => ?_, H _ _ h'⟩) h)
          have h3 : ¬ n.kind < 3 := by omega
          rw [hni] at hf
          simp only [h3, decide_false, Bool.false_or, Bool.not_eq_true'] at hfl
          simp only [hfl] at hf
          cases hf
theorem wpAnyF_of_T {loads : Nat} (hn : notesOk md ops ns = true) (hsel : Region.noSelect ops = true) (hQ : ∀ c (a : Act) d v w, Q (.panic c) (a.put d v) w → Q (.panic c) a w) : ∀ (p : Plan),
    (∀ (L : Nat) (a : Act) (w : World), closedL ns L → p.ok ns loads L = true → wpT P ops Q X p a w → p.chain = false → wpAnyF P ops ns (fun j => match ns[j]? with | some n => flagged n loads j | Option.none => false) Q X p.sz L a w) ∧
    (∀ (L : Nat) (a : Act) (w : World), closedL ns L → p.ok ns loads L = true → wpT P ops Q X p a w → ∀ j ∈ p.set, (∃ n, ns[j]? = some n ∧ ready n L j = true) ∧ 1 ≤ p.sz ∧
      wpOp P ops Q j (fun a' w' => Chg X w w' ∧ wpAnyF P ops ns (fun j => match ns[j]? with | some n => flagged n loads j | Option.none => false) Q X (p.sz - 1) (L ||| 2 ^ j) a' w') a w) := by
  intro p
  induction p with
  | done =>
    refine ⟨fun L a w hc hp h _ => ?_, fun L a w hc hp h j hj => by cases hj⟩
    simp only [Plan.ok, List.all_eq_true, List.mem_range] at hp
    refine ⟨fun j n hj => ?_, h⟩
    have := hp j (Array.getElem?_eq_some_iff.1 hj).1
    simp [ready, this]
  | step i k r ih =>
    refine ⟨fun L a w hc hp h _ => ?_, fun L a w hc hp h j hj => by cases hj⟩
    simp only [Plan.ok, Bool.and_eq_true, Bool.not_eq_true'] at hp
    obtain ⟨⟨h1, h2⟩, h3⟩ := hp
    refine step_F hn hsel hQ hc h1 (fun a' w' hR => ih.1 _ a' w' ?_ h3 hR h2) h
    unfold stepOk at h1
    cases hni : ns[i]? with
    | none => simp [hni] at h1
    | some n =>
      simp only [hni, Bool.and_eq_true] at h1
      exact closed_more hc hni h1.2.1.1.1
  | fork m ih =>
    refine ⟨fun L a w hc hp h _ => ?_, fun L a w hc hp h j hj => by cases hj⟩
    simp only [Plan.ok, Bool.and_eq_true, Bool.not_eq_true'] at hp
    obtain ⟨⟨h1, h2⟩, h3⟩ := hp
    have hB := ih.2 L a w hc h3 h
    obtain ⟨j0, hj0⟩ : ∃ j, j ∈ m.set := by
      cases hs : m.set with
      | nil => rw [hs] at h1; cases h1
      | cons j l => exact ⟨j, by simp⟩
    obtain ⟨⟨n0, hn0, hr0⟩, hs1, -⟩ := hB j0 hj0
    obtain ⟨f, hf⟩ : ∃ f, m.sz = f + 1 := ⟨m.sz - 1, by omega⟩
    rw [show (Plan.fork m).sz = m.sz from rfl, hf]
    rw [hf, Nat.add_sub_cancel] at hB
    refine ⟨fun hnone => absurd (hnone j0 n0 hn0) (by rw [hr0]; simp), fun j n hjn hr => ?_⟩
    have hjs : j ∈ m.set := by
      have := List.all_eq_true.1 h2 j (List.mem_range.2 (Array.getElem?_eq_some_iff.1 hjn).1)
      simpa [hjn, hr] using this
    exact wpOp_mono (fun a' w' h' => ⟨fun _ => h'.1, h'.2⟩) (hB j hjs).2.2
  | alt i p m ihp ihm =>
    refine ⟨fun L a w hc hp h hch => (by cases hch), fun L a w hc hp h j hj => ?_⟩
    simp only [Plan.ok, Bool.and_eq_true, Bool.not_eq_true', Bool.or_eq_true, beq_iff_eq] at hp
    obtain ⟨⟨⟨⟨h1, h2⟩, h3⟩, h4⟩, h5⟩ := hp
    cases hni : ns[i]? with
    | none => simp [hni] at h1
    | some n =>
      simp only [hni] at h1
      rcases List.mem_cons.1 hj with rfl | hj
      · exact ⟨⟨n, hni, h1⟩, by simp [Plan.sz], wpOp_mono (fun a' w' h' => ⟨h'.1, ihp.1 _ a' w' (closed_more hc hni h1) h3 h'.2 h2⟩) h.1⟩
      · have hB := ihm.2 L a w hc h5 h.2 j hj
        have hsz : m.sz = p.sz + 1 := by
          rcases h4 with h4 | h4
          · cases hs : m.set with
            | nil => rw [hs] at hj; cases hj
            | cons x l => rw [hs] at h4; cases h4
          · exact h4
        refine ⟨hB.1, by simp [Plan.sz], ?_⟩
        have := hB.2.2
        rw [hsz, Nat.add_sub_cancel] at this
        exact this
  | none => exact ⟨fun L a w hc hp h hch => (by cases hch), fun L a w hc hp h j hj => by cases hj⟩
theorem any_T {a : Act} {w : World} (X : Nat → Prop) (ns : Array Note) (loads : Nat) (pl : Plan)
    (hn : notesOk .any ops ns = true) (hsel : Region.noSelect ops = true) (hlen : pl.sz = ops.size) (hch : pl.chain = false) (hp : pl.ok ns loads 0 = true)
    (hQ : ∀ c (a : Act) d v w, Q (.panic c) (a.put d v) w → Q (.panic c) a w) (h : wpT P ops Q X pl a w) : wpAny P .any ops Q ops.size (Array.replicate ops.size false) a w := by
  rw [← hlen]
  refine wpAny_of_F hn pl.sz _ 0 a _ (fun j hj => ?_) ((wpAnyF_of_T hn hsel hQ pl).1 0 a w (fun j n _ h0 => by simp at h0) hp h hch)
  rw [Array.getElem?_replicate]; simp [hlen, hj]
theorem wp_region_T {id : Nat} {a : Act} {w : World} (X : Nat → Prop) (ns : Array Note) (loads : Nat) (pl : Plan) (hm : P.follows .mixedOrders = true)
    (hn : notesOk .any ops ns = true) (hsel : Region.noSelect ops = true) (hlen : pl.sz = ops.size) (hch : pl.chain = false) (hp : pl.ok ns loads 0 = true)
    (hQ : ∀ c (a : Act) d v w, Q (.panic c) (a.put d v) w → Q (.panic c) a w) (h : wpT P ops Q X pl a w.drew) : (Code.region id ops true).wp P Q a w :=
  wp_region_any hm (any_T X ns loads pl hn hsel hlen hch hp hQ h)
theorem T_calc {i : Nat} {r : Plan} {o : Oper} {v : Value} {a : Act} {w : World} (ho : ops[i]? = some o) (hw : Region.wanted o (yielded ops a.tmps) = true)
    (hy : ∀ u, (execOp a.eval o).run P u = .ok (.value v) u) (h : wpT P ops Q X r (a.put o.dst v) w) : wpT P ops Q X (.step i 0 r) a w := by
  unfold wpT stepP; rw [if_pos rfl]; exact ⟨o, v, ho, .inl ⟨hw, hy⟩, h⟩
theorem T_load {i : Nat} {r : Plan} {o : Oper} {v : Value} {a : Act} {w : World} (ho : ops[i]? = some o) (hw : Region.wanted o (yielded ops a.tmps) = true)
    (hy : ∀ u, Chg X w u → (execOp a.eval o).run P u = .ok (.value v) u) (h : wpT P ops Q X r (a.put o.dst v) w) : wpT P ops Q X (.step i 1 r) a w := by
  unfold wpT stepP; rw [if_neg (by decide), if_pos rfl]; exact ⟨o, v, ho, .inl ⟨hw, hy⟩, h⟩
theorem T_load1 {i : Nat} {r : Plan} {o : Oper} {v : Value} {a : Act} {w : World} {t : TypeId} {x : Operand} {p : Addr} {d : TypeDesc} (ho : ops[i]? = some o) (hw : Region.wanted o (yielded ops a.tmps) = true)
    (hop : o.op = .load t x) (hx : a.eval x = .pointer (some p)) (hu : P.underlying t = some d) (hd : d.isRow = false) (hc : w.cell? p = some v) (hX : ¬ X p.block)
    (h : wpT P ops Q X r (a.put o.dst v) w) : wpT P ops Q X (.step i 1 r) a w :=
  T_load ho hw (fun u hc' => by simp [execOp, hop, hx, Sem.run_bind, run_load_one (P := P) hu hd (hc'.keep hc hX), Result.andThen]) h
theorem T_do {i : Nat} {r : Plan} {o : Oper} {a : Act} {w : World} (ho : ops[i]? = some o) (hw : Region.wanted o (yielded ops a.tmps) = true)
    (h : ∀ K : Act → World → Prop, Hid (∀ a' w', Chg X w w' → wpT P ops Q X r a' w' → K a' w') → o.wp P a w K Q) : wpT P ops Q X (.step i 2 r) a w := by
  unfold wpT stepP; rw [if_neg (by decide), if_neg (by decide), if_pos rfl]
  unfold wpOp; simp only [ho, hw, if_true]; exact .inl (h _ (fun _ _ h1 h2 => ⟨h1, h2⟩))
theorem T_last {i : Nat} {r : Plan} {o : Oper} {a : Act} {w : World} (ho : ops[i]? = some o) (hw : Region.wanted o (yielded ops a.tmps) = true)
    (h : ∀ K : Act → World → Prop, Hid (∀ a' w', wpT P ops Q X r a' w' → K a' w') → o.wp P a w K Q) : wpT P ops Q X (.step i 3 r) a w := by
  unfold wpT stepP; rw [if_neg (by decide), if_neg (by decide), if_neg (by decide)]
  unfold wpOp; simp only [ho, hw, if_true]; exact .inl (h _ (fun _ _ h => h))
theorem T_done {a : Act} {w : World} (h : Q .normal a w) : wpT P ops Q X .done a w := h
theorem T_fork {m : Plan} {a : Act} {w : World} (h : wpT P ops Q X m a w) : wpT P ops Q X (.fork m) a w := h
theorem T_none {a : Act} {w : World} : wpT P ops Q X .none a w := trivial
theorem T_alt {i : Nat} {p m : Plan} {o : Oper} {a : Act} {w : World} (ho : ops[i]? = some o) (hw : Region.wanted o (yielded ops a.tmps) = true)
    (h : ∀ K : Act → World → Prop, Hid (∀ a' w', Chg X w w' → wpT P ops Q X p a' w' → K a' w') → o.wp P a w K Q) (hm : wpT P ops Q X m a w) : wpT P ops Q X (.alt i p m) a w := by
  refine ⟨?_, hm⟩
  unfold wpOp; simp only [ho, hw, if_true]; exact .inl (h _ (fun _ _ h1 h2 => ⟨h1, h2⟩))
end
end Go.Proofs.YtolhmibejhldkaaDoor
namespace Go.Proofs.YtolhmibejhldkaaDoor
open Go.RowKit Go.Proofs
section
variable {P : Program} {ops : Array Oper} {Q : Exit → Act → World → Prop} {X : Nat → Prop} {i : Nat} {r : Plan} {o : Oper} {a : Act} {w : World}
theorem ztP {a' : Act} (h : wpT P ops Q X r a' w) (e : a = a' := by first | (simp only [Act.put, List.setIfInBounds_toArray, List.set_cons_zero, List.set_cons_succ]; rfl) | rfl) : wpT P ops Q X r a w := e ▸ h
theorem ztC {v : Value} {a' : Act} (h : wpT P ops Q X r a' w) (ho : ops[i]? = some o := by simp only [List.getElem?_toArray, List.getElem?_cons_succ, List.getElem?_cons_zero]; rfl) (hw : Region.wanted o (yielded ops a.tmps) = true := by rfl)
  (hy : ∀ u, (execOp a.eval o).run P u = .ok (.value v) u := by intro u; go_simp <;> with_reducible rfl) (e : a.put o.dst v = a' := by first | (simp only [Act.put, List.setIfInBounds_toArray, List.set_cons_zero, List.set_cons_succ]; rfl) | rfl) : wpT P ops Q X (.step i 0 r) a w := T_calc ho hw hy (e ▸ h)
theorem zt1 {v : Value} {t : TypeId} {x : Operand} {p : Addr} {d : TypeDesc} (hu : P.underlying t = some d) (h : wpT P ops Q X r (a.put o.dst v) w) (ho : ops[i]? = some o := by simp only [List.getElem?_toArray, List.getElem?_cons_succ, List.getElem?_cons_zero]; rfl) (hw : Region.wanted o (yielded ops a.tmps) = true := by rfl)
  (hop : o.op = .load t x := by rfl) (hx : a.eval x = .pointer (some p) := by rfl) (hd : d.isRow = false := by rfl) (hc : w.cell? p = some v := by go_simp <;> with_reducible rfl) (hX : ¬ X p.block := by first | exact id | assumption | (simp; done) | (simp; omega)) : wpT P ops Q X (.step i 1 r) a w := T_load1 ho hw hop hx hu hd hc hX h
theorem ztD (h : ∀ K : Act → World → Prop, Hid (∀ a' w', Chg X w w' → wpT P ops Q X r a' w' → K a' w') → o.wp P a w K Q) (ho : ops[i]? = some o := by simp only [List.getElem?_toArray, List.getElem?_cons_succ, List.getElem?_cons_zero]; rfl) (hw : Region.wanted o (yielded ops a.tmps) = true := by rfl) : wpT P ops Q X (.step i 2 r) a w := T_do ho hw h
theorem ztE (h : ∀ K : Act → World → Prop, Hid (∀ a' w', wpT P ops Q X r a' w' → K a' w') → o.wp P a w K Q) (ho : ops[i]? = some o := by simp only [List.getElem?_toArray, List.getElem?_cons_succ, List.getElem?_cons_zero]; rfl) (hw : Region.wanted o (yielded ops a.tmps) = true := by rfl) : wpT P ops Q X (.step i 3 r) a w := T_last ho hw h
end
end Go.Proofs.YtolhmibejhldkaaDoor
namespace Go.Proofs.YtolhmibejhldkaaDoor
open Go.RowKit
section
variable {P : Program} {ops : Array Oper} {Q : Exit → Act → World → Prop} {X : Nat → Prop}
theorem zt2 {i j : Nat} {p q : Plan} {o o2 : Oper} {a : Act} {w : World} (h : ∀ K : Act → World → Prop, Hid (∀ a' w', Chg X w w' → wpT P ops Q X p a' w' → K a' w') → o.wp P a w K Q) (h2 : ∀ K : Act → World → Prop, Hid (∀ a' w', Chg X w w' → wpT P ops Q X q a' w' → K a' w') → o2.wp P a w K Q) (ho : ops[i]? = some o := by simp only [List.getElem?_toArray, List.getElem?_cons_succ, List.getElem?_cons_zero]; rfl) (hw : Region.wanted o (yielded ops a.tmps) = true := by rfl) (ho2 : ops[j]? = some o2 := by simp only [List.getElem?_toArray, List.getElem?_cons_succ, List.getElem?_cons_zero]; rfl) (hw2 : Region.wanted o2 (yielded ops a.tmps) = true := by rfl) : wpT P ops Q X (.fork (.alt i p (.alt j q .none))) a w := T_fork (T_alt ho hw h (T_alt ho2 hw2 h2 T_none))
end
end Go.Proofs.YtolhmibejhldkaaDoor

namespace Go.Proofs.YtolhmibejhldkaaDoor
open Go.RowKit Go.Proofs
attribute [local go_sem] Oper.semAt_some wide_depth round_depth wide_fn round_fn
def FreeAt (Q : Nat) (M : Nat → Nat) (wk : Nat → Nat) (p : Nat) (fp : Option Addr) (fz : Int) : Prop :=
  (fz = -1 ∧ ∀ j, j < p → freeZ (M (wk j)) = -1) ∨ ∃ j, j < p ∧ fp = some ⟨Q, wk j * 25, none⟩ ∧ fz = freeZ (M (wk j)) ∧ 0 ≤ fz ∧ ∀ j', j' < j → freeZ (M (wk j')) = -1
def MissAt (M : Nat → Nat) (S : Nat → Nat → EntS) (key : Int) (h : Nat) (wk : Nat → Nat) (p : Nat) : Prop :=
  ∀ j, j < p → findZ (S (wk j)) key (lanesL (equalB (M (wk j)) (h % 128))) = -1 ∧ openB (M (wk j)) = false
theorem free_ge (m : Nat) : freeZ m = -1 ∨ 0 ≤ freeZ m := by
  unfold freeZ; split
  · exact .inl rfl
  · exact .inr (by omega)
theorem FreeAt.step {Q : Nat} {M : Nat → Nat} {wk : Nat → Nat} {p : Nat} {fp : Option Addr} (h : FreeAt Q M wk p fp (-1)) : FreeAt Q M wk (p + 1) (some ⟨Q, wk p * 25, none⟩) (freeZ (M (wk p))) := by
  rcases h with ⟨-, h⟩ | ⟨j, -, -, -, h, -⟩
  · rcases free_ge (M (wk p)) with e | e
    · exact .inl ⟨e, fun j hj => by
        by_cases c : j = p
        · subst c; exact e
        · exact h j (by omega)⟩
    · exact .inr ⟨p, by omega, rfl, rfl, e, h⟩
  · omega
theorem MissAt.step {M : Nat → Nat} {S : Nat → Nat → EntS} {key : Int} {h i x : Nat} {wk : Nat → Nat} (hM : MissAt M S key h wk i) (hx : x = wk i) (ef : findZ (S x) key (lanesL (equalB (M x) (h % 128))) = -1) (eo : openB (M x) = false) : MissAt M S key h wk (i + 1) := fun j hj => by
  by_cases e : j = i
  · subst e; rw [← hx]; exact ⟨ef, eo⟩
  · exact hM j (by omega)
end Go.Proofs.YtolhmibejhldkaaDoor

namespace Go.Proofs.YtolhmibejhldkaaDoor
open Go.RowKit Go.Proofs
structure TabS where
  n : Nat
  M : Nat → Nat
  S : Nat → Nat → EntS
  lv : Int
  tb : Int
def upd {α : Type} (f : Nat → α) (i : Nat) (x : α) : Nat → α := fun j => if j = i then x else f j
def lookN (f : Nat → Bool) : Nat → Nat → Nat
  | 0, i => i
  | k + 1, i => if f i then i + 1 else lookN f k (i + 1)
def TabS.hit (T : TabS) (key : Int) (h g : Nat) : Int := findZ (T.S g) key (lanesL (equalB (T.M g) (h % 128)))
def TabS.stop (T : TabS) (key : Int) (h g : Nat) : Bool := decide (0 ≤ T.hit key h g) || openB (T.M g)
def TabS.wk (T : TabS) (h j : Nat) : Nat := walkAt (h / 128) T.n j
def TabS.looks (T : TabS) (key : Int) (h : Nat) : Nat := lookN (fun j => T.stop key h (T.wk h j)) T.n 0
def TabS.lastG (T : TabS) (key : Int) (h : Nat) : Nat := T.wk h (T.looks key h - 1)
def TabS.atZ (T : TabS) (key : Int) (h : Nat) : Int := T.hit key h (T.lastG key h)
def TabS.has (T : TabS) (key : Int) (h : Nat) : Bool := decide (0 ≤ T.atZ key h)
def TabS.left (T : TabS) : Int := 7 * (T.n : Int) - T.lv - T.tb
def sumN (f : Nat → Nat) : Nat → Nat
  | 0 => 0
  | n + 1 => sumN f n + f n
theorem sumN_le {f : Nat → Nat} {c : Nat} : ∀ {n : Nat}, (∀ i, i < n → f i ≤ c) → sumN f n ≤ c * n
  | 0, _ => Nat.le_refl _
  | n + 1, h => by unfold sumN; have := sumN_le (n := n) fun i hi => h i (by omega); have := h n (by omega); rw [Nat.mul_succ]; omega
theorem sumN_zero {f : Nat → Nat} : ∀ {n : Nat}, (∀ i, i < n → f i = 0) → sumN f n = 0
  | 0, _ => rfl
  | n + 1, h => by unfold sumN; rw [sumN_zero fun i hi => h i (by omega), h n (by omega)]
def TabS.cnt (T : TabS) (k : Nat) : Nat := sumN (fun i => countK (T.M i) k) T.n
structure TGood (T : TabS) : Prop where
  right : rightB (T.n : Int) = true
  good : ∀ i, i < T.n → GGood (T.M i) (T.S i)
  lv : T.lv = (T.cnt 3 : Int)
  tb : T.tb = (T.cnt 2 : Int)
end Go.Proofs.YtolhmibejhldkaaDoor

namespace Go.Proofs.YtolhmibejhldkaaDoor
open Go.RowKit Go.Proofs
theorem TGood.bounds {T : TabS} (h : TGood T) : T.n ≤ 64 ∧ 1 ≤ T.n ∧ 0 ≤ T.lv ∧ T.lv ≤ 512 ∧ 0 ≤ T.tb ∧ T.tb ≤ 512 := by
  have hn := right_bd h.right
  have h3 : T.cnt 3 ≤ 8 * T.n := sumN_le fun i _ => countK_le _ _
  have h2 : T.cnt 2 ≤ 8 * T.n := sumN_le fun i _ => countK_le _ _
  have := h.lv
  have := h.tb
  omega
theorem TGood.at' {T : TabS} (hT : TGood T) {key : Int} {h : Nat} (hh : T.has key h = true) :
    ∃ k : Nat, T.atZ key h = (k : Int) ∧ k < 8 ∧ T.lastG key h < T.n ∧ fullE (T.M (T.lastG key h)) (k : Int) true = 0 ∧ (T.S (T.lastG key h) k).key = key ∧ ln (T.M (T.lastG key h)) k = h % 128 := by
  have hb := hT.bounds
  have h0 : 0 ≤ T.atZ key h := by unfold TabS.has at hh; simpa using hh
  have hg : T.lastG key h < T.n := walkAt_lt _ _ _ (by omega)
  rcases find_cases (T.S (T.lastG key h)) key (equalB (T.M (T.lastG key h)) (h % 128)) with ⟨h1, -⟩ | ⟨k, h1, h2, h3, h4, -⟩
  · unfold TabS.atZ TabS.hit at h0; omega
  · refine ⟨k, h1, h2, hg, ?_, h4, ?_⟩
    · rw [fullE_in _ k true h2, if_pos]
      have : ln (T.M (T.lastG key h)) k = h % 128 := by unfold equalB at h3; simpa using h3
      simp; omega
    · unfold equalB at h3; simpa using h3
def TabS.new (n : Nat) : TabS := ⟨n, fun _ => rep 128, fun _ _ => EntS.zero, 0, 0⟩
theorem TGood.new {n : Nat} (h : rightB (n : Int) = true) : TGood (TabS.new n) :=
  ⟨h, fun i hi => GGood.new, by
    show (0 : Int) = ((sumN (fun _ => countK (rep 128) 3) n : Nat) : Int)
    rw [sumN_zero fun i _ => by decide]; rfl, by
    show (0 : Int) = ((sumN (fun _ => countK (rep 128) 2) n : Nat) : Int)
    rw [sumN_zero fun i _ => by decide]; rfl⟩
end Go.Proofs.YtolhmibejhldkaaDoor

namespace Go.Proofs.YtolhmibejhldkaaDoor
open Go.RowKit Go.Proofs
def TS (w : World) (B Q : Nat) (T : TabS) : Prop := TW w B Q T.n T.M T.S T.lv T.tb
theorem TS.later {w w' : World} {B Q : Nat} {T : TabS} (h : TS w B Q T) (hb : Below w.heap.size w w') : TS w' B Q T := TW.later h hb
theorem TS.chg {X : Nat → Prop} {w w' : World} {B Q : Nat} {T : TabS} (h : TS w B Q T) (hc : Chg X w w') (hB : ¬ X B) (hQ : ¬ X Q) : TS w' B Q T := TW.chg h hc hB hQ
end Go.Proofs.YtolhmibejhldkaaDoor

namespace Go.Proofs.YtolhmibejhldkaaDoor
open Go.RowKit Go.Proofs
attribute [local go_sem] neq_nilG
theorem TW.drew {w : World} {B Q n : Nat} {M : Nat → Nat} {S : Nat → Nat → EntS} {lv tb : Int} (h : TW w B Q n M S lv tb) : TW w.drew B Q n M S lv tb := h.below (Below.refl w.heap.size w).drew h.head.lt h.lt
theorem TW.alloc {w : World} {B Q n : Nat} {M : Nat → Nat} {S : Nat → Nat → EntS} {lv tb : Int} (h : TW w B Q n M S lv tb) (o : Obj) : TW (w.alloc o) B Q n M S lv tb := h.later ((Below.refl _ _).alloc (Nat.le_refl _) o)
end Go.Proofs.YtolhmibejhldkaaDoor

namespace Go.Proofs.YtolhmibejhldkaaDoor
open Go.RowKit Go.Proofs
attribute [local go_sem] neq_nilG eql_nilG
def LensOk (lp : Option Nat) (B Q n : Nat) : Prop := ∀ b, lp = some b → b ≠ B ∧ b ≠ Q ∧ n ≤ b
theorem LensOk.none (B Q n : Nat) : LensOk none B Q n := fun b e => by cases e
end Go.Proofs.YtolhmibejhldkaaDoor

namespace Go.Proofs.YtolhmibejhldkaaDoor
open Go.RowKit Go.Proofs
def ReadsTexts (w : World) (v : Value) (l : List ByteArray) : Prop :=
  ∃ a cap, v = .slice a l.length cap ∧ (l ≠ [] → ∃ b off, a = some ⟨b, off, none⟩ ∧ b < w.heap.size ∧ ∀ i (h : i < l.length), w.cell? ⟨b, off + i, none⟩ = some (.string l[i]))
theorem readsTexts_own {w : World} {base n : Nat} {e : TypeId} {v : Value} {l : List ByteArray} (h : w.ownsRow base e 1 v n (l.map Value.string)) : ReadsTexts w v l := by
  have hl : l.length = n := by have := h.1; simpa using this
  rcases h.2 with ⟨rfl, h0⟩ | ⟨g, cap, cur, rfl, hb, hg, h1, h2, h3, h4⟩
  · subst h0
    obtain rfl : l = [] := by simpa using hl
    exact ⟨none, 0, rfl, fun h => absurd rfl h⟩
  · subst hl
    refine ⟨_, cap, rfl, fun _ => ⟨g, 0, rfl, (Array.getElem?_eq_some_iff.1 hg).1, fun i hi => ?_⟩⟩
    have := h.cells (g := g) rfl i (Value.string l[i]) (by simp [hi])
    simp only [Addr.add] at this
    rw [Nat.zero_add]
    split at this
    · subst i; exact this
    · rw [Nat.zero_add] at this; exact this
theorem ReadsTexts.later {w w' : World} {v : Value} {l : List ByteArray} (h : ReadsTexts w v l) (hb : Below w.heap.size w w') : ReadsTexts w' v l := by
  obtain ⟨a, cap, rfl, hx⟩ := h
  refine ⟨a, cap, rfl, fun hne => ?_⟩
  obtain ⟨b, off, rfl, hz, hc⟩ := hx hne
  exact ⟨b, off, rfl, Nat.lt_of_lt_of_le hz hb.size, fun i hi => (hb.cell (p := ⟨b, off + i, none⟩) hz).trans (hc i hi)⟩
theorem ReadsTexts.chg {X : Nat → Prop} {w w' : World} {base n : Nat} {e : TypeId} {v : Value} {l : List ByteArray} (h : w.ownsRow base e 1 v n (l.map Value.string)) (hc : Chg X w w') (hX : ∀ b, base ≤ b → ¬ X b) : ReadsTexts w' v l :=
  readsTexts_own (ownsRow_chg h hc hX)
end Go.Proofs.YtolhmibejhldkaaDoor

namespace Go.Proofs.YtolhmibejhldkaaDoor
open Go.RowKit Go.Proofs
attribute [local go_sem] neq_nilG eql_nilG
def TabS.clr (T : TabS) (i : Nat) : TabS := { T with M := upd T.M i (rep 128), S := upd T.S i (fun _ => EntS.zero) }
set_option maxRecDepth 100000 in
set_option maxHeartbeats 2000000 in
theorem tlook_ok (B Q : Nat) (T : TabS) (hn : T.n ≤ 64) (i : Nat) (hi : i < T.n) (q : Option Addr) (lp : Option Nat) (hq : LensAt q lp) (mt : MeterS) (x1 y1 z1 : Int) (w : World) (hW : TS w B Q T) (hL : LW w lp mt) (hlp : ∀ b, lp = some b → b < w.heap.size ∧ b ≠ B) :
    Calls Tryd.prog 77 #[.pointer (some ⟨B, 0, none⟩), .agg #[.pointer q, .int .i64 x1, .int .i64 y1, .int .i64 z1], .int .i64 (i : Int)] w fun e w' =>
      e = .returned (.tuple #[.agg #[.pointer (some ⟨Q, i * 25, none⟩)], .bool true]) ∧ LW w' lp (mt.add x1 y1 z1) ∧ Chg (fun b => lp = some b) w w' := by
  have HW := Lib.hid hW
  have HL := Lib.hid hL
  have c0 := hW.head.cell 0
  have hlB := hW.head.lt
  have NL : ∀ b, w.heap.size ≤ b → ¬ lp = some b := fun b hb e => by have := (hlp b e).1; omega
  have nB : ¬ lp = some B := fun e => (hlp B e).2 rfl
  have d0 : decide ((i : Int) < 0) = false := by simp
  have dn : decide ((i : Int) ≥ (T.n : Int)) = false := by simp; omega
  have hiI : (i : Int) < (T.n : Int) := by omega
  have LK := Lib.hid (fun (w' : World) (hb : Below w.heap.size w w') => glook_any Q (i * 25) q lp hq mt x1 y1 z1 w' (hL.later hb))
  have m0 : ¬ lp = some w.heap.size := NL _ (Nat.le_refl _)
  have m1 : ¬ lp = some (w.heap.size + 1) := NL _ (by omega)
  clear hW hL hlp
  go_enter Tryd.func77, Tryd.ntmps77
  go_wp2
  refine wp_region_seq (fun b => lp = some b) #[⟨0, 0, 1048576, 1, 0⟩, ⟨1, 1, 2097152, 1048576, 0⟩, ⟨2, 3, 4194304, 2097152, 0⟩, ⟨4, 7, 8388608, 4194304, 1⟩, ⟨0, 0, 16777216, 4, 0⟩, ⟨24, 31, 33554432, 25165824, 0⟩, ⟨0, 0, 67108864, 16, 1⟩, ⟨96, 127, 134217728, 100663296, 3⟩, ⟨255, 255, 0, 134217792, 3⟩, ⟨511, 511, 128, 0, 0⟩] 72 [(0, 0), (1, 0), (2, 0), (3, 1), (4, 0), (5, 0), (6, 1), (7, 3), (8, 3), (9, 0)] (by kernel_rfl) (by kernel_rfl) (by kernel_rfl) (by kernel_rfl) (by kernel_rfl) (by kernel_rfl) (fun c a d v w h => by cases d <;> exact h) ?_
  refine zqC ?_; refine zqC ?_; refine zqC ?_
  refine zq1 Tryd.underlying100 ?_
  try refine zqP ?_; refine zqC ?_; refine zqC ?_
  refine zqL [_, _, _, _] Tryd.underlying130 ?_
  try refine zqP ?_
  refine zqE fun K hK => ?_; go_wp2_with (go_at_call 81; refine (LK.out _ (by go_grown)).mono ?_; rintro e w1 ⟨rfl, hl1, hc1⟩; have HL1 := Lib.hid hl1; have HC1 := Lib.hid ((Chg.of_below (show Below w.heap.size w _ by go_grown)).trans hc1); have hz1 := hc1.size; have B6 : Blk w1 (w.heap.size + 1) 134 #[.pointer none] := Blk.chg (Blk.drew (Blk.new_at (by simp))) hc1 m1; have b6 := B6.cell 0; have bf6 := fun j => B6.frozen j; have hz6 := B6.lt; clear hl1); refine hK.out _ _ ?_; clear hK K
  try refine zqP ?_
  refine zqE fun K hK => ?_; go_wp2_with (fail); refine hK.out _ _ ?_; clear hK K
  try refine zqP ?_; refine zqC ?_
  refine seq_nil ?_
  go_wp2
  have r0 := (B6.set 0 (.pointer (some ⟨Q, i * 25, none⟩))).cell 0
  refine bodyPost_ret (v := .tuple #[.agg #[.pointer (some ⟨Q, i * 25, none⟩)], .bool true]) (by simp [results, Tryd.results77, go_sem, r0]) rfl ⟨rfl, ?_, ?_⟩
  · exact HL1.out.chg (X := fun b => b = w.heap.size + 1) ((Chg.refl _ _).set1 _ _) (fun b e e2 => NL b (by omega) e)
  · exact HC1.out.setCell (.inr (by simp)) _
set_option maxRecDepth 100000 in
set_option maxHeartbeats 2000000 in
theorem tprepare_ok (B Q : Nat) (T : TabS) (hn : T.n ≤ 64) (i : Nat) (hi : i < T.n) (q : Option Addr) (lp : Option Nat) (hq : LensAt q lp) (mt : MeterS) (x1 y1 z1 : Int) (w : World) (hW : TS w B Q T) (hL : LW w lp mt) (hlp : ∀ b, lp = some b → b < w.heap.size ∧ b ≠ B ∧ b ≠ Q) :
    Calls Tryd.prog 74 #[.pointer (some ⟨B, 0, none⟩), .agg #[.pointer q, .int .i64 x1, .int .i64 y1, .int .i64 z1], .int .i64 (i : Int)] w fun e w' =>
      e = .returned .nilIface ∧ TS w' B Q (T.clr i) ∧ LW w' lp (mt.add x1 y1 z1) ∧ Chg (fun b => lp = some b ∨ b = Q) w w' := by
  have HW := Lib.hid hW
  have NL : ∀ b, w.heap.size ≤ b → ¬ lp = some b := fun b hb e => by have := (hlp b e).1; omega
  have nB : ¬ lp = some B := fun e => (hlp B e).2.1 rfl
  have nQ : ¬ lp = some Q := fun e => (hlp Q e).2.2 rfl
  have nLQ : ∀ b, lp = some b → ¬ b = Q := fun b e => (hlp b e).2.2
  have LK := Lib.hid (fun (w' : World) (hb : Below w.heap.size w w') => tlook_ok B Q T hn i hi q lp hq mt x1 y1 z1 w' (hW.later hb) (hL.later hb) (fun b e => ⟨Nat.lt_of_lt_of_le (hlp b e).1 hb.size, (hlp b e).2.1⟩))
  clear hW hL hlp
  go_enter Tryd.func74, Tryd.ntmps74
  go_wp2_with (first
    | (go_at_call 77; refine (LK.out _ (by go_grown)).mono ?_; rintro e w1 ⟨rfl, hl1, hc1⟩; have HL1 := Lib.hid hl1; have HC1 := Lib.hid ((Chg.of_below (show Below w.heap.size w _ by go_grown)).trans hc1); have W1 := Lib.hid ((TW.later HW.out (show Below w.heap.size w _ by go_grown)).chg hc1 nB nQ); clear hl1 hc1)
    | (go_at_call 78; refine (gclear_any Q (i * 25) (T.M i) (T.S i) _ ((W1.out.alloc _).at' i hi)).mono ?_; rintro e w2 ⟨rfl, g2, c2⟩; have C2 := Lib.hid c2.chg; have W2 := Lib.hid ((W1.out.alloc (.cells #[.pointer (some ⟨Q, i * 25, none⟩)] 134)).group g2 c2); clear g2 c2))
  go_ret
  exact ⟨rfl, W2.out, (HL1.out.later ((Below.refl _ _).alloc (Nat.le_refl _) _)).chg C2.out nLQ, ((HC1.out.alloc _).mono (fun _ _ e => .inl e)).trans (C2.out.mono (fun _ _ e => .inr e))⟩
end Go.Proofs.YtolhmibejhldkaaDoor

namespace Go.Proofs.YtolhmibejhldkaaDoor
open Go.RowKit Go.Proofs
attribute [local go_sem] neq_nilG
theorem ownsRow_full {w : World} {base g : Nat} {e : TypeId} {n size : Nat} {xs : List Value} (h : w.ownsRow base e size (.slice (some ⟨g, 0, none⟩) n n) n xs) : Blk w g e xs.toArray := by
  rcases h.2 with ⟨h1, _⟩ | ⟨g', cap, cur, h1, _, h3, _, _, h4, h5⟩
  · cases h1
  · simp only [Value.slice.injEq, Option.some.injEq, Addr.mk.injEq, and_true, true_and] at h1
    obtain ⟨rfl, rfl⟩ := h1
    have : xs = cur.toList := by rw [← h5, List.take_of_length_le (by simp [h4])]
    rw [this]
    exact h3
def zero25 : Array Value := #[.int .u64 0, .int .u64 0, .int .u64 0, .int .u64 0, .int .u64 0, .int .u64 0, .int .u64 0, .int .u64 0, .int .u64 0, .int .u64 0, .int .u64 0, .int .u64 0, .int .u64 0, .int .u64 0, .int .u64 0, .int .u64 0, .int .u64 0, .int .u64 0, .int .u64 0, .int .u64 0, .int .u64 0, .int .u64 0, .int .u64 0, .int .u64 0, .int .u64 0]
theorem zero25_eq : zero25 = arrV 25 (gF 0 (fun _ => EntS.zero)) := rfl
theorem made_at (n i j : Nat) (hi : i < n) (hj : j < 25) : (madeCells zero25 (n * 25))[i * 25 + j]? = some (gF 0 (fun _ => EntS.zero) j) := by
  have hlt : i * 25 + j < n * 25 := by
    have : (i + 1) * 25 ≤ n * 25 := Nat.mul_le_mul_right _ hi
    omega
  unfold madeCells
  rw [Array.getElem?_map, Array.getElem?_range, if_pos hlt]
  have hz : zero25.size = 25 := rfl
  have hm : (i * 25 + j) % 25 = j := by omega
  simp only [Option.map_some, hz, hm]
  congr 1
  have := arrV_get 25 (gF 0 (fun _ => EntS.zero)) j hj
  rw [← zero25_eq] at this
  rw [getElem!_def, this]
theorem raw_groups {w : World} {base Q n : Nat} {e : TypeId} (h : w.ownsRow base e 25 (.slice (some ⟨Q, 0, none⟩) n n) n (madeCells zero25 (n * 25)).toList) : ∀ i, i < n → GW w Q (i * 25) 0 (fun _ => EntS.zero) := fun i hi => by
  have hb := ownsRow_full h
  rw [Array.toArray_toList] at hb
  exact ⟨_, _, hb, fun j hj => made_at n i j hi hj⟩
set_option maxRecDepth 100000 in
set_option maxHeartbeats 2000000 in
theorem traw_ok (n : Nat) (hr : rightB (n : Int) = true) (w : World) :
    Calls Tryd.prog 42 #[.int .i64 (n : Int)] w fun e w' => ∃ B Q, e = .returned (.tuple #[.pointer (some ⟨B, 0, none⟩), .nilIface]) ∧ w.heap.size ≤ B ∧ w.heap.size ≤ Q ∧ TW w' B Q n (fun _ => 0) (fun _ _ => EntS.zero) 0 0 ∧ Below w.heap.size w w' := by
  obtain ⟨i0, hi, hz0, hz1, hz2⟩ := info_parts infoG
  have hn : n ≤ 64 := by rw [rightB_iff] at hr; omega
  have RT := Lib.hid (fun (w' : World) => right_any (n : Int) w')
  rw [hr] at RT
  clear hr
  go_enter Tryd.func42, Tryd.ntmps42
  go_wp2_with (first
    | (go_at_call 56; refine (RT.out _).mono ?_; rintro e w' ⟨rfl, rfl⟩)
    | (at_make; refine wpList_make_full _ rfl _ _ 100 rfl w.heap.size 145 i0 (.agg zero25) 25 Tryd.underlying100 hi hz0 hz1 .i64 .i64 _ _ n rfl rfl rfl rfl (by rw [hz2]; omega) (by unfold maxLen; omega) (Nat.le_refl _) ?_; intro w1 hown1 hgrow1; have HO := Lib.hid hown1; have hB1 : Below w.heap.size w w1 := (Below.refl _ _).grown hgrow1 (Nat.le_refl _) (fun k e => by cases e); clear hgrow1 hown1))
  go_ret2
  have hbl := ownsRow_full HO.out
  have hlt := hbl.lt
  exact ⟨w1.heap.size, w.heap.size, rfl, hB1.size, Nat.le_refl _, ⟨Blk.new _ _ _, by omega, fun i hi => (raw_groups HO.out i hi).alloc _, by simp; omega⟩, hB1.alloc hB1.size _⟩
end Go.Proofs.YtolhmibejhldkaaDoor
