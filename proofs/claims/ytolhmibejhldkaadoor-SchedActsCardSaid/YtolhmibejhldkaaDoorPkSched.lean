/- Texts joined: MapJ SchedP PlanS BuildS Credit SchedW SchedDo SchedDo2 SchedOth SchedQ SchedIds SchedLeft SchedSv SchedServe SchedAdd SchedNew SchedSs SchedJob SchedAlive. No condition but those that stand within. -/
import Derived.Maps.OwnSet
import Derived.Maps.RangeWalk
import Derived.Lib.MinMax
import Derived.Deep.LoopGhost
import Derived.Test.YtolhmibejhldkaaDoorPkSwar
import Derived.Test.YtolhmibejhldkaaDoorPkMeter
import Derived.Test.YtolhmibejhldkaaDoorPkErrs
import Derived.Test.YtolhmibejhldkaaDoorPkGroup
import Derived.Test.YtolhmibejhldkaaDoorPkTab
import Derived.Test.YtolhmibejhldkaaDoorPkQueue
set_option linter.unusedVariables false
set_option linter.unusedSimpArgs false
namespace Go.Proofs.YtolhmibejhldkaaDoor
open Go.RowKit Go.Proofs
def jobR (T : TypeId) : Value → Option (DataW Unit × List MemPlace)
  | .iface t (.pointer (some ⟨D, 0, none⟩)) => if t = T then some (.lit (.int .i64 (D : Int)), []) else none
  | .nilIface => some (.lit (.int .i64 (-1)), [])
  | _ => none
def jobVal (T : TypeId) (D : Nat) : Value := .iface T (.pointer (some ⟨D, 0, none⟩))
theorem jobR_val (T : TypeId) (D : Nat) : jobR T (jobVal T D) = some (.lit (.int .i64 (D : Int)), []) := by simp [jobR, jobVal]
theorem jobR_nil (T : TypeId) : jobR T .nilIface = some (.lit (.int .i64 (-1)), []) := rfl
theorem jobR_inv {T : TypeId} {v : Value} {D : Nat} {ps : List MemPlace} (h : jobR T v = some (.lit (.int .i64 (D : Int)), ps)) : v = jobVal T D := by
  unfold jobR at h
  split at h
  · split at h
    · rename_i e
      simp only [Option.some.injEq, Prod.mk.injEq, DataW.lit.injEq, Lit.int.injEq, true_and] at h
      have : (_ : Nat) = D := Int.ofNat.inj h.1
      subst this; subst e; rfl
    · cases h
  · simp only [Option.some.injEq, Prod.mk.injEq, DataW.lit.injEq, Lit.int.injEq, true_and] at h
    have := h.1
    omega
  · cases h
theorem jobR_shape {T : TypeId} {v : Value} {y : DataW Unit × List MemPlace} (h : jobR T v = some y) : (∃ D, v = jobVal T D ∧ y.1 = .lit (.int .i64 (D : Int))) ∨ (v = .nilIface ∧ y.1 = .lit (.int .i64 (-1))) := by
  unfold jobR at h
  split at h
  · split at h
    · rename_i e
      cases h; subst e
      exact .inl ⟨_, rfl, rfl⟩
    · cases h
  · cases h
    exact .inr ⟨rfl, rfl⟩
  · cases h
structure JM (P : Program) (k T : TypeId) (w : World) (b n : Nat) (ids : List Int) (g : Int → Nat) : Prop where
  o : ∃ D : DataW Unit, w.ownsMap P k (jobR T) b n D ∧ (∀ x, Maps.has D (.int .i64 x) = decide (x ∈ ids)) ∧ ∀ x ∈ ids, ∀ z, D.atKey (.int .i64 x) z = .lit (.int .i64 (g x : Int))
  r : ∀ x ∈ ids, (Lit.int .i64 x).wf = true
section
variable {P : Program} {k T t e : TypeId} {w w' : World} {b n : Nat} {ids : List Int} {g : Int → Nat}
theorem JM.lt (h : JM P k T w b n ids g) : b < w.heap.size := by obtain ⟨D, h1, -⟩ := h.o; exact h1.lt
theorem JM.congr {ids' : List Int} {g' : Int → Nat} (h : JM P k T w b n ids g) (hi : ∀ x, x ∈ ids' ↔ x ∈ ids) (hg : ∀ x ∈ ids, g' x = g x) : JM P k T w b n ids' g' := by
  obtain ⟨D, h1, h2, h3⟩ := h.o
  exact ⟨⟨D, h1, fun x => by rw [h2]; exact decide_eq_decide.2 (hi x).symm, fun x hx z => by rw [h3 x ((hi x).1 hx) z, hg x ((hi x).1 hx)]⟩, fun x hx => h.r x ((hi x).1 hx)⟩
theorem JM.chg {X : Nat → Prop} (h : JM P k T w b n ids g) (hc : Chg X w w') (hb : ¬ X b) : JM P k T w' b n ids g := by
  obtain ⟨D, ⟨es, clock, h0, h1, h2, h3⟩, h4, h5⟩ := h.o
  have hlt := h.lt
  exact ⟨⟨D, ⟨es, clock, (hc.block b hlt hb).trans h0, h1, h2, h3⟩, h4, h5⟩, h.r⟩
theorem JM.later (h : JM P k T w b n ids g) (hb : Below w.heap.size w w') : JM P k T w' b n ids g := h.chg (X := fun _ => False) (Chg.of_below hb) (fun e => e)
theorem JM.mono {n' : Nat} (h : JM P k T w b n ids g) (hn : n ≤ n') : JM P k T w b n' ids g := by
  obtain ⟨D, h1, h2⟩ := h.o
  exact ⟨⟨D, h1.mono hn, h2⟩, h.r⟩
theorem JM.made (w : World) : JM P k T (w.alloc (.map #[] 0)) w.heap.size 0 [] g :=
  ⟨⟨.map [], World.ownsMap_made w P k (jobR T), fun x => by simp [Maps.has], fun x hx => by cases hx⟩, fun x hx => by cases hx⟩
theorem chg_of_grown {row : Option Nat} (h : w.grownBy w' row) : Chg (fun j => some j = row) w w' := ⟨h.os, h.tape, h.output, h.size, fun i hi hx => h.block i hi hx⟩
theorem JM.look (h : JM P k T w b n ids g) (hk : P.underlying k = some (.int .i64)) (ht : P.underlying t = some (.map k e)) (hz : (zeroValue e).run P w = .ok .nilIface w) {x : Int} (hx : x ∈ ids) :
    (Instr.lookup t (.map (some b)) (.int .i64 x) false).run P w = .ok (jobVal T (g x)) w := by
  obtain ⟨D, h1, h2, h3⟩ := h.o
  obtain ⟨v, ps, hrun, hv⟩ := h1.lookup (Maps.int_keyed hk) ht hz (jobR_nil T) (Maps.keyOf_int_mk hk (h.r x hx))
  rw [h3 x hx] at hv
  rw [hrun, jobR_inv hv]
theorem JM.lookOk (h : JM P k T w b n ids g) (hk : P.underlying k = some (.int .i64)) (ht : P.underlying t = some (.map k e)) (hz : (zeroValue e).run P w = .ok .nilIface w) (x : Int) (hw : (Lit.int .i64 x).wf = true) :
    (x ∈ ids → (Instr.lookup t (.map (some b)) (.int .i64 x) true).run P w = .ok (.tuple #[jobVal T (g x), .bool true]) w) ∧ (x ∉ ids → (Instr.lookup t (.map (some b)) (.int .i64 x) true).run P w = .ok (.tuple #[.nilIface, .bool false]) w) := by
  obtain ⟨D, h1, h2, h3⟩ := h.o
  obtain ⟨v, ps, hrun, hv⟩ := h1.look_ok (Maps.int_keyed hk) ht hz (jobR_nil T) (Maps.keyOf_int_mk hk hw)
  refine ⟨fun hx => ?_, fun hx => ?_⟩
  · rw [h3 x hx] at hv
    rw [hrun, jobR_inv hv, h2, decide_eq_true hx]
  · have h0 : Maps.has D (.int .i64 x) = false := by rw [h2, decide_eq_false hx]
    rw [Maps.atKey_of_not_has h0] at hv
    rw [hrun, h0]
    rcases jobR_shape hv with ⟨D', rfl, e⟩ | ⟨rfl, -⟩
    · simp only [DataW.lit.injEq, Lit.int.injEq, true_and] at e
      omega
    · rfl
theorem JM.put (h : JM P k T w b n ids g) (hk : P.underlying k = some (.int .i64)) (ht : P.underlying t = some (.map k e)) (hn : n < maxLen) (x : Int) (hw : (Lit.int .i64 x).wf = true) (D : Nat) :
    ∃ w', (Instr.mapUpdate t (.map (some b)) (.int .i64 x) (jobVal T D)).run P w = .ok () w' ∧ JM P k T w' b (n + 1) (ids ++ [x]) (fun y => if y = x then D else g y) ∧ Chg (fun j => j = b) w w' := by
  obtain ⟨D0, h1, h2, h3⟩ := h.o
  obtain ⟨w', hrun, r1, r2⟩ := h1.update (Maps.int_keyed hk) ht hn (Maps.keyOf_int_mk hk hw) (jobR_val T D)
  refine ⟨w', hrun, ⟨⟨_, r1, fun y => ?_, fun y hy z => ?_⟩, fun y hy => ?_⟩, (chg_of_grown r2).mono (fun j _ e => Option.some.inj e)⟩
  · by_cases e : y = x
    · subst e; rw [Maps.has_put_same h1.isMap (show WideAt.IsKeyLit (.int .i64 y) from trivial)]; simp
    · rw [Maps.has_put_other (fun h => e (by injection h)), h2]
      exact decide_eq_decide.2 ⟨fun hy => List.mem_append_left _ hy, fun hy => by rcases List.mem_append.1 hy with hy | hy; exact hy; exact absurd (List.mem_singleton.1 hy) e⟩
  · by_cases e : y = x
    · subst e; rw [Maps.atKey_put_same h1.isMap (show WideAt.IsKeyLit (.int .i64 y) from trivial), if_pos rfl]
    · rw [Maps.atKey_put_other (fun h => e (by injection h)), if_neg e]
      rcases List.mem_append.1 hy with hy | hy
      · exact h3 y hy z
      · exact absurd (List.mem_singleton.1 hy) e
  · rcases List.mem_append.1 hy with hy | hy
    · exact h.r y hy
    · rw [List.mem_singleton.1 hy]; exact hw
theorem JM.del (h : JM P k T w b n ids g) (hk : P.underlying k = some (.int .i64)) (ht : P.underlying t = some (.map k e)) (x : Int) (hw : (Lit.int .i64 x).wf = true) (ty : TypeId) :
    ∃ w', (Builtin.delete_ #[t, k] ty #[.map (some b), .int .i64 x]).run P w = .ok (.tuple #[]) w' ∧ JM P k T w' b n (cutL ids x) g ∧ Chg (fun j => j = b) w w' := by
  obtain ⟨D0, h1, h2, h3⟩ := h.o
  obtain ⟨w', hrun, r1, r2⟩ := h1.drop (Maps.int_keyed hk) ht (Maps.keyOf_int_mk hk hw) ty
  have hm : ∀ y, y ∈ cutL ids x ↔ y ∈ ids ∧ y ≠ x := fun y => by unfold cutL; rw [List.mem_filter, decide_eq_true_iff]
  refine ⟨w', hrun, ⟨⟨_, r1, fun y => ?_, fun y hy z => ?_⟩, fun y hy => h.r y ((hm y).1 hy).1⟩, (chg_of_grown r2.grown).mono (fun j _ e => Option.some.inj e)⟩
  · by_cases e : y = x
    · subst e; rw [Maps.has_del_same]; exact (decide_eq_false (fun hy => ((hm y).1 hy).2 rfl)).symm
    · rw [Maps.has_del_other (fun h => e (by injection h)), h2]
      exact decide_eq_decide.2 ⟨fun hy => (hm y).2 ⟨hy, e⟩, fun hy => ((hm y).1 hy).1⟩
  · obtain ⟨hy1, hy2⟩ := (hm y).1 hy
    rw [Maps.atKey_del_other (fun h => hy2 (by injection h))]
    exact h3 y hy1 z
structure JR (P : Program) (k T : TypeId) (w : World) (b r n : Nat) (ids : List Int) (g : Int → Nat) (left : Int → Bool) (cnt : Nat) : Prop where
  o : ∃ (D : DataW Unit) (l : Lit → Bool), w.ranges P k (jobR T) b r n D l cnt ∧ (∀ x, Maps.has D (.int .i64 x) = decide (x ∈ ids)) ∧ (∀ x ∈ ids, ∀ z, D.atKey (.int .i64 x) z = .lit (.int .i64 (g x : Int))) ∧ (∀ x, l (.int .i64 x) = left x) ∧ ∀ kl, l kl = true → ∃ x, kl = .int .i64 x ∧ x ∈ ids
  r : ∀ x ∈ ids, (Lit.int .i64 x).wf = true
theorem JR.jm {r : Nat} {left : Int → Bool} {cnt : Nat} (h : JR P k T w b r n ids g left cnt) : JM P k T w b n ids g := by
  obtain ⟨D, l, h1, h2, h3, -⟩ := h.o
  exact ⟨⟨D, h1.owns, h2, h3⟩, h.r⟩
theorem JR.ne {r : Nat} {left : Int → Bool} {cnt : Nat} (h : JR P k T w b r n ids g left cnt) : r ≠ b ∧ r < w.heap.size := by
  obtain ⟨D, l, h1, -⟩ := h.o
  exact ⟨h1.ne, h1.lt⟩
theorem JR.chg {X : Nat → Prop} {r : Nat} {left : Int → Bool} {cnt : Nat} (h : JR P k T w b r n ids g left cnt) (hc : Chg X w w') (hb : ¬ X b) (hr : ¬ X r) : JR P k T w' b r n ids g left cnt := by
  obtain ⟨D, l, ⟨es, clock, since, seen, c0, h1, h2, h3, h4, h5, h6⟩, h7⟩ := h.o
  have hlt := h.jm.lt
  have hlr := h.ne.2
  exact ⟨⟨D, l, ⟨es, clock, since, seen, c0, (hc.block b hlt hb).trans h1, h2, h3, h4, (hc.block r hlr hr).trans h5, h6⟩, h7⟩, h.r⟩
theorem JM.range (h : JM P k T w b n ids g) (hk : P.underlying k = some (.int .i64)) (ht : P.underlying t = some (.map k e)) :
    ∃ w' cnt, (Instr.range t (.map (some b))).run P w = .ok (.pointer (some ⟨w.heap.size, 0, none⟩)) w' ∧ JR P k T w' b w.heap.size n ids g (fun x => decide (x ∈ ids)) cnt ∧ Below w.heap.size w w' ∧ w'.heap.size = w.heap.size + 1 ∧ cnt ≤ n := by
  obtain ⟨D, h1, h2, h3⟩ := h.o
  obtain ⟨w', hrun, r1, r2, r3⟩ := h1.range (Maps.int_keyed hk) ht
  refine ⟨w', _, hrun, ⟨⟨D, _, r1, h2, h3, h2, fun kl hkl => ?_⟩, h.r⟩, ⟨r2.os, r2.tape, r2.output, r2.size, fun i hi => r2.block i hi (by simp)⟩, r3, h1.size_le⟩
  obtain ⟨es, clock, hb, F, hs, hD⟩ := h1
  have hkl' := hkl
  rw [hD] at hkl'
  obtain ⟨p, hp, hpk⟩ := List.any_eq_true.1 hkl'
  obtain ⟨y, hy, rfl⟩ := List.mem_map.1 (mem_sorted.1 hp)
  obtain ⟨z, hz⟩ := F.reads y hy
  have e := WideAt.sameKey_eq hpk
  rw [Go.WideElems.rg_of hz] at e
  obtain ⟨q, -, e2, -⟩ := Maps.keyOf_int_inv hk (Go.WideElems.rd_key hz)
  refine ⟨q, by rw [← e, e2], ?_⟩
  have h4 := h2 q
  rw [← e2, e, hkl] at h4
  exact of_decide_eq_true h4.symm
theorem sameKey_int (x y : Int) : (Lit.int .i64 x).sameKey (.int .i64 y) = decide (x = y) := by
  by_cases e : x = y
  · subst e; rw [decide_eq_true rfl]; exact WideAt.sameKey_self trivial
  · rw [decide_eq_false e]; exact Maps.sameKey_ne (fun h => e (by injection h))
theorem wpList_next_J {r cnt : Nat} {left : Int → Bool} {ops : Array Oper} {rest : List Oper} {o : Oper} {a : Act} {Q : Exit → Act → World → Prop} (hg : o.guard = none) (it : Operand) (hop : o.op = Op.next it false)
    (hk : P.underlying k = some (.int .i64)) (hit : a.eval it = .pointer (some ⟨r, 0, none⟩)) (h : JR P k T w b r n ids g left cnt)
    (hDone : cnt = 0 → (∀ x, left x = false) → wpList P ops Q rest (a.put o.dst (.tuple #[.bool false])) w)
    (hMore : ∀ (x : Int) (w' : World) (cnt' : Nat), x ∈ ids → left x = true → JR P k T w' b r n ids g (fun y => left y && !decide (y = x)) cnt' → cnt' < cnt → Chg (fun j => j = r) w w' → w'.heap.size = w.heap.size →
      (Instr.entry (.pointer (some ⟨r, 0, none⟩))).run P w' = .ok (.tuple #[.int .i64 x, jobVal T (g x)]) w' → wpList P ops Q rest (a.put o.dst (.tuple #[.bool true, .int .i64 x, jobVal T (g x)])) w') :
    wpList P ops Q (o :: rest) a w := by
  refine wpList_plain hg fun K' hK' => ?_
  unfold Oper.wp
  obtain ⟨D, l, h1, h2, h3, h4, h5⟩ := h.o
  rcases h1.next (Maps.int_keyed hk) o.type with ⟨h0, hl, hrun⟩ | ⟨key, v, kl, y, w', cnt', hkey, hlk, hv, hat, hrun, hrg, hlt, hgr, hsz, hen⟩
  · simp [execOp, hop, hit, hrun, Result.andThen]
    exact hK' _ _ (hDone h0 (fun x => by rw [← h4]; exact hl _))
  · obtain ⟨x, rfl, rfl, hwx⟩ := Maps.keyOf_int_inv hk hkey
    obtain ⟨x', e, hx⟩ := h5 _ hlk
    obtain rfl : x' = x := by injection e with _ e; exact e.symm
    have e1 := hat (.lit (.int .i64 0))
    rw [h3 x' hx] at e1
    obtain ⟨y1, y2⟩ := y
    obtain rfl : y1 = .lit (.int .i64 (g x' : Int)) := e1.symm
    obtain rfl := jobR_inv hv
    simp [execOp, hop, hit, hrun, Result.andThen]
    refine hK' _ _ (hMore x' w' cnt' hx (by rw [← h4]; exact hlk) ⟨⟨D, _, hrg, h2, h3, fun y => ?_, fun kl hkl => ?_⟩, h.r⟩ hlt ((chg_of_grown hgr).mono (fun j _ e => Option.some.inj e)) hsz hen)
    · show (l (.int .i64 y) && !(Lit.int .i64 y).sameKey (.int .i64 x')) = _
      rw [h4, sameKey_int]
    · simp only [Bool.and_eq_true] at hkl
      exact h5 kl hkl.1
end
end Go.Proofs.YtolhmibejhldkaaDoor

namespace Go.Proofs.YtolhmibejhldkaaDoor
open Go.RowKit Go.Proofs
def jIds (js : List (Int × Nat)) : List Int := js.map (·.1)
def jSum (js : List (Int × Nat)) : Nat := (js.map (·.2)).sum
def jGet : List (Int × Nat) → Int → Nat
  | [], _ => 0
  | p :: r, x => if p.1 = x then p.2 else jGet r x
def jSub (js : List (Int × Nat)) (x : Int) (n : Nat) : List (Int × Nat) := js.map fun p => if p.1 = x then (p.1, p.2 - n) else p
def oth : Nat → List (Int × Nat) → List (Int × Nat) × List Int × Nat
  | _, [] => ([], [], 0)
  | 0, p :: r => (p :: r, [], 0)
  | c + 1, (x, 0) :: r => ((oth (c + 1) r).1, x :: (oth (c + 1) r).2.1, (oth (c + 1) r).2.2)
  | c + 1, (x, l + 1) :: r => ((oth c ((x, l) :: r)).1, (oth c ((x, l) :: r)).2.1, (oth c ((x, l) :: r)).2.2 + 1)
termination_by c js => (js.length, c)
theorem oth_nil (c : Nat) : oth c [] = ([], [], 0) := by rw [oth]
theorem oth_zero (js : List (Int × Nat)) : oth 0 js = (js, [], 0) := by cases js <;> rw [oth]
theorem oth_end (c : Nat) (hc : 0 < c) (x : Int) (r : List (Int × Nat)) : oth c ((x, 0) :: r) = ((oth c r).1, x :: (oth c r).2.1, (oth c r).2.2) := by
  obtain ⟨d, rfl⟩ : ∃ d, c = d + 1 := ⟨c - 1, by omega⟩
  rw [oth]
theorem oth_step (c : Nat) (x : Int) (l : Nat) (r : List (Int × Nat)) : oth (c + 1) ((x, l + 1) :: r) = ((oth c ((x, l) :: r)).1, (oth c ((x, l) :: r)).2.1, (oth c ((x, l) :: r)).2.2 + 1) := by rw [oth]
def sOwn (k : Nat) (js : List (Int × Nat)) (own : Int) : Nat := min (jGet js own) (8 * k)
def sMid (k : Nat) (js : List (Int × Nat)) (own : Int) : List (Int × Nat) := jSub js own (sOwn k js own)
def sJobs (k : Nat) (js : List (Int × Nat)) (own : Int) : List (Int × Nat) := (oth k (sMid k js own)).1.filter fun p => decide (0 < p.2)
def sEnd (k : Nat) (js : List (Int × Nat)) (own : Int) : List Int := (oth k (sMid k js own)).2.1 ++ jIds ((oth k (sMid k js own)).1.filter fun p => decide (p.2 = 0))
def sSpent (k : Nat) (js : List (Int × Nat)) (own : Int) : Nat := sOwn k js own + (oth k (sMid k js own)).2.2
theorem sub_ids (js : List (Int × Nat)) (x : Int) (n : Nat) : jIds (jSub js x n) = jIds js := by
  unfold jIds jSub
  rw [List.map_map]
  apply List.map_congr_left
  intro p _
  show (if p.1 = x then (p.1, p.2 - n) else p).1 = p.1
  split <;> rfl
theorem oth_sub : ∀ (c : Nat) (js : List (Int × Nat)), (jIds (oth c js).1).Sublist (jIds js)
  | c, [] => by rw [oth_nil]; exact List.Sublist.refl _
  | 0, p :: r => by rw [oth_zero]; exact List.Sublist.refl _
  | c + 1, (x, 0) :: r => by rw [oth_end _ (by omega)]; exact (oth_sub (c + 1) r).trans (List.sublist_cons_self _ _)
  | c + 1, (x, l + 1) :: r => by rw [oth_step]; exact oth_sub c ((x, l) :: r)
termination_by c js => (js.length, c)
theorem oth_spent : ∀ (c : Nat) (js : List (Int × Nat)), (oth c js).2.2 ≤ c
  | c, [] => by rw [oth_nil]; exact Nat.zero_le _
  | 0, p :: r => by rw [oth_zero]; exact Nat.le_refl _
  | c + 1, (x, 0) :: r => by rw [oth_end _ (by omega)]; exact oth_spent (c + 1) r
  | c + 1, (x, l + 1) :: r => by rw [oth_step]; have := oth_spent c ((x, l) :: r); show _ + 1 ≤ c + 1; omega
termination_by c js => (js.length, c)
theorem spent_le (k : Nat) (js : List (Int × Nat)) (own : Int) : sSpent k js own ≤ 9 * k := by
  have := oth_spent k (sMid k js own)
  unfold sSpent sOwn
  omega
theorem jobs_sub (k : Nat) (js : List (Int × Nat)) (own : Int) : (jIds (sJobs k js own)).Sublist (jIds js) := by
  unfold sJobs
  refine ((List.filter_sublist).map _).trans ((oth_sub k (sMid k js own)).trans ?_)
  unfold sMid
  rw [sub_ids]
  exact List.Sublist.refl _
end Go.Proofs.YtolhmibejhldkaaDoor

namespace Go.Proofs.YtolhmibejhldkaaDoor
open Go.RowKit Go.Proofs
theorem within19 (n m : Int) (w : World) :
    Calls Tryd.prog 37 #[.int .i64 n, .int .i64 m] w fun e w' => e = .returned (.bool (decide (1 ≤ n ∧ n ≤ m))) ∧ w = w' := by
  by_cases h1 : n < 1
  · have e := decide_eq_false (show ¬ (1 ≤ n ∧ n ≤ m) by omega)
    rw [e]
    clear e
    have e : decide (n ≥ 1) = false := by simp; omega
    go_enter Tryd.func37, Tryd.ntmps37
    go_wp2
    go_ret
    exact ⟨rfl, rfl⟩
  · by_cases h2 : m < n
    · have e := decide_eq_false (show ¬ (1 ≤ n ∧ n ≤ m) by omega)
      rw [e]
      clear e
      have e : decide (n ≥ 1) = true := by simp; omega
      have e2 : decide (n ≤ m) = false := by simp; omega
      go_enter Tryd.func37, Tryd.ntmps37
      go_wp2
      go_ret
      exact ⟨rfl, rfl⟩
    · have e := decide_eq_true (show 1 ≤ n ∧ n ≤ m by omega)
      rw [e]
      clear e
      have e : decide (n ≥ 1) = true := by simp; omega
      have e2 : decide (n ≤ m) = true := by simp; omega
      go_enter Tryd.func37, Tryd.ntmps37
      go_wp2
      go_ret
      exact ⟨rfl, rfl⟩
theorem times_yes (k l i n b : Int) (hk : 1 ≤ k ∧ k ≤ 64) (hn : 0 ≤ n ∧ n ≤ 100) (hb : 0 ≤ b ∧ b ≤ 1000) (w : World) :
    Calls Tryd.prog 46 #[.agg #[.int .i64 k, .int .i64 l, .int .i64 i], .int .i64 n, .int .i64 b] w fun e w' => e = .returned (.int .i64 (n * k + b)) ∧ Below w.heap.size w w' := by
  have h1 : 0 ≤ n * k := Int.mul_nonneg (by omega) (by omega)
  have h2 : n * k ≤ 100 * 64 := Int.mul_le_mul (by omega) (by omega) (by omega) (by omega)
  have hw := within19 k 64
  rw [decide_eq_true hk] at hw
  go_enter Tryd.func46, Tryd.ntmps46
  go_wp2_with (go_at_call 37; refine (hw _).mono ?_; rintro e w' ⟨rfl, rfl⟩)
  go_ret
  exact ⟨rfl, by go_grown⟩
theorem times_no (k l i n b : Int) (hk : ¬ (1 ≤ k ∧ k ≤ 64)) (w : World) :
    Calls Tryd.prog 46 #[.agg #[.int .i64 k, .int .i64 l, .int .i64 i], .int .i64 n, .int .i64 b] w fun e w' => e = .returned (.int .i64 0) ∧ Below w.heap.size w w' := by
  have hw := within19 k 64
  rw [decide_eq_false hk] at hw
  go_enter Tryd.func46, Tryd.ntmps46
  go_wp2_with (go_at_call 37; refine (hw _).mono ?_; rintro e w' ⟨rfl, rfl⟩)
  go_ret
  exact ⟨rfl, by go_grown⟩
def timesZ (k n b : Int) : Int := if 1 ≤ k ∧ k ≤ 64 then n * k + b else 0
theorem times_any (k l i n b : Int) (hn : 0 ≤ n ∧ n ≤ 100) (hb : 0 ≤ b ∧ b ≤ 1000) (w : World) :
    Calls Tryd.prog 46 #[.agg #[.int .i64 k, .int .i64 l, .int .i64 i], .int .i64 n, .int .i64 b] w fun e w' => e = .returned (.int .i64 (timesZ k n b)) ∧ Below w.heap.size w w' := by
  unfold timesZ
  by_cases hk : 1 ≤ k ∧ k ≤ 64
  · rw [if_pos hk]; exact times_yes k l i n b hk hn hb w
  · rw [if_neg hk]; exact times_no k l i n b hk w
theorem own_any (k l i : Int) (w : World) :
    Calls Tryd.prog 31 #[.agg #[.int .i64 k, .int .i64 l, .int .i64 i]] w fun e w' => e = .returned (.int .i64 (timesZ k 8 0)) ∧ Below w.heap.size w w' := by
  have ht := times_any k l i 8 0 (by decide) (by decide)
  go_enter Tryd.func31, Tryd.ntmps31
  go_wp2_with (go_at_call 46; refine (ht _).mono ?_; rintro e w1 ⟨rfl, hb1⟩)
  go_ret
  exact ⟨rfl, Below.trans (by go_grown) (hb1.mono (by simp))⟩
theorem other_any (k l i : Int) (w : World) :
    Calls Tryd.prog 33 #[.agg #[.int .i64 k, .int .i64 l, .int .i64 i]] w fun e w' => e = .returned (.int .i64 (timesZ k 1 0)) ∧ Below w.heap.size w w' := by
  have ht := times_any k l i 1 0 (by decide) (by decide)
  go_enter Tryd.func33, Tryd.ntmps33
  go_wp2_with (go_at_call 46; refine (ht _).mono ?_; rintro e w1 ⟨rfl, hb1⟩)
  go_ret
  exact ⟨rfl, Below.trans (by go_grown) (hb1.mono (by simp))⟩
def OkC (k l i : Int) : Prop := (1 ≤ k ∧ k ≤ 64) ∧ (1 ≤ l ∧ l ≤ 192) ∧ 1 ≤ i ∧ i ≤ 8
instance (k l i : Int) : Decidable (OkC k l i) := by unfold OkC; infer_instance
theorem check_yes (k l i : Int) (h : OkC k l i) (w : World) :
    Calls Tryd.prog 26 #[.agg #[.int .i64 k, .int .i64 l, .int .i64 i]] w fun e w' => e = .returned .nilIface ∧ Below w.heap.size w w' := by
  have h1 := within19 k 64
  rw [decide_eq_true h.1] at h1
  have h2 := within19 l 192
  rw [decide_eq_true h.2.1] at h2
  have h3 := within19 i 8
  rw [decide_eq_true h.2.2] at h3
  clear h
  go_enter Tryd.func26, Tryd.ntmps26
  go_wp2_with (go_at_call 37; (first | (with_reducible refine (h1 _).mono ?_) | (with_reducible refine (h2 _).mono ?_) | (with_reducible refine (h3 _).mono ?_)); rintro e w' ⟨rfl, rfl⟩)
  go_ret
  exact ⟨rfl, by go_grown⟩
theorem check_no (k l i : Int) (h : ¬ OkC k l i) (E : Nat → Addr) (w : World) (hc : w.cell? ⟨1, 0, none⟩ = some (errAt E 1)) :
    Calls Tryd.prog 26 #[.agg #[.int .i64 k, .int .i64 l, .int .i64 i]] w fun e w' => e = .returned (errAt E 1) ∧ Below w.heap.size w w' := by
  unfold errAt at *
  have h1 := within19 k 64
  have h2 := within19 l 192
  have h3 := within19 i 8
  have hg := World.block_lt_of_cell? w _ hc
  unfold OkC at h
  by_cases q1 : 1 ≤ k ∧ k ≤ 64
  · by_cases q2 : 1 ≤ l ∧ l ≤ 192
    · have q3 : ¬ (1 ≤ i ∧ i ≤ 8) := by omega
      rw [decide_eq_true q1] at h1
      rw [decide_eq_true q2] at h2
      rw [decide_eq_false q3] at h3
      clear h q1 q2 q3
      go_enter Tryd.func26, Tryd.ntmps26
      go_wp2_with (go_at_call 37; (first | (with_reducible refine (h1 _).mono ?_) | (with_reducible refine (h2 _).mono ?_) | (with_reducible refine (h3 _).mono ?_)); rintro e w' ⟨rfl, rfl⟩)
      go_ret
      exact ⟨rfl, by go_grown⟩
    · rw [decide_eq_true q1] at h1
      rw [decide_eq_false q2] at h2
      clear h q1 q2
      go_enter Tryd.func26, Tryd.ntmps26
      go_wp2_with (go_at_call 37; (first | (with_reducible refine (h1 _).mono ?_) | (with_reducible refine (h2 _).mono ?_) | (with_reducible refine (h3 _).mono ?_)); rintro e w' ⟨rfl, rfl⟩)
      go_ret
      exact ⟨rfl, by go_grown⟩
  · rw [decide_eq_false q1] at h1
    clear h q1
    go_enter Tryd.func26, Tryd.ntmps26
    go_wp2_with (go_at_call 37; (first | (with_reducible refine (h1 _).mono ?_) | (with_reducible refine (h2 _).mono ?_) | (with_reducible refine (h3 _).mono ?_)); rintro e w' ⟨rfl, rfl⟩)
    go_ret
    exact ⟨rfl, by go_grown⟩
end Go.Proofs.YtolhmibejhldkaaDoor

namespace Go.Proofs.YtolhmibejhldkaaDoor
open Go.RowKit Go.Proofs
attribute [local go_sem] neq_nilG eql_nilG
theorem LensAt.m (M : Nat) : LensAt (some ⟨M, 0, none⟩) (some M) := .inr ⟨M, rfl, rfl⟩
def rawT (n k : Nat) : TabS := ⟨n, fun i => if i < k then rep 128 else 0, fun _ _ => EntS.zero, 0, 0⟩
theorem TS.congr {w : World} {B Q : Nat} {T T' : TabS} (h : TS w B Q T) (hn : T'.n = T.n) (hM : ∀ i, i < T.n → T'.M i = T.M i) (hS : ∀ i, i < T.n → T'.S i = T.S i) (hl : T'.lv = T.lv) (ht : T'.tb = T.tb) : TS w B Q T' := by
  refine ⟨?_, h.ne, fun i hi => ?_, h.lt⟩
  · rw [hn, hl, ht]; exact h.head
  · rw [hn] at hi; rw [hM i hi, hS i hi]; exact h.at' i hi
theorem rawT_clr (n k : Nat) : ∀ i, ((rawT n k).clr k).M i = (rawT n (k + 1)).M i := fun i => by
  show (if i = k then rep 128 else if i < k then rep 128 else 0) = if i < k + 1 then rep 128 else 0
  by_cases e : i = k
  · rw [if_pos e, if_pos (by omega)]
  · rw [if_neg e]
    by_cases e2 : i < k
    · rw [if_pos e2, if_pos (by omega)]
    · rw [if_neg e2, if_neg (by omega)]
theorem rawT_step {w : World} {B Q n k : Nat} (h : TS w B Q ((rawT n k).clr k)) : TS w B Q (rawT n (k + 1)) :=
  h.congr rfl (fun i _ => (rawT_clr n k i).symm) (fun i _ => by
    show (fun _ => EntS.zero) = upd (fun _ => fun _ => EntS.zero) k (fun _ => EntS.zero) i
    unfold upd; split <;> rfl) rfl rfl
structure BW (w : World) (D B Q n k : Nat) (tk : Bool) : Prop where
  b : Blk w D 76 #[.pointer (if tk = true then none else some ⟨B, 0, none⟩), .int .i64 (n : Int), .int .i64 (k : Int)]
  t : tk = false → TS w B Q (rawT n k)
  hk : k ≤ n
  hr : rightB (n : Int) = true
  ne : D ≠ B ∧ D ≠ Q
theorem BW.hn {w : World} {D B Q n k : Nat} {tk : Bool} (h : BW w D B Q n k tk) : n ≤ 64 ∧ 1 ≤ n := by have := right_bd h.hr; omega
theorem BW.later {w w' : World} {D B Q n k : Nat} {tk : Bool} (h : BW w D B Q n k tk) (hb : Below w.heap.size w w') : BW w' D B Q n k tk := ⟨h.b.below hb h.b.lt, fun e => (h.t e).later hb, h.hk, h.hr, h.ne⟩
theorem BW.chg {X : Nat → Prop} {w w' : World} {D B Q n k : Nat} {tk : Bool} (h : BW w D B Q n k tk) (hc : Chg X w w') (hD : ¬ X D) (hB : ¬ X B) (hQ : ¬ X Q) : BW w' D B Q n k tk := ⟨h.b.chg hc hD, fun e => (h.t e).chg hc hB hQ, h.hk, h.hr, h.ne⟩
theorem BW.alloc {w : World} {D B Q n k : Nat} {tk : Bool} (h : BW w D B Q n k tk) (o : Obj) : BW (w.alloc o) D B Q n k tk := h.later ((Below.refl _ _).alloc (Nat.le_refl _) o)
theorem BW.drew {w : World} {D B Q n k : Nat} {tk : Bool} (h : BW w D B Q n k tk) : BW w.drew D B Q n k tk := h.later (Below.refl _ _).drew
theorem bcells {w : World} {D B Q n k : Nat} {tk : Bool} (h : BW w D B Q n k tk) : w.cell? ⟨D, 0, none⟩ = some (.pointer (if tk = true then none else some ⟨B, 0, none⟩)) ∧ w.cell? ⟨D, 1, none⟩ = some (.int .i64 (n : Int)) ∧ w.cell? ⟨D, 2, none⟩ = some (.int .i64 (k : Int)) ∧ D < w.heap.size ∧ (∀ j, w.frozen? ⟨D, j, none⟩ = false) := ⟨h.b.cell 0, h.b.cell 1, h.b.cell 2, h.b.lt, fun j => h.b.frozen j⟩
set_option maxRecDepth 100000 in
set_option maxHeartbeats 1000000 in
theorem bnew_ok (n : Nat) (hr : rightB (n : Int) = true) (w : World) :
    Calls Tryd.prog 28 #[.int .i64 (n : Int)] w fun e w' => ∃ D B Q, e = .returned (.tuple #[.pointer (some ⟨D, 0, none⟩), .nilIface]) ∧ w.heap.size ≤ D ∧ w.heap.size ≤ B ∧ w.heap.size ≤ Q ∧ BW w' D B Q n 0 false ∧ Below w.heap.size w w' := by
  have RW := Lib.hid (fun (w' : World) => traw_ok n hr w')
  have HR := Lib.hid hr
  clear hr
  go_enter Tryd.func28, Tryd.ntmps28
  go_wp2_with (go_at_call 42; refine (RW.out _).mono ?_; rintro e w1 ⟨B, Q, rfl, hB, hQ, ht, hb1⟩; have hz1 := hb1.size; have T1 := Lib.hid ht; clear ht)
  go_ret2
  have hlB := T1.out.head.lt
  have hlQ := T1.out.lt
  refine ⟨w1.heap.size, B, Q, rfl, hz1, hB, hQ, ⟨Blk.new _ _ _, fun _ => TS.later (T := rawT n 0) ?_ ((Below.refl _ _).alloc (Nat.le_refl _) _), Nat.zero_le _, HR.out, by omega, by omega⟩, hb1.alloc hz1 _⟩
  exact TS.congr (T := ⟨n, fun _ => 0, fun _ _ => EntS.zero, 0, 0⟩) T1.out rfl (fun i _ => show (if i < 0 then rep 128 else 0) = 0 from if_neg (by omega)) (fun _ _ => rfl) rfl rfl
set_option maxRecDepth 100000 in
set_option maxHeartbeats 1000000 in
theorem bleft_any (D B Q n k : Nat) (tk : Bool) (w : World) (h : BW w D B Q n k tk) :
    Calls Tryd.prog 10 #[.pointer (some ⟨D, 0, none⟩)] w fun e w' => e = .returned (.int .i64 ((n - k : Nat) : Int)) ∧ Below w.heap.size w w' := by
  obtain ⟨c0, c1, c2, hl, hf⟩ := bcells h
  have hn := h.hn
  have hk := h.hk
  have e1 : IntKind.i64.wrap ((n : Int) - (k : Int)) = ((n - k : Nat) : Int) := by rw [IntKind.wrap_i64]; omega
  clear h c0 hf
  go_enter Tryd.func10, Tryd.ntmps10
  go_wp2
  refine wp_region_seq (fun _ => False) #[⟨0, 0, 8, 1, 0⟩, ⟨1, 1, 16, 8, 0⟩, ⟨2, 3, 32, 16, 0⟩, ⟨4, 7, 64, 32, 1⟩, ⟨0, 0, 128, 1, 0⟩, ⟨16, 16, 256, 128, 0⟩, ⟨32, 48, 512, 256, 0⟩, ⟨64, 112, 1024, 512, 1⟩, ⟨136, 255, 2048, 1088, 0⟩, ⟨511, 511, 4, 2048, 0⟩] 136 [(0, 0), (1, 0), (2, 0), (3, 1), (4, 0), (5, 0), (6, 0), (7, 1), (8, 0), (9, 0)] (by kernel_rfl) (by kernel_rfl) (by kernel_rfl) (by kernel_rfl) (by kernel_rfl) (by kernel_rfl) (fun c a d v w h => by cases d <;> exact h) ?_
  refine zqC ?_; refine zqC ?_; refine zqC ?_
  refine zq1 Tryd.underlying3 ?_
  try refine zqP ?_; refine zqC ?_; refine zqC ?_; refine zqC ?_
  refine zq1 Tryd.underlying3 ?_
  try refine zqP ?_; refine zqC ?_; refine zqC ?_
  refine seq_nil ?_
  go_wp2
  go_ret
  exact ⟨rfl, (Below.refl _ _).drew⟩
set_option maxRecDepth 100000 in
set_option maxHeartbeats 4000000 in
theorem bstep_ok (D B Q n k : Nat) (hk : k < n) (M : Nat) (mt : MeterS) (hm : mt.limited = false) (w : World) (h : BW w D B Q n k false) (hM : Blk w M 35 mt.cells) (hMD : M ≠ B ∧ M ≠ Q ∧ M ≠ D) :
    Calls Tryd.prog 73 #[.pointer (some ⟨D, 0, none⟩), .pointer (some ⟨M, 0, none⟩)] w fun e w' =>
      e = .returned (.bool true) ∧ BW w' D B Q n (k + 1) false ∧ Blk w' M 35 ((mt.add 0 1 0).add 0 0 1).cells ∧ Chg (fun b => b = M ∨ b = Q ∨ b = D) w w' := by
  have hn := h.hn
  have LF := Lib.hid (fun (w' : World) (h : BW w' D B Q n k false) => bleft_any D B Q n k false w' h)
  have WK := Lib.hid (fun (w' : World) => working_any (some ⟨M, 0, none⟩) w')
  have PR := Lib.hid (fun (w' : World) (h : TS w' B Q (rawT n k)) (hM : LW w' (some M) mt) => tprepare_ok B Q (rawT n k) hn.1 k hk _ _ (LensAt.m M) mt 0 1 0 w' h hM (fun b e => by cases e; exact ⟨(hM M rfl).lt, hMD.1, hMD.2.1⟩))
  have UN := Lib.hid (fun (w' : World) hm' => unit_free (mt.add 0 1 0) 1 (by decide) hm M 35 w' hm')
  have hnk : (((n - k : Nat) : Int) == 0) = false := by simp; omega
  have e1 : IntKind.i64.wrap ((k : Int) + 1) = ((k + 1 : Nat) : Int) := by rw [IntKind.wrap_i64]; omega
  obtain ⟨c0, c1, c2, hl, hf⟩ := bcells h
  simp only [Bool.false_eq_true, if_false] at c0
  have HB := Lib.hid h
  have HM := Lib.hid hM
  have hMl := hM.lt
  obtain ⟨hM1, hM2, hM3⟩ := hMD
  have hD1 := h.ne.1
  have hD2 := h.ne.2
  clear h hM hn hf
  go_enter Tryd.func73, Tryd.ntmps73
  go_wp2
  refine wp_region_seq (fun b => b = M ∨ b = Q) #[⟨0, 0, 32, 1, 0⟩, ⟨1, 1, 64, 32, 2⟩, ⟨2, 3, 128, 64, 0⟩, ⟨6, 7, 256, 128, 0⟩, ⟨8, 15, 512, 257, 0⟩, ⟨24, 31, 1024, 768, 0⟩, ⟨40, 63, 2048, 1280, 0⟩, ⟨72, 127, 4096, 2304, 1⟩, ⟨8, 15, 8192, 258, 0⟩, ⟨264, 271, 16384, 8448, 2⟩, ⟨8, 15, 32768, 257, 0⟩, ⟨1032, 1039, 65536, 33024, 0⟩, ⟨2056, 3087, 131072, 65792, 0⟩, ⟨4104, 7183, 262144, 131328, 1⟩, ⟨8840, 16383, 524288, 282880, 3⟩, ⟨16392, 32767, 1048576, 524544, 0⟩, ⟨32776, 65535, 2097152, 1048832, 0⟩] 8320 [(0, 0), (1, 2), (2, 0), (3, 0), (4, 0), (5, 0), (6, 0), (7, 1), (8, 0), (10, 0), (11, 0), (12, 0), (13, 1), (9, 2), (14, 3), (15, 0), (16, 0)] (by kernel_rfl) (by kernel_rfl) (by kernel_rfl) (by kernel_rfl) (by kernel_rfl) (by kernel_rfl) (fun c a d v w h => by cases d <;> exact h) ?_
  refine zqC ?_
  refine zqD fun K hK => ?_; go_wp2_with (first | (go_at_call 10; (with_reducible refine (LF.out _ HB.out.drew).mono ?_); rintro e w1 ⟨rfl, hb1⟩; have B1 := Lib.hid (HB.out.drew.later hb1); have M1 := Lib.hid (HM.out.drew.below hb1 HM.out.lt); obtain ⟨d0, d1, d2, dl, df⟩ := bcells B1.out; simp only [Bool.false_eq_true, if_false] at d0) | (go_at_call 75; (with_reducible refine (WK.out _).mono ?_); rintro e w2 ⟨rfl, hb2⟩; have B2 := Lib.hid (B1.out.later hb2); have M2 := Lib.hid (M1.out.below hb2 M1.out.lt); obtain ⟨d20, d21, d22, dl2, df2⟩ := bcells B2.out; simp only [Bool.false_eq_true, if_false] at d20) | (go_at_call 74; (have L2 : LW w2 (some M) mt := (fun M' e => by cases e; exact M2.out); (with_reducible refine (PR.out _ (B2.out.t rfl) L2).mono ?_); rintro e w3 ⟨rfl, ht3, hl3, hc3⟩; have M3 := Lib.hid (hl3 M rfl); have T3 := Lib.hid (rawT_step ht3); have D3 := Lib.hid (B2.out.b.chg hc3 (by rintro (e | e); exact hM3 (Option.some.inj e); exact hD2 e)); have C3 := Lib.hid hc3; clear ht3 hl3))); refine hkA hK (h := ?_); clear hK K
  try refine zqP ?_; refine zqC ?_; refine zqC ?_
  first
    | (refine zqK ?_)
    | (refine zqA ?_)
  try refine zqP ?_
  first
    | (refine zqK ?_)
    | (refine zqA ?_)
  try refine zqP ?_
  first
    | (refine zqK ?_)
    | (refine zqA ?_)
  try refine zqP ?_
  first
    | (refine zqK ?_)
    | (refine zq1 Tryd.underlying74 ?_)
  try refine zqP ?_
  first
    | (refine zqK ?_)
    | (refine zqA ?_)
  try refine zqP ?_
  first
    | (refine zqK ?_)
    | (refine zqA ?_)
  try refine zqP ?_
  first
    | (refine zqK ?_)
    | (refine zqA ?_)
  try refine zqP ?_
  first
    | (refine zqK ?_)
    | (refine zqA ?_)
  try refine zqP ?_
  first
    | (refine zqK ?_)
    | (refine zq1 Tryd.underlying3 ?_)
  try refine zqP ?_
  first
    | (refine zqK ?_)
    | (refine zqD fun K hK => ?_; go_wp2_with (first | (go_at_call 10; (with_reducible refine (LF.out _ HB.out.drew).mono ?_); rintro e w1 ⟨rfl, hb1⟩; have B1 := Lib.hid (HB.out.drew.later hb1); have M1 := Lib.hid (HM.out.drew.below hb1 HM.out.lt); obtain ⟨d0, d1, d2, dl, df⟩ := bcells B1.out; simp only [Bool.false_eq_true, if_false] at d0) | (go_at_call 75; (with_reducible refine (WK.out _).mono ?_); rintro e w2 ⟨rfl, hb2⟩; have B2 := Lib.hid (B1.out.later hb2); have M2 := Lib.hid (M1.out.below hb2 M1.out.lt); obtain ⟨d20, d21, d22, dl2, df2⟩ := bcells B2.out; simp only [Bool.false_eq_true, if_false] at d20) | (go_at_call 74; (have L2 : LW w2 (some M) mt := (fun M' e => by cases e; exact M2.out); (with_reducible refine (PR.out _ (B2.out.t rfl) L2).mono ?_); rintro e w3 ⟨rfl, ht3, hl3, hc3⟩; have M3 := Lib.hid (hl3 M rfl); have T3 := Lib.hid (rawT_step ht3); have D3 := Lib.hid (B2.out.b.chg hc3 (by rintro (e | e); exact hM3 (Option.some.inj e); exact hD2 e)); have C3 := Lib.hid hc3; clear ht3 hl3))); refine hkA hK (h := ?_); clear hK K)
  try refine zqP ?_
  first
    | (refine zqK ?_)
    | (refine zqE fun K hK => ?_; go_wp2_with (first | (go_at_call 10; (with_reducible refine (LF.out _ HB.out.drew).mono ?_); rintro e w1 ⟨rfl, hb1⟩; have B1 := Lib.hid (HB.out.drew.later hb1); have M1 := Lib.hid (HM.out.drew.below hb1 HM.out.lt); obtain ⟨d0, d1, d2, dl, df⟩ := bcells B1.out; simp only [Bool.false_eq_true, if_false] at d0) | (go_at_call 75; (with_reducible refine (WK.out _).mono ?_); rintro e w2 ⟨rfl, hb2⟩; have B2 := Lib.hid (B1.out.later hb2); have M2 := Lib.hid (M1.out.below hb2 M1.out.lt); obtain ⟨d20, d21, d22, dl2, df2⟩ := bcells B2.out; simp only [Bool.false_eq_true, if_false] at d20) | (go_at_call 74; (have L2 : LW w2 (some M) mt := (fun M' e => by cases e; exact M2.out); (with_reducible refine (PR.out _ (B2.out.t rfl) L2).mono ?_); rintro e w3 ⟨rfl, ht3, hl3, hc3⟩; have M3 := Lib.hid (hl3 M rfl); have T3 := Lib.hid (rawT_step ht3); have D3 := Lib.hid (B2.out.b.chg hc3 (by rintro (e | e); exact hM3 (Option.some.inj e); exact hD2 e)); have C3 := Lib.hid hc3; clear ht3 hl3))); refine hK.out _ _ ?_; clear hK K)
  try refine zqP ?_
  first
    | (refine zqK ?_)
    | (refine zqA ?_)
  try refine zqP ?_; refine zqC ?_
  refine seq_nil ?_
  go_wp2_with (go_at_call 76; (with_reducible refine (UN.out _ M3.out).mono ?_); rintro e w4 ⟨rfl, hm4, hc4⟩; have M4 := Lib.hid hm4; have D4 := Lib.hid (D3.out.chg hc4 (fun e => hM3 e.symm)); have T4 := Lib.hid (T3.out.chg hc4 (fun e => hM1 e.symm) (fun e => hM2 e.symm)); have g2 := D4.out.cell 2; have gf := fun j => D4.out.frozen j; have gl := D4.out.lt; have C4 := Lib.hid hc4; clear hm4)
  go_ret
  have hC : Chg (fun b => b = D) w4 (w4.setCell ⟨D, 2, none⟩ (.int .i64 ((k + 1 : Nat) : Int))) := (Chg.refl _ _).set1 _ _
  refine ⟨rfl, ⟨D4.out.set 2 _, fun _ => T4.out.chg hC (fun e => hD1 e.symm) (fun e => hD2 e.symm), hk, HB.out.hr, hD1, hD2⟩, M4.out.chg hC hM3, ?_⟩
  refine Chg.trans (Chg.trans (Chg.trans (Chg.of_below (show Below w.heap.size w w2 from (Below.undrew hb1).trans (hb2.mono hb1.size))) (C3.out.mono (fun b _ e => ?_))) (C4.out.mono (fun b _ e => .inl e))) (hC.mono (fun b _ e => .inr (.inr e)))
  rcases e with e | e
  · exact .inl (Option.some.inj e).symm
  · exact .inr (.inl e)
end Go.Proofs.YtolhmibejhldkaaDoor

namespace Go.Proofs.YtolhmibejhldkaaDoor
open Go.RowKit Go.Proofs
theorem run_store_float {P : Program} {w : World} {a : Addr} {m : _} (k : FloatKind) (b : Nat) : (store a (.float k b) m).run P w = stored P w a (.float k b) m := run_store P w a _ m rfl
attribute [local go_sem] run_store_float
section
variable {w : World} {B o : Nat} {T : TypeId} {cs : Array Value}
theorem credit_balance (n : Int) (h : Blk w B T cs) (hn : cs[o]? = some (.int .i64 n)) : Calls Tryd.prog 49 #[.pointer (some ⟨B, o, none⟩)] w fun e w' => e = .returned (.int .i64 n) ∧ w = w' := by
  have c0 : w.cell? ⟨B, o, none⟩ = some (.int .i64 n) := (h.cell o).trans hn
  have z0 := h.lt
  clear h
  go_enter Tryd.func49, Tryd.ntmps49
  go_wp2
  go_ret
  exact ⟨rfl, rfl⟩
theorem credit_spend_yes (n : Int) (h : Blk w B T cs) (hn : cs[o]? = some (.int .i64 n)) (h1 : 1 ≤ n) (h2 : n ≤ 1000000) : Calls Tryd.prog 47 #[.pointer (some ⟨B, o, none⟩), .int .i64 1] w fun e w' => e = .returned (.bool true) ∧ w.setCell ⟨B, o, none⟩ (.int .i64 (n - 1)) = w' := by
  have c0 : w.cell? ⟨B, o, none⟩ = some (.int .i64 n) := (h.cell o).trans hn
  have f0 := h.frozen o
  have z0 := h.lt
  have hw : IntKind.i64.wrap (n - 1) = n - 1 := by rw [IntKind.wrap_i64]; omega
  have hb : ¬ n < 1 := by omega
  clear h
  go_enter Tryd.func47, Tryd.ntmps47
  go_wp2
  go_ret
  exact ⟨rfl, rfl⟩
theorem credit_spend_no (h : Blk w B T cs) (hn : cs[o]? = some (.int .i64 0)) : Calls Tryd.prog 47 #[.pointer (some ⟨B, o, none⟩), .int .i64 1] w fun e w' => e = .returned (.bool false) ∧ w = w' := by
  have c0 : w.cell? ⟨B, o, none⟩ = some (.int .i64 0) := (h.cell o).trans hn
  have z0 := h.lt
  clear h
  go_enter Tryd.func47, Tryd.ntmps47
  go_wp2
  go_ret
  exact ⟨rfl, rfl⟩
theorem credit_deposit (n : Int) (h : Blk w B T cs) (hn : cs[o]? = some (.int .i64 0)) (h1 : 0 ≤ n ∧ n ≤ 1000000) : Calls Tryd.prog 45 #[.pointer (some ⟨B, o, none⟩), .int .i64 n] w fun e w' => e = .returned (.int .i64 n) ∧ w.setCell ⟨B, o, none⟩ (.int .i64 n) = w' := by
  have c0 : w.cell? ⟨B, o, none⟩ = some (.int .i64 0) := (h.cell o).trans hn
  have f0 := h.frozen o
  have z0 := h.lt
  have hw : IntKind.i64.wrap n = n := by rw [IntKind.wrap_i64]; omega
  have hm : max n 0 = n := by omega
  have hm2 : min n 1099511627776 = n := by omega
  clear h
  go_enter Tryd.func45, Tryd.ntmps45
  go_wp2
  go_ret
  exact ⟨by simp [hm, hm2], by simp [hm, hm2, hw]⟩
theorem credit_drop (n : Int) (fx : _) (h : Blk w B T cs) (hn : cs[5]? = some (.int .i64 n)) (hr : cs[6]? = some (.float .f64 fx)) : Calls Tryd.prog 44 #[.pointer (some ⟨B, 5, none⟩)] w fun e w' => e = .returned (.int .i64 n) ∧ (w.setCell ⟨B, 5, none⟩ (.int .i64 0)).setCell ⟨B, 6, none⟩ (.float .f64 0) = w' := by
  have c0 : w.cell? ⟨B, 5, none⟩ = some (.int .i64 n) := (h.cell 5).trans hn
  have c1 : w.cell? ⟨B, 6, none⟩ = some (.float .f64 fx) := (h.cell 6).trans hr
  have f0 := fun j => h.frozen j
  have z0 := h.lt
  clear h
  go_enter Tryd.func44, Tryd.ntmps44
  go_wp2
  go_ret
  exact ⟨rfl, rfl⟩
end
end Go.Proofs.YtolhmibejhldkaaDoor

namespace Go.Proofs.YtolhmibejhldkaaDoor
open Go.RowKit Go.Proofs
attribute [local go_sem] neq_nilG
structure JB where
  D : Nat
  B : Nat
  Q : Nat
  n : Nat
def JX (p : JB) (b : Nat) : Prop := b = p.D ∨ b = p.B ∨ b = p.Q
structure SW (w : World) (Sb QB QR mb nm : Nat) (k : Int) (js : List (Int × Nat)) (g : Int → JB) (bal sp : Int) (M : Nat) : Prop where
  b : ∃ fz, Blk w Sb 67 #[.int .i64 k, .int .i64 1, .int .i64 1, .pointer (some ⟨QB, 0, none⟩), .map (some mb), .int .i64 bal, .float .f64 fz, .int .i64 sp]
  q : QL w QB QR 40 (jIds js)
  m : JM Tryd.prog 3 28 w mb nm (jIds js) (fun x => (g x).D)
  nd : (jIds js).Nodup
  j : ∀ p ∈ js, p.2 ≤ (g p.1).n ∧ BW w (g p.1).D (g p.1).B (g p.1).Q (g p.1).n ((g p.1).n - p.2) false
  ap : ∀ x ∈ jIds js, ∀ y ∈ jIds js, x ≠ y → ∀ b, JX (g x) b → ¬ JX (g y) b
  ax : ∀ x ∈ jIds js, ∀ b, JX (g x) b → b ≠ Sb ∧ b ≠ QB ∧ b ≠ QR ∧ b ≠ mb ∧ b ≠ M
  s : Sb ≠ QB ∧ Sb ≠ QR ∧ Sb ≠ mb ∧ Sb ≠ M ∧ QB ≠ mb ∧ QR ≠ mb ∧ QB ≠ M ∧ QR ≠ M ∧ mb ≠ M
def SX (Sb QB QR mb : Nat) (js : List (Int × Nat)) (g : Int → JB) (b : Nat) : Prop := b = Sb ∨ b = QB ∨ b = QR ∨ b = mb ∨ ∃ x ∈ jIds js, JX (g x) b
theorem get_mem : ∀ {js : List (Int × Nat)} {x : Int}, x ∈ jIds js → (x, jGet js x) ∈ js
  | [], _, h => by cases h
  | p :: r, x, h => by
    unfold jGet
    by_cases e : p.1 = x
    · rw [if_pos e, ← e]; exact List.mem_cons_self
    · rw [if_neg e]
      exact List.mem_cons_of_mem _ (get_mem ((List.mem_cons.1 (show x ∈ p.1 :: jIds r from h)).resolve_left (fun e2 => e e2.symm)))
theorem get_of_mem : ∀ {js : List (Int × Nat)} {p : Int × Nat}, (jIds js).Nodup → p ∈ js → jGet js p.1 = p.2
  | [], _, _, h => by cases h
  | q :: r, p, hd, h => by
    have hd' : q.1 ∉ jIds r ∧ (jIds r).Nodup := List.nodup_cons.1 hd
    unfold jGet
    rcases List.mem_cons.1 h with rfl | h
    · rw [if_pos rfl]
    · rw [if_neg (fun e => hd'.1 (by rw [e]; exact List.mem_map.2 ⟨p, h, rfl⟩)), get_of_mem hd'.2 h]
theorem mem_ids {js : List (Int × Nat)} {p : Int × Nat} (h : p ∈ js) : p.1 ∈ jIds js := List.mem_map.2 ⟨p, h, rfl⟩
section
variable {w w' : World} {Sb QB QR mb nm M : Nat} {k : Int} {js : List (Int × Nat)} {g : Int → JB} {bal sp : Int}
theorem SW.bw (h : SW w Sb QB QR mb nm k js g bal sp M) {x : Int} (hx : x ∈ jIds js) : jGet js x ≤ (g x).n ∧ BW w (g x).D (g x).B (g x).Q (g x).n ((g x).n - jGet js x) false := h.j _ (get_mem hx)
theorem BW.jlt {p : JB} {i : Nat} {b : Nat} (h : BW w p.D p.B p.Q p.n i false) (hb : JX p b) : b < w.heap.size := by
  rcases hb with e | e | e
  · rw [e]; exact h.b.lt
  · rw [e]; exact (h.t rfl).head.lt
  · rw [e]; exact (h.t rfl).lt
theorem SW.lt (h : SW w Sb QB QR mb nm k js g bal sp M) : ∀ b, SX Sb QB QR mb js g b → b < w.heap.size := fun b hb => by
  obtain ⟨fz, h0⟩ := h.b
  rcases hb with e | e | e | e | ⟨x, hx, e⟩
  · rw [e]; exact h0.lt
  · rw [e]; exact h.q.lt.1
  · rw [e]; exact h.q.lt.2.1
  · rw [e]; exact h.m.lt
  · exact (h.bw hx).2.jlt e
theorem SW.chg {X : Nat → Prop} (h : SW w Sb QB QR mb nm k js g bal sp M) (hc : Chg X w w') (hX : ∀ b, SX Sb QB QR mb js g b → ¬ X b) : SW w' Sb QB QR mb nm k js g bal sp M := by
  obtain ⟨fz, h0⟩ := h.b
  exact ⟨⟨fz, h0.chg hc (hX _ (.inl rfl))⟩, h.q.chg hc (hX _ (.inr (.inl rfl))) (hX _ (.inr (.inr (.inl rfl)))), h.m.chg hc (hX _ (.inr (.inr (.inr (.inl rfl))))), h.nd,
    fun p hp => ⟨(h.j p hp).1, (h.j p hp).2.chg hc (hX _ (.inr (.inr (.inr (.inr ⟨_, mem_ids hp, .inl rfl⟩))))) (hX _ (.inr (.inr (.inr (.inr ⟨_, mem_ids hp, .inr (.inl rfl)⟩))))) (hX _ (.inr (.inr (.inr (.inr ⟨_, mem_ids hp, .inr (.inr rfl)⟩)))))⟩, h.ap, h.ax, h.s⟩
theorem SW.later (h : SW w Sb QB QR mb nm k js g bal sp M) (hb : Below w.heap.size w w') : SW w' Sb QB QR mb nm k js g bal sp M := h.chg (X := fun _ => False) (Chg.of_below hb) (fun _ _ e => e)
theorem SW.setM {M' : Nat} (h : SW w Sb QB QR mb nm k js g bal sp M) (hM : w.heap.size ≤ M') : SW w Sb QB QR mb nm k js g bal sp M' := by
  have hl := h.lt
  have h1 := hl Sb (.inl rfl)
  have h2 := hl QB (.inr (.inl rfl))
  have h3 := hl QR (.inr (.inr (.inl rfl)))
  have h4 := hl mb (.inr (.inr (.inr (.inl rfl))))
  obtain ⟨s1, s2, s3, -, s5, s6, -⟩ := h.s
  exact ⟨h.b, h.q, h.m, h.nd, h.j, h.ap, fun x hx b hb => by
    obtain ⟨a1, a2, a3, a4, -⟩ := h.ax x hx b hb
    have := hl b (.inr (.inr (.inr (.inr ⟨x, hx, hb⟩))))
    exact ⟨a1, a2, a3, a4, by omega⟩, ⟨s1, s2, s3, by omega, s5, s6, by omega, by omega, by omega⟩⟩
theorem SW.own {bal' sp' : Int} (h : SW w Sb QB QR mb nm k js g bal sp M) (hb : ∃ fz, Blk w' Sb 67 #[.int .i64 k, .int .i64 1, .int .i64 1, .pointer (some ⟨QB, 0, none⟩), .map (some mb), .int .i64 bal', .float .f64 fz, .int .i64 sp']) (hc : Chg (fun b => b = Sb) w w') : SW w' Sb QB QR mb nm k js g bal' sp' M := by
  obtain ⟨s1, s2, s3, s4, s5, s6, s7, s8, s9⟩ := h.s
  exact ⟨hb, h.q.chg hc (fun e => s1 e.symm) (fun e => s2 e.symm), h.m.chg hc (fun e => s3 e.symm), h.nd,
    fun p hp => ⟨(h.j p hp).1, (h.j p hp).2.chg hc (h.ax _ (mem_ids hp) _ (.inl rfl)).1 (h.ax _ (mem_ids hp) _ (.inr (.inl rfl))).1 (h.ax _ (mem_ids hp) _ (.inr (.inr rfl))).1⟩, h.ap, h.ax, h.s⟩
theorem SW.cells (h : SW w Sb QB QR mb nm k js g bal sp M) : w.cell? ⟨Sb, 0, none⟩ = some (.int .i64 k) ∧ w.cell? ⟨Sb, 1, none⟩ = some (.int .i64 1) ∧ w.cell? ⟨Sb, 2, none⟩ = some (.int .i64 1) ∧ w.cell? ⟨Sb, 3, none⟩ = some (.pointer (some ⟨QB, 0, none⟩)) ∧ w.cell? ⟨Sb, 4, none⟩ = some (.map (some mb)) ∧ w.cell? ⟨Sb, 5, none⟩ = some (.int .i64 bal) ∧ w.cell? ⟨Sb, 7, none⟩ = some (.int .i64 sp) ∧ Sb < w.heap.size := by
  obtain ⟨fz, h0⟩ := h.b
  exact ⟨h0.cell 0, h0.cell 1, h0.cell 2, h0.cell 3, h0.cell 4, h0.cell 5, h0.cell 7, h0.lt⟩
theorem SW.stepped {x : Int} (h : SW w Sb QB QR mb nm k js g bal sp M) (hx : x ∈ jIds js) (h1 : 1 ≤ jGet js x) (hb : BW w' (g x).D (g x).B (g x).Q (g x).n ((g x).n - jGet js x + 1) false) (hc : Chg (fun b => b = M ∨ b = (g x).Q ∨ b = (g x).D) w w') : SW w' Sb QB QR mb nm k (jSub js x 1) g bal sp M := by
  have hax := h.ax x hx
  have hQ := hax _ (.inr (.inr rfl))
  have hD := hax _ (.inl rfl)
  obtain ⟨fz, h0⟩ := h.b
  obtain ⟨s1, s2, s3, s4, s5, s6, s7, s8, s9⟩ := h.s
  have hid := sub_ids js x 1
  refine ⟨⟨fz, h0.chg hc (fun e => by rcases e with e | e | e; exact s4 e; exact hQ.1 e.symm; exact hD.1 e.symm)⟩, by rw [hid]; exact h.q.chg hc (fun e => by rcases e with e | e | e; exact s7 e; exact hQ.2.1 e.symm; exact hD.2.1 e.symm) (fun e => by rcases e with e | e | e; exact s8 e; exact hQ.2.2.1 e.symm; exact hD.2.2.1 e.symm),
    by rw [hid]; exact h.m.chg hc (fun e => by rcases e with e | e | e; exact s9 e; exact hQ.2.2.2.1 e.symm; exact hD.2.2.2.1 e.symm), by rw [hid]; exact h.nd, fun p hp => ?_, by rw [hid]; exact h.ap, by rw [hid]; exact h.ax, h.s⟩
  obtain ⟨q, hq, rfl⟩ := List.mem_map.1 (show p ∈ js.map (fun p => if p.1 = x then (p.1, p.2 - 1) else p) from hp)
  obtain ⟨j1, j2⟩ := h.j q hq
  by_cases e : q.1 = x
  · rw [if_pos e]
    have hg := get_of_mem h.nd hq
    rw [e] at hg j1
    show q.2 - 1 ≤ (g q.1).n ∧ BW w' (g q.1).D (g q.1).B (g q.1).Q (g q.1).n ((g q.1).n - (q.2 - 1)) false
    rw [e]
    rw [hg] at hb h1
    refine ⟨by omega, ?_⟩
    rw [show (g x).n - (q.2 - 1) = (g x).n - q.2 + 1 by omega]
    exact hb
  · rw [if_neg e]
    have hqi := mem_ids hq
    have hn := h.ap q.1 hqi x hx e
    have ha := h.ax q.1 hqi
    refine ⟨j1, j2.chg hc (fun e2 => ?_) (fun e2 => ?_) (fun e2 => ?_)⟩
    · rcases e2 with e2 | e2 | e2
      · exact (ha _ (.inl rfl)).2.2.2.2 e2
      · exact hn _ (.inl rfl) (.inr (.inr e2))
      · exact hn _ (.inl rfl) (.inl e2)
    · rcases e2 with e2 | e2 | e2
      · exact (ha _ (.inr (.inl rfl))).2.2.2.2 e2
      · exact hn _ (.inr (.inl rfl)) (.inr (.inr e2))
      · exact hn _ (.inr (.inl rfl)) (.inl e2)
    · rcases e2 with e2 | e2 | e2
      · exact (ha _ (.inr (.inr rfl))).2.2.2.2 e2
      · exact hn _ (.inr (.inr rfl)) (.inr (.inr e2))
      · exact hn _ (.inr (.inr rfl)) (.inl e2)
end
theorem nil_ahead_left (a : Addr) (w : World) : (nilAhead 275 28 (.pointer (some a)) "Left").run Tryd.prog w = .ok (some false) w := by kernel_rfl
theorem method_left (a : Addr) (w : World) : (method 275 28 (.pointer (some a)) "Left").run Tryd.prog w = .ok (10, .pointer (some a)) w := by kernel_rfl
theorem nil_ahead_step (a : Addr) (w : World) : (nilAhead 275 28 (.pointer (some a)) "Step").run Tryd.prog w = .ok (some false) w := by kernel_rfl
theorem method_step (a : Addr) (w : World) : (method 275 28 (.pointer (some a)) "Step").run Tryd.prog w = .ok (73, .pointer (some a)) w := by kernel_rfl
end Go.Proofs.YtolhmibejhldkaaDoor

namespace Go.Proofs.YtolhmibejhldkaaDoor
open Go.RowKit Go.Proofs
attribute [local go_sem] neq_nilG
section
variable {w w' : World} {Sb QB QR mb nm M : Nat} {k : Int} {js : List (Int × Nat)} {g : Int → JB} {bal sp : Int}
theorem sspent_any (h : SW w Sb QB QR mb nm k js g bal sp M) : Calls Tryd.prog 16 #[.pointer (some ⟨Sb, 0, none⟩)] w fun e w' => e = .returned (.int .i64 sp) ∧ w = w' := by
  obtain ⟨c0, c1, c2, c3, c4, c5, c7, z⟩ := h.cells
  clear h
  go_enter Tryd.func16, Tryd.ntmps16
  go_wp2
  go_ret
  exact ⟨rfl, rfl⟩
theorem shas_any (x : Int) (h : SW w Sb QB QR mb nm k js g bal sp M) : Calls Tryd.prog 13 #[.pointer (some ⟨Sb, 0, none⟩), .int .i64 x] w fun e w' => e = .returned (.bool (decide (x ∈ jIds js))) ∧ Below w.heap.size w w' := by
  have HA := Lib.hid (has_any QB QR 40 (jIds js) x w h.q)
  obtain ⟨c0, c1, c2, c3, c4, c5, c7, z⟩ := h.cells
  clear h
  go_enter Tryd.func13, Tryd.ntmps13
  go_wp2_with (go_at_call 35; (with_reducible refine HA.out.mono ?_); rintro e w1 ⟨rfl, hb1⟩)
  go_ret
  exact ⟨rfl, hb1⟩
theorem SW.cut {x : Int} (h : SW w Sb QB QR mb nm k js g bal sp M) (hq : QL w' QB QR 40 (cutL (jIds js) x)) (hm : JM Tryd.prog 3 28 w' mb nm (cutL (jIds js) x) (fun x => (g x).D)) (hc : Chg (fun b => b = QB ∨ b = QR ∨ b = mb) w w') :
    SW w' Sb QB QR mb nm k (js.filter fun p => decide (p.1 ≠ x)) g bal sp M := by
  have hi : jIds (js.filter fun p => decide (p.1 ≠ x)) = cutL (jIds js) x := by
    unfold jIds cutL
    rw [List.filter_map]
    rfl
  have hs : ∀ y, y ∈ cutL (jIds js) x → y ∈ jIds js := fun y hy => (List.mem_filter.1 hy).1
  obtain ⟨fz, h0⟩ := h.b
  obtain ⟨s1, s2, s3, s4, s5, s6, s7, s8, s9⟩ := h.s
  refine ⟨⟨fz, h0.chg hc (fun e => by rcases e with e | e | e; exact s1 e; exact s2 e; exact s3 e)⟩, by rw [hi]; exact hq, by rw [hi]; exact hm, by rw [hi]; exact cutL_nodup h.nd x, fun p hp => ?_, by rw [hi]; exact fun a ha b hb => h.ap a (hs a ha) b (hs b hb), by rw [hi]; exact fun a ha => h.ax a (hs a ha), h.s⟩
  have hp' := (List.mem_filter.1 hp).1
  obtain ⟨j1, j2⟩ := h.j p hp'
  have ha := h.ax p.1 (mem_ids hp')
  have hf : ∀ b, JX (g p.1) b → ¬ (b = QB ∨ b = QR ∨ b = mb) := fun b hb e => by
    have := ha b hb
    rcases e with e | e | e
    · exact this.2.1 e
    · exact this.2.2.1 e
    · exact this.2.2.2.1 e
  exact ⟨j1, j2.chg hc (hf _ (.inl rfl)) (hf _ (.inr (.inl rfl))) (hf _ (.inr (.inr rfl)))⟩
theorem ids_wf (h : SW w Sb QB QR mb nm k js g bal sp M) : ∀ x ∈ jIds js, (Lit.int .i64 x).wf = true := h.m.r
theorem sremove_any (x : Int) (hx : (Lit.int .i64 x).wf = true) (h : SW w Sb QB QR mb nm k js g bal sp M) : Calls Tryd.prog 20 #[.pointer (some ⟨Sb, 0, none⟩), .int .i64 x] w fun e w' =>
    e = .returned (.bool (decide (x ∈ jIds js))) ∧ SW w' Sb QB QR mb nm k (js.filter fun p => decide (p.1 ≠ x)) g bal sp M ∧ Chg (fun b => b = QB ∨ b = QR ∨ b = mb) w w' := by
  have H := Lib.hid h
  obtain ⟨w1, hrun, hm1, hc1⟩ := h.m.del Tryd.underlying3 Tryd.underlying62 x hx 0
  obtain ⟨s1, s2, s3, s4, s5, s6, s7, s8, s9⟩ := h.s
  have HQ := Lib.hid (remove_any QB QR 40 (jIds js) x h.nd w1 (h.q.chg hc1 s5 s6))
  have HM := Lib.hid hm1
  have HC := Lib.hid hc1
  have hz1 := hc1.size
  obtain ⟨c0, c1, c2, c3, c4, c5, c7, z⟩ := h.cells
  have d3 := (hc1.cell (p := ⟨Sb, 3, none⟩) z s3).trans c3
  have z1 : Sb < w1.heap.size := Nat.lt_of_lt_of_le z hz1
  clear h hm1 hc1
  go_enter Tryd.func20, Tryd.ntmps20
  go_wp2_with (go_at_call 41; (with_reducible refine HQ.out.mono ?_); rintro e w2 ⟨rfl, hq2, hc2⟩; have Q2 := Lib.hid hq2; have C2 := Lib.hid hc2; clear hq2 hc2)
  go_ret
  have hcc : Chg (fun b => b = QB ∨ b = QR ∨ b = mb) w w2 := (HC.out.mono (fun b _ e => .inr (.inr e))).trans (C2.out.mono (fun b _ e => by rcases e with e | e; exact .inl e; exact .inr (.inl e)))
  exact ⟨rfl, H.out.cut Q2.out (HM.out.chg C2.out (fun e => by rcases e with e | e; exact s5 e.symm; exact s6 e.symm)) hcc, hcc⟩
end
end Go.Proofs.YtolhmibejhldkaaDoor

namespace Go.Proofs.YtolhmibejhldkaaDoor
open Go.RowKit Go.Proofs
attribute [local go_sem] neq_nilG nil_ahead_left method_left nil_ahead_step method_step
section
variable {w w' : World} {Sb QB QR mb nm M : Nat} {k : Int} {js : List (Int × Nat)} {g : Int → JB} {bal sp : Int}
theorem sfund_any (n : Int) (hn : 0 ≤ n ∧ n ≤ 1000000) (h : SW w Sb QB QR mb nm k js g bal sp M) : Calls Tryd.prog 30 #[.pointer (some ⟨Sb, 0, none⟩), .int .i64 n] w fun e w' =>
    e = .returned (.tuple #[]) ∧ SW w' Sb QB QR mb nm k js g n sp M ∧ Chg (fun b => b = Sb) w w' := by
  have H := Lib.hid h
  obtain ⟨fz, hb⟩ := h.b
  have z := hb.lt
  have D1 := Lib.hid (credit_drop bal fz hb rfl rfl)
  have D2 := Lib.hid (credit_deposit (o := 5) n ((hb.set 5 (.int .i64 0)).set 6 (.float .f64 0)) rfl hn)
  have HB := Lib.hid hb
  clear h hb
  go_enter Tryd.func30, Tryd.ntmps30
  go_wp2_with (first
    | (go_at_call 44; (with_reducible refine D1.out.mono ?_); rintro e w1 ⟨rfl, rfl⟩)
    | (go_at_call 45; (with_reducible refine D2.out.mono ?_); rintro e w2 ⟨rfl, rfl⟩))
  go_end0
  have hc : Chg (fun b => b = Sb) w _ := (((Chg.refl (fun b => b = Sb) w).set1 5 (.int .i64 0)).set1 6 (.float .f64 0)).set1 5 (.int .i64 n)
  exact ⟨rfl, H.out.own ⟨0, ((HB.out.set 5 _).set 6 _).set 5 _⟩ hc, hc⟩
theorem sstep_yes {x : Int} {mt : MeterS} (hx : x ∈ jIds js) (hl : 1 ≤ jGet js x) (hb : 1 ≤ bal ∧ bal ≤ 1000000) (hsp : 0 ≤ sp ∧ sp ≤ 1000000) (h : SW w Sb QB QR mb nm k js g bal sp M) (hM : Blk w M 35 mt.cells) (hm : mt.limited = false) :
    Calls Tryd.prog 32 #[.pointer (some ⟨Sb, 0, none⟩), .pointer (some ⟨M, 0, none⟩), .iface 28 (.pointer (some ⟨(g x).D, 0, none⟩))] w fun e w' =>
      e = .returned (.bool true) ∧ SW w' Sb QB QR mb nm k (jSub js x 1) g (bal - 1) (sp + 1) M ∧ Blk w' M 35 ((mt.add 0 1 0).add 0 0 1).cells ∧ Chg (fun b => b = M ∨ b = Sb ∨ JX (g x) b) w w' := by
  obtain ⟨j1, j2⟩ := h.bw hx
  have H := Lib.hid h
  have HJ := Lib.hid j2
  have hax := h.ax x hx
  obtain ⟨s1, s2, s3, s4, s5, s6, s7, s8, s9⟩ := h.s
  obtain ⟨fz, hb0⟩ := h.b
  have HB := Lib.hid hb0
  have LE := Lib.hid (bleft_any (g x).D (g x).B (g x).Q (g x).n ((g x).n - jGet js x) false w j2)
  rw [show (g x).n - ((g x).n - jGet js x) = jGet js x by omega] at LE
  have SP := Lib.hid (fun (w' : World) (h' : Blk w' Sb 67 #[.int .i64 k, .int .i64 1, .int .i64 1, .pointer (some ⟨QB, 0, none⟩), .map (some mb), .int .i64 bal, .float .f64 fz, .int .i64 sp]) => credit_spend_yes (o := 5) bal h' rfl hb.1 hb.2)
  have ST := Lib.hid (fun (w' : World) (h' : BW w' (g x).D (g x).B (g x).Q (g x).n ((g x).n - jGet js x) false) (hM' : Blk w' M 35 mt.cells) => bstep_ok (g x).D (g x).B (g x).Q (g x).n ((g x).n - jGet js x) (by omega) M mt hm w' h' hM' ⟨(hax _ (.inr (.inl rfl))).2.2.2.2.symm, (hax _ (.inr (.inr rfl))).2.2.2.2.symm, (hax _ (.inl rfl)).2.2.2.2.symm⟩)
  have HM := Lib.hid hM
  have HN := Lib.hid (show ¬ (g x).D = Sb ∧ ¬ (g x).B = Sb ∧ ¬ (g x).Q = Sb from ⟨(hax _ (.inl rfl)).1, (hax _ (.inr (.inl rfl))).1, (hax _ (.inr (.inr rfl))).1⟩)
  obtain ⟨l, hll⟩ : ∃ l, l = jGet js x := ⟨_, rfl⟩
  have HL := Lib.hid hll
  rw [← hll] at LE
  have hl1 : ¬ (l : Int) < 1 := by omega
  obtain ⟨D, hD⟩ : ∃ D, D = (g x).D := ⟨_, rfl⟩
  rw [← hD] at HJ HN LE ST ⊢
  have HDe := Lib.hid hD
  have hw : IntKind.i64.wrap (sp + 1) = sp + 1 := by rw [IntKind.wrap_i64]; omega
  clear h j2 hb0 hM hax hll hD hb
  go_enter Tryd.func32, Tryd.ntmps32
  go_wp2_with (first
    | (go_at_call 10; (with_reducible refine LE.out.mono ?_); rintro e w1 ⟨rfl, hb1⟩; have B1 := Lib.hid (HB.out.below hb1 HB.out.lt); have J1 := Lib.hid (HJ.out.later hb1); have M1 := Lib.hid (HM.out.below hb1 HM.out.lt); have S1 := Lib.hid (H.out.later hb1); have zS := B1.out.lt)
    | (go_at_call 47; (with_reducible refine (SP.out _ B1.out).mono ?_); rintro e w2 ⟨rfl, rfl⟩; have B2 := Lib.hid (B1.out.set 5 (.int .i64 (bal - 1))); have c7 := B2.out.cell 7; have f7 := B2.out.frozen 7; have z2 := B2.out.lt)
    | (go_at_call 73; ((with_reducible refine (ST.out _ (J1.out.chg (((Chg.refl (fun b => b = Sb) _).set1 5 _).set1 7 _) HN.out.1 HN.out.2.1 HN.out.2.2) (M1.out.chg (((Chg.refl (fun b => b = Sb) _).set1 5 _).set1 7 _) s4.symm)).mono ?_); rintro e w3 ⟨rfl, hw3, hm3, hc3⟩; have W3 := Lib.hid hw3; have M3 := Lib.hid hm3; have C3 := Lib.hid hc3; clear hw3 hm3 hc3)))
  go_ret
  have hd := HDe.out
  subst hd
  have c1 : Chg (fun b => b = Sb) w1 _ := ((Chg.refl (fun b => b = Sb) w1).set1 5 (.int .i64 (bal - 1))).set1 7 (.int .i64 (sp + 1))
  have h1 := (S1.out.own ⟨fz, (B1.out.set 5 (.int .i64 (bal - 1))).set 7 (.int .i64 (sp + 1))⟩ c1).stepped hx hl W3.out C3.out
  exact ⟨rfl, h1, M3.out, ((Chg.of_below hb1).trans (c1.mono fun b _ e => .inr (.inl e))).trans (C3.out.mono fun b _ e => by rcases e with e | e | e; exact .inl e; exact .inr (.inr (.inr (.inr e))); exact .inr (.inr (.inl e)))⟩
theorem sstep_no {x : Int} (hx : x ∈ jIds js) (hl : jGet js x = 0 ∨ bal = 0) (p : Option Addr) (h : SW w Sb QB QR mb nm k js g bal sp M) :
    Calls Tryd.prog 32 #[.pointer (some ⟨Sb, 0, none⟩), .pointer p, .iface 28 (.pointer (some ⟨(g x).D, 0, none⟩))] w fun e w' =>
      e = .returned (.bool false) ∧ Below w.heap.size w w' := by
  obtain ⟨j1, j2⟩ := h.bw hx
  obtain ⟨fz, hb0⟩ := h.b
  have HB := Lib.hid hb0
  have LE := Lib.hid (bleft_any (g x).D (g x).B (g x).Q (g x).n ((g x).n - jGet js x) false w j2)
  rw [show (g x).n - ((g x).n - jGet js x) = jGet js x by omega] at LE
  obtain ⟨D, hD⟩ : ∃ D, D = (g x).D := ⟨_, rfl⟩
  rw [← hD] at LE ⊢
  clear hD j1 j2
  by_cases hz : jGet js x = 0
  · rw [hz] at LE
    have hz1 : ((0 : Nat) : Int) < 1 := by decide
    clear hl h hb0
    go_enter Tryd.func32, Tryd.ntmps32
    go_wp2_with (go_at_call 10; (with_reducible refine LE.out.mono ?_); rintro e w1 ⟨rfl, hb1⟩)
    go_ret
    exact ⟨rfl, hb1⟩
  · obtain rfl : bal = 0 := hl.resolve_left hz
    obtain ⟨l, hll⟩ : ∃ l, l = jGet js x := ⟨_, rfl⟩
    rw [← hll] at LE hz
    have hl1 : ¬ (l : Int) < 1 := by omega
    have SP := Lib.hid (fun (w' : World) (h' : Blk w' Sb 67 #[.int .i64 k, .int .i64 1, .int .i64 1, .pointer (some ⟨QB, 0, none⟩), .map (some mb), .int .i64 0, .float .f64 fz, .int .i64 sp]) => credit_spend_no (o := 5) h' rfl)
    have zS := hb0.lt
    clear hl hll h hb0 hz
    go_enter Tryd.func32, Tryd.ntmps32
    go_wp2_with (first
      | (go_at_call 10; (with_reducible refine LE.out.mono ?_); rintro e w1 ⟨rfl, hb1⟩; have B1 := Lib.hid (HB.out.below hb1 HB.out.lt); have z1 := B1.out.lt)
      | (go_at_call 47; (with_reducible refine (SP.out _ B1.out).mono ?_); rintro e w2 ⟨rfl, rfl⟩))
    go_ret
    exact ⟨rfl, hb1⟩
end
end Go.Proofs.YtolhmibejhldkaaDoor

namespace Go.Proofs.YtolhmibejhldkaaDoor
open Go.RowKit Go.Proofs
attribute [local go_sem] neq_nilG nil_ahead_left method_left nil_ahead_step method_step
def mUp (mt : MeterS) : Nat → MeterS
  | 0 => mt
  | n + 1 => ((mUp mt n).add 0 1 0).add 0 0 1
theorem mUp_lim (mt : MeterS) : ∀ n, (mUp mt n).limited = mt.limited
  | 0 => rfl
  | n + 1 => mUp_lim mt n
theorem sub_head {x : Int} {l : Nat} {r : List (Int × Nat)} (hd : (jIds ((x, l + 1) :: r)).Nodup) : jSub ((x, l + 1) :: r) x 1 = (x, l) :: r := by
  have hx : x ∉ jIds r := (List.nodup_cons.1 hd).1
  show (if x = x then (x, l + 1 - 1) else (x, l + 1)) :: jSub r x 1 = _
  rw [if_pos rfl]
  congr 1
  unfold jSub
  refine (List.map_congr_left fun p hp => ?_).trans (List.map_id r)
  rw [if_neg (fun (e : p.1 = x) => hx (e ▸ mem_ids hp))]; rfl
theorem cut_head {x : Int} {l : Nat} {r : List (Int × Nat)} (hd : (jIds ((x, l) :: r)).Nodup) : (((x, l) :: r).filter fun p => decide (p.1 ≠ x)) = r := by
  have hx : x ∉ jIds r := (List.nodup_cons.1 hd).1
  rw [List.filter_cons_of_neg (by simp)]
  exact List.filter_eq_self.2 fun p hp => by simpa using fun (e : p.1 = x) => hx (e ▸ mem_ids hp)
theorem get_head (x : Int) (l : Nat) (r : List (Int × Nat)) : jGet ((x, l) :: r) x = l := by unfold jGet; rw [if_pos rfl]
theorem SX.mono {Sb QB QR mb : Nat} {js j1 : List (Int × Nat)} {g : Int → JB} (hs : ∀ x, x ∈ jIds j1 → x ∈ jIds js) {b : Nat} (h : SX Sb QB QR mb j1 g b) : SX Sb QB QR mb js g b := by
  rcases h with e | e | e | e | ⟨x, hx, e⟩
  · exact .inl e
  · exact .inr (.inl e)
  · exact .inr (.inr (.inl e))
  · exact .inr (.inr (.inr (.inl e)))
  · exact .inr (.inr (.inr (.inr ⟨x, hs x hx, e⟩)))
section
variable {w w' : World} {Sb QB QR mb nm M : Nat} {k : Int} {js : List (Int × Nat)} {g : Int → JB} {bal sp : Int}
theorem SW.look (h : SW w Sb QB QR mb nm k js g bal sp M) {x : Int} (hx : x ∈ jIds js) {D : Nat} (hD : D = (g x).D) :
    (Instr.lookup 62 (.map (some mb)) (.int .i64 x) false).run Tryd.prog w = .ok (.iface 28 (.pointer (some ⟨D, 0, none⟩))) w := by
  rw [hD]
  exact h.m.look Tryd.underlying3 Tryd.underlying62 (by kernel_rfl) hx
theorem SW.left (h : SW w Sb QB QR mb nm k js g bal sp M) {x : Int} (hx : x ∈ jIds js) {D : Nat} (hD : D = (g x).D) {l : Nat} (hl : jGet js x = l) :
    Calls Tryd.prog 10 #[.pointer (some ⟨D, 0, none⟩)] w fun e w' => e = .returned (.int .i64 (l : Int)) ∧ Below w.heap.size w w' := by
  obtain ⟨j1, j2⟩ := h.bw hx
  have := bleft_any (g x).D (g x).B (g x).Q (g x).n ((g x).n - jGet js x) false w j2
  rw [show (g x).n - ((g x).n - jGet js x) = l by omega] at this
  rw [hD]
  exact this
theorem sstep_yes' {x : Int} {mt : MeterS} (hx : x ∈ jIds js) {D : Nat} (hD : D = (g x).D) (hl : 1 ≤ jGet js x) (hb : 1 ≤ bal ∧ bal ≤ 1000000) (hsp : 0 ≤ sp ∧ sp ≤ 1000000) (h : SW w Sb QB QR mb nm k js g bal sp M) (hM : Blk w M 35 mt.cells) (hm : mt.limited = false) :
    Calls Tryd.prog 32 #[.pointer (some ⟨Sb, 0, none⟩), .pointer (some ⟨M, 0, none⟩), .iface 28 (.pointer (some ⟨D, 0, none⟩))] w fun e w' =>
      e = .returned (.bool true) ∧ SW w' Sb QB QR mb nm k (jSub js x 1) g (bal - 1) (sp + 1) M ∧ Blk w' M 35 ((mt.add 0 1 0).add 0 0 1).cells ∧ Chg (fun b => b = M ∨ b = Sb ∨ JX (g x) b) w w' := by
  rw [hD]; exact sstep_yes hx hl hb hsp h hM hm
set_option maxRecDepth 100000 in
set_option maxHeartbeats 4000000 in
theorem sothers_any (c : Nat) (hc : c ≤ 100000) (hsp : 0 ≤ sp ∧ sp ≤ 800000) {mt : MeterS} (hm : mt.limited = false) (hM : Blk w M 35 mt.cells) (h : SW w Sb QB QR mb nm k js g (c : Int) sp M) :
    Calls Tryd.prog 34 #[.pointer (some ⟨Sb, 0, none⟩), .pointer (some ⟨M, 0, none⟩)] w fun e w' => ∃ (v : Value) (c' : Nat), e = .returned v ∧ w'.ownsRow w.heap.size 3 1 v (oth c js).2.1.length ((oth c js).2.1.map (Value.int .i64)) ∧ SW w' Sb QB QR mb nm k (oth c js).1 g (c' : Int) (sp + ((oth c js).2.2 : Nat)) M ∧ Blk w' M 35 (mUp mt (oth c js).2.2).cells ∧ Chg (fun b => b = M ∨ SX Sb QB QR mb js g b) w w' := by
  obtain ⟨i0, hi, hz0, hz1, hz2⟩ := info_parts info3q
  have hlen : js.length ≤ 40 := by have := h.q.len.1; simpa [jIds] using this
  have HL := Lib.hid h.lt
  have hMl := hM.lt
  obtain ⟨T, hT⟩ : ∃ T, T = oth c js := ⟨_, rfl⟩
  rw [← hT]
  have HT := Lib.hid hT
  have H0 := Lib.hid h
  have HM0 := Lib.hid hM
  have hmm := Lib.hid hm
  clear hT h hM hm
  go_enter Tryd.func34, Tryd.ntmps34
  go_wp2
  go_loopg [5] (c + js.length) (fun gk v5 wr => ∃ (c1 : Nat) (j1 : List (Int × Nat)) (E : List Int) (t : Nat), c1 + j1.length = gk ∧ t + c1 ≤ c ∧ E.length + j1.length ≤ js.length ∧ T = ((oth c1 j1).1, E ++ (oth c1 j1).2.1, t + (oth c1 j1).2.2) ∧ wr.ownsRow w.heap.size 3 1 v5 E.length (E.map (Value.int .i64)) ∧ SW wr Sb QB QR mb nm k j1 g (c1 : Int) (sp + (t : Int)) M ∧ Blk wr M 35 (mUp mt t).cells ∧ Chg (fun b => b = M ∨ SX Sb QB QR mb js g b) w wr ∧ (∀ x, x ∈ jIds j1 → x ∈ jIds js))
  case atStart => exact ⟨c, js, [], 0, rfl, by omega, by simp, by rw [HT.out]; simp, ⟨by simp, .inl ⟨rfl, rfl⟩⟩, by simpa using H0.out, HM0.out, Chg.refl _ _, fun _ h => h⟩
  case round =>
    obtain ⟨c1, j1, E, t, hg, ht, hE, hT1, hrow, hS, hMt, hch, hsub⟩ := hrel
    have R := Lib.hid hrow
    have S := Lib.hid hS
    have HMt := Lib.hid hMt
    have C := Lib.hid hch
    have SUB := Lib.hid hsub
    have T1 := Lib.hid hT1
    obtain ⟨fz, hb0⟩ := hS.b
    have HB := Lib.hid hb0
    obtain ⟨e0, e1, e2, e3, e4, e5, e7, zS⟩ := hS.cells
    have HA := Lib.hid (head_any QB QR 40 (jIds j1) wr hS.q)
    have hnd := Lib.hid hS.nd
    have hwf := Lib.hid (ids_wf hS)
    have hzr := hch.size
    obtain ⟨a5, cap5, rfl⟩ := ownsRow_slice hrow
    clear hrow hS hMt hch hsub hb0 hT1
    cases j1 with
    | nil =>
      rw [show headV (jIds []) = .tuple #[.int .i64 0, .bool false] from rfl] at HA
      go_wp2_with (go_at_call 48; (with_reducible refine HA.out.mono ?_); rintro e w1 ⟨rfl, hb1⟩)
      go_ret
      have hT2 := T1.out
      rw [oth_nil] at hT2
      simp only [List.append_nil, Nat.add_zero] at hT2
      subst hT2
      exact ⟨_, c1, rfl, ownsRow_own R.out hb1, S.out.later hb1, HMt.out.below hb1 HMt.out.lt, C.out.thenBelow hb1⟩
    | cons p r =>
      obtain ⟨x, l⟩ := p
      rw [show headV (jIds ((x, l) :: r)) = .tuple #[.int .i64 x, .bool true] from rfl] at HA
      have hx : x ∈ jIds ((x, l) :: r) := List.mem_cons_self
      have HX := Lib.hid hx
      obtain ⟨D, hD⟩ : ∃ D, D = (g x).D := ⟨_, rfl⟩
      have HD := Lib.hid hD
      have HU := Lib.hid ((mUp_lim mt t).trans hmm.out)
      clear hD hx
      by_cases hc1 : c1 = 0
      · subst hc1
        go_wp2_with (first
          | (go_at_call 48; (with_reducible refine HA.out.mono ?_); rintro e w1 ⟨rfl, hb1⟩; have B1 := Lib.hid (HB.out.below hb1 HB.out.lt); have z1 := B1.out.lt)
          | (go_at_call 49; (with_reducible refine (credit_balance (o := 5) _ B1.out rfl).mono ?_); rintro e w2 ⟨rfl, rfl⟩))
        go_ret
        have hT2 := T1.out
        rw [oth_zero] at hT2
        simp only [List.append_nil, Nat.add_zero] at hT2
        subst hT2
        exact ⟨_, 0, rfl, ownsRow_own R.out hb1, S.out.later hb1, HMt.out.below hb1 HMt.out.lt, C.out.thenBelow hb1⟩
      · have hc2 : ¬ ((c1 : Nat) : Int) = 0 := by omega
        have hlenE : E.length + (r.length + 1) ≤ js.length := by simpa using hE
        have hg' : c1 + (r.length + 1) = gk := by simpa using hg
        cases l with
        | zero =>
          have HG := Lib.hid (get_head x 0 r)
          have h01 : ((0 : Nat) : Int) < 1 := by decide
          go_wp2_with (first
            | (go_at_call 48; (with_reducible refine HA.out.mono ?_); rintro e w1 ⟨rfl, hb1⟩; have B1 := Lib.hid (HB.out.below hb1 HB.out.lt); have S1 := Lib.hid (S.out.later hb1); obtain ⟨d0, d1, d2, d3, d4, d5, d7, z1⟩ := S1.out.cells; have lk1 := S1.out.look HX.out HD.out)
            | (go_at_call 49; (with_reducible refine (credit_balance (o := 5) _ B1.out rfl).mono ?_); rintro e w2 ⟨rfl, rfl⟩)
            | (go_at_call 10; (with_reducible refine (S1.out.left HX.out HD.out HG.out).mono ?_); rintro e w3 ⟨rfl, hb3⟩; have S3 := Lib.hid (S1.out.later hb3); have z3 := S3.out.cells.2.2.2.2.2.2.2)
            | (go_at_call 20; (with_reducible refine (sremove_any x (hwf.out x HX.out) S3.out).mono ?_); rintro e w4 ⟨rfl, hs4, hc4⟩; have S4 := Lib.hid hs4; have C4 := Lib.hid hc4; have R4 := Lib.hid (ownsRow_chg (ownsRow_own (ownsRow_own R.out hb1) hb3) hc4 (fun b hb e => by have h1 := HL.out QB (.inr (.inl rfl)); have h2 := HL.out QR (.inr (.inr (.inl rfl))); have h3 := HL.out mb (.inr (.inr (.inr (.inl rfl)))); omega)); have M4 := Lib.hid (((HMt.out.below hb1 HMt.out.lt).below hb3 (HMt.out.below hb1 HMt.out.lt).lt).chg hc4 (by have := S3.out.s; rintro (e | e | e); exact this.2.2.2.2.2.2.1 e.symm; exact this.2.2.2.2.2.2.2.1 e.symm; exact this.2.2.2.2.2.2.2.2 e.symm)); have z4 := hc4.size; have y1 := hb1.size; have y3 := hb3.size; clear hs4 hc4)
            | (at_builtin; (refine wpList_append_own _ rfl _ _ 37 rfl w.heap.size 3 i0 (.int .i64 0) 1 8 Tryd.underlying37 hi hz0 hz1 hz2 rfl (by decide) _ _ _ rfl (R4.out.alloc _) ⟨w4.heap.size, 0, none⟩ 1 1 [.int .i64 x] rfl rfl (cell_one_new _ _ _) (by simp [Value.oneCell']) (by unfold maxLen; omega) (by omega) (by simp; omega) ?_; intro v5 w5 hown5 hgrow5 hfr5; have G5 := Lib.hid (chg_of_grown hgrow5); have O5 := Lib.hid hown5; clear hown5 hgrow5 hfr5)))
          go_roundg (gk - 1)
          case measure => omega
          case rel =>
            have hs4 := S4.out
            rw [cut_head hnd.out] at hs4
            have hsub2 : ∀ y, y ∈ jIds r → y ∈ jIds js := fun y hy => SUB.out y (List.mem_cons_of_mem _ hy)
            have hrl : ∀ b, some b = (Value.slice a5 E.length cap5).ownBlock → w.heap.size ≤ b := fun b e => (R4.out.lt b e.symm).1
            refine ⟨c1, r, E ++ [x], t, by omega, ht, by simp; omega, ?_, ?_, ?_, ?_, ?_, hsub2⟩
            · rw [T1.out, oth_end c1 (by omega) x r]; simp
            · have := O5.out; simpa using this
            · exact (hs4.later ((Below.refl _ _).alloc (Nat.le_refl _) _)).chg G5.out (fun b hb e => by have h1 := HL.out b (hb.mono hsub2); have h2 := hrl b e; omega)
            · exact (M4.out.alloc _).chg G5.out (fun e => by have := hrl M e; omega)
            · exact (((((C.out.thenBelow hb1).thenBelow hb3).trans (C4.out.mono (fun b _ e => .inr (by rcases e with e | e | e; exact .inr (.inl e); exact .inr (.inr (.inl e)); exact .inr (.inr (.inr (.inl e))))))).thenBelow ((Below.refl _ _).alloc (Nat.le_refl _) _)).trans' G5.out (fun b hb e => by have := hrl b e; omega))
        | succ l =>
          obtain ⟨l1, hl1⟩ : ∃ l1, l1 = l + 1 := ⟨_, rfl⟩
          have HG := Lib.hid ((get_head x (l + 1) r).trans hl1.symm)
          have h01 : ¬ (l1 : Int) < 1 := by omega
          have hl2 := Lib.hid hl1
          clear hl1
          go_wp2_with (first
            | (go_at_call 48; (with_reducible refine HA.out.mono ?_); rintro e w1 ⟨rfl, hb1⟩; have B1 := Lib.hid (HB.out.below hb1 HB.out.lt); have S1 := Lib.hid (S.out.later hb1); obtain ⟨d0, d1, d2, d3, d4, d5, d7, z1⟩ := S1.out.cells; have lk1 := S1.out.look HX.out HD.out)
            | (go_at_call 49; (with_reducible refine (credit_balance (o := 5) _ B1.out rfl).mono ?_); rintro e w2 ⟨rfl, rfl⟩)
            | (go_at_call 10; (with_reducible refine (S1.out.left HX.out HD.out HG.out).mono ?_); rintro e w3 ⟨rfl, hb3⟩; have S3 := Lib.hid (S1.out.later hb3); obtain ⟨f0, f1, f2, f3, f4, f5, f7, z3⟩ := S3.out.cells; have lk3 := S3.out.look HX.out HD.out; have M3 := Lib.hid ((HMt.out.below hb1 HMt.out.lt).below hb3 (HMt.out.below hb1 HMt.out.lt).lt))
            | (go_at_call 32; ((with_reducible refine (sstep_yes' HX.out HD.out (by have := HG.out; have := hl2.out; omega) ⟨by omega, by omega⟩ ⟨by omega, by omega⟩ S3.out M3.out HU.out).mono ?_); rintro e w4 ⟨rfl, hs4, hm4, hc4⟩; have S4 := Lib.hid hs4; have M4 := Lib.hid hm4; have C4 := Lib.hid hc4; clear hs4 hm4 hc4)))
          go_roundg (gk - 1)
          case measure => omega
          case rel =>
            have hs4 := S4.out
            have he := hl2.out
            subst he
            rw [sub_head hnd.out] at hs4
            have hT2 : T = ((oth (c1 - 1) ((x, l) :: r)).1, E ++ (oth (c1 - 1) ((x, l) :: r)).2.1, t + 1 + (oth (c1 - 1) ((x, l) :: r)).2.2) := by
              obtain ⟨d, hd⟩ : ∃ d, c1 = d + 1 := ⟨c1 - 1, by omega⟩
              rw [T1.out, hd, oth_step, show d + 1 - 1 = d from rfl]
              exact Prod.ext rfl (Prod.ext rfl (show t + (_ + 1) = t + 1 + _ by omega))
            refine ⟨c1 - 1, (x, l) :: r, E, t + 1, by simp; omega, by omega, by simpa using hE, hT2, ?_, ?_, M4.out, ?_, fun y hy => SUB.out y hy⟩
            · refine ownsRow_chg (ownsRow_own (ownsRow_own R.out hb1) hb3) C4.out (fun b hb e => ?_)
              have hk : b = M ∨ SX Sb QB QR mb js g b := by
                rcases e with e | e | e
                · exact .inl e
                · exact .inr (.inl e)
                · exact .inr (.inr (.inr (.inr (.inr ⟨x, SUB.out x HX.out, e⟩))))
              rcases hk with e | e
              · omega
              · have := HL.out b e; omega
            · rw [show ((c1 - 1 : Nat) : Int) = (c1 : Int) - 1 by omega, show sp + ((t + 1 : Nat) : Int) = sp + (t : Int) + 1 by omega]
              exact hs4
            · refine ((C.out.thenBelow hb1).thenBelow hb3).trans (C4.out.mono (fun b _ e => ?_))
              rcases e with e | e | e
              · exact .inl e
              · exact .inr (.inl e)
              · exact .inr (.inr (.inr (.inr (.inr ⟨x, SUB.out x HX.out, e⟩))))
end
end Go.Proofs.YtolhmibejhldkaaDoor

namespace Go.Proofs.YtolhmibejhldkaaDoor
open Go.RowKit Go.Proofs
def lpJ (js : List (Int × Nat)) (i : Nat) : List (Int × Nat) := ((js.take i).filter fun p => decide (0 < p.2)) ++ js.drop i
def lpE (js : List (Int × Nat)) (i : Nat) : List Int := jIds ((js.take i).filter fun p => decide (p.2 = 0))
theorem lp_zero (js : List (Int × Nat)) : lpJ js 0 = js ∧ lpE js 0 = [] := ⟨by simp [lpJ], by simp [lpE, jIds]⟩
theorem lp_end (js : List (Int × Nat)) : lpJ js js.length = js.filter (fun p => decide (0 < p.2)) ∧ lpE js js.length = jIds (js.filter fun p => decide (p.2 = 0)) := ⟨by simp [lpJ], by simp [lpE]⟩
theorem lp_sub (js : List (Int × Nat)) (i : Nat) : (lpJ js i).Sublist js := by
  unfold lpJ
  conv => rhs; rw [← List.take_append_drop i js]
  exact List.filter_sublist.append (List.Sublist.refl _)
theorem lp_nodup {js : List (Int × Nat)} (hd : (jIds js).Nodup) (i : Nat) : (jIds (lpJ js i)).Nodup := hd.sublist ((lp_sub js i).map _)
theorem lp_at {js : List (Int × Nat)} {i : Nat} {p : Int × Nat} (h : js[i]? = some p) : p ∈ lpJ js i := by
  unfold lpJ
  have hi := (List.getElem?_eq_some_iff.1 h).1
  rw [List.drop_eq_getElem_cons hi]
  have := (List.getElem?_eq_some_iff.1 h).2
  rw [this]
  exact List.mem_append_right _ List.mem_cons_self
theorem lp_yes {js : List (Int × Nat)} {i : Nat} {p : Int × Nat} (h : js[i]? = some p) (hp : 0 < p.2) : lpJ js (i + 1) = lpJ js i ∧ lpE js (i + 1) = lpE js i := by
  have hi := (List.getElem?_eq_some_iff.1 h).1
  have he := (List.getElem?_eq_some_iff.1 h).2
  have ht : js.take (i + 1) = js.take i ++ [p] := by rw [List.take_succ_eq_append_getElem hi, he]
  unfold lpJ lpE
  rw [ht, List.filter_append, List.filter_append, List.drop_eq_getElem_cons hi, he]
  refine ⟨?_, ?_⟩
  · rw [List.filter_cons_of_pos (by simpa using hp)]; simp
  · rw [List.filter_cons_of_neg (by simpa using Nat.pos_iff_ne_zero.1 hp)]; simp
theorem lp_no {js : List (Int × Nat)} (hd : (jIds js).Nodup) {i : Nat} {p : Int × Nat} (h : js[i]? = some p) (hp : p.2 = 0) : lpJ js (i + 1) = (lpJ js i).filter (fun q => decide (q.1 ≠ p.1)) ∧ lpE js (i + 1) = lpE js i ++ [p.1] := by
  have hn := lp_nodup hd i
  have hi := (List.getElem?_eq_some_iff.1 h).1
  have he := (List.getElem?_eq_some_iff.1 h).2
  have ht : js.take (i + 1) = js.take i ++ [p] := by rw [List.take_succ_eq_append_getElem hi, he]
  unfold lpJ at hn ⊢
  unfold lpE
  rw [List.drop_eq_getElem_cons hi, he] at hn ⊢
  rw [ht]
  simp only [List.filter_append]
  refine ⟨?_, ?_⟩
  · rw [List.filter_cons_of_neg (p := fun p : Int × Nat => decide (0 < p.2)) (by simp [hp]), List.filter_cons_of_neg (p := fun q : Int × Nat => decide (q.1 ≠ p.1)) (by simp)]
    have hn2 : (jIds ((js.take i).filter fun p => decide (0 < p.2)) ++ p.1 :: jIds (js.drop (i + 1))).Nodup := by simpa [jIds] using hn
    have h1 := (List.nodup_append.1 hn2).2.2
    have h2 := (List.nodup_cons.1 (List.nodup_append.1 hn2).2.1).1
    congr 1
    · rw [List.filter_nil, List.append_nil]
      exact (List.filter_eq_self.2 fun q hq => by
        have := h1 q.1 (mem_ids hq) p.1 List.mem_cons_self
        simpa using this).symm
    · exact (List.filter_eq_self.2 fun q hq => by
        have : q.1 ≠ p.1 := fun e => h2 (e ▸ mem_ids hq)
        simpa using this).symm
  · rw [List.filter_cons_of_pos (p := fun p : Int × Nat => decide (p.2 = 0)) (by simpa using hp)]; simp [jIds]
end Go.Proofs.YtolhmibejhldkaaDoor

namespace Go.Proofs.YtolhmibejhldkaaDoor
open Go.RowKit Go.Proofs
attribute [local go_sem] Oper.semAt_some wide_depth round_depth wide_fn round_fn
set_option maxRecDepth 100000 in
set_option maxHeartbeats 4000000 in
theorem sids_q (q : QSt) (B R Sb : Nat) (hq : q.Ok) (w0 : World) (hc3 : w0.cell? ⟨Sb, 3, none⟩ = some (.pointer (some ⟨B, 0, none⟩))) (h : QW w0 B R q) :
    Calls Tryd.prog 14 #[.pointer (some ⟨Sb, 0, none⟩)] w0 fun e w' => ∃ v, e = .returned v ∧ w'.ownsRow w0.heap.size 3 1 v q.many (q.list.map (Value.int .i64)) ∧ Below w0.heap.size w0 w' := by
  obtain ⟨i0, hi, hz0, hz1, hz2⟩ := info_parts info3q
  have H := Lib.hid h
  have HQ := Lib.hid hq
  have hm := Nat.le_trans hq.many hq.most
  have hBz := h.head.lt
  have hRz := h.ring.lt
  have hSz := World.block_lt_of_cell? _ _ hc3
  clear h hq
  refine (callsIn_wide (n := 0)).1 ?_
  refine callsIn_of_wp_marks Tryd.func14 rfl trivial ?_
  simp only [Tryd.ntmps14, List.size_toArray, List.length_cons, List.length_nil, Nat.reduceAdd, Nat.reduceSub, Array.replicate_succ, Array.replicate_zero, List.push_toArray, List.append_toArray, List.nil_append, List.cons_append]
  refine wpIn_wide.2 ?_
  go_wp2_with (go_at_call 36; refine (qall_any _ _).mono ?_; rintro e w' ⟨rfl, rfl⟩)
  refine wp_at (fun wL hwL => ?_)
  obtain ⟨n0, hn0⟩ : ∃ n, n = w0.heap.size := ⟨_, rfl⟩
  rw [← hn0] at hBz hRz ⊢
  have bA : Blk wL n0 37 #[.slice none 0 0] := by rw [hwL, hn0]; exact (Blk.new w0 _ _).alloc _
  have bE : Blk wL (n0 + 1) 59 #[.pointer (some ⟨B, 0, none⟩)] := by rw [hwL]; exact Blk.new_at (by simp [hn0])
  have hzL : wL.heap.size = n0 + 2 := by rw [hwL]; simp [hn0]
  have hBL : Below n0 w0 wL := by rw [hwL, hn0]; exact (((Below.refl _ _).alloc (Nat.le_refl _) _).alloc (by simp) _)
  have HGV := Lib.hid (qall1_gives q B R (n0 + 1) HQ.out wL (bE.cell 0) (H.out.below' hBL hBz hRz))
  have HS := Lib.hid (fun k => range_snoc (fun i => Value.int .i64 (q.item i)) k)
  replace hwL := Lib.hid hwL
  have HA := Lib.hid bA
  have HBL := Lib.hid hBL
  replace hn0 := Lib.hid hn0
  clear bA bE hBL
  refine (wpIn_wide (n := 0)).1 ?_
  refine wp_rangeM rfl enters_qall HGV.out (fun b hb => by omega) (fun _ => rfl)
    (fun i M W => (∃ v, Boxed W n0 37 v ∧ W.ownsRow n0 3 1 v i ((List.range i).map fun i => Value.int .i64 (q.item i)) ∧ ∀ b, M b ↔ b = n0 ∨ v.ownBlock = some b) ∧ Below n0 w0 W)
    (fun _ _ => False)
    (OwnFrom.and (Own.from (holdsRow_own n0 n0 37 3 1 (fun p : Nat × (Nat → Prop) => p.1) (fun p => (List.range p.1).map fun i => Value.int .i64 (q.item i)) (fun p v => ∀ b, p.2 b ↔ b = n0 ∨ v.ownBlock = some b)) _) (ownFrom_below (by rw [hn0.out]; exact Nat.le_refl _) (by omega)))
    (fun _ _ _ _ hs _ _ => hs)
    (fun b => b = n0)
    ?start (fun b hb => ⟨by omega, by omega⟩)
    (fun T i a => a = { tmps := ((T.setIfInBounds 11 (.int .i64 (i : Int))).setIfInBounds 12 (.int .i64 (q.item i))).setIfInBounds 5 (.int .i64 (q.item i)), defers := [] })
    ?assign ?body ?done ?stop
  case start =>
    refine ⟨⟨_, HA.out.boxed, ⟨by simp, .inl ⟨rfl, rfl⟩⟩, fun b => ?_⟩, HBL.out⟩
    simp [Value.ownBlock]
  case assign =>
    intro l i M W K hi hlt hK
    gi_wp2
    all_goals exact hK _ rfl
  case body =>
    rintro l i M a₁ W ⟨⟨v, hv, hrow, hM⟩, hBw⟩ hlt hsz rfl
    have KM := Lib.hid hM
    clear hM
    obtain ⟨av, cv, rfl⟩ := ownsRow_slice hrow
    have hc := hv.cell
    have hi8 : (i : Int) < 40 := by omega
    simp only [List.setIfInBounds_toArray, List.set_cons_succ, List.set_cons_zero]
    gi_wp2_with (gi_at_builtin; refine wpListIn_append_own2 _ rfl _ _ 37 rfl n0 3 i0 (.int .i64 0) 1 8 Tryd.underlying37 hi hz0 hz1 hz2 rfl (by decide) _ _ _ rfl (hrow.alloc _) ⟨W.heap.size, 0, none⟩ 1 1 [.int .i64 (q.item i)] rfl rfl (cell_one_new _ _ _) (by simp [Value.oneCell']) (by unfold maxLen; omega) (by omega) (by simp; omega) (by decide) ?_; intro v' w1 hown' hgrow hwhere; obtain ⟨g', cap', rfl⟩ := ownsRow_succ hown'; obtain ⟨hv1, hv2, hr2, hk2, hb2⟩ := hv.appended (by decide) hrow (by omega) (by omega) hown' hgrow; have hc1 := hv1.cell; have hf1 := hv1.frozen; replace hwhere := Lib.hid hwhere; replace hgrow := Lib.hid hgrow)
    refine ⟨fun b => b = n0 ∨ b = g', ⟨⟨_, hv2, by rw [HS.out]; exact hr2, fun b => by simp [Value.ownBlock, eq_comm]⟩, hBw.trans (hb2.mono (by omega))⟩, ⟨hk2.size, ?_, ?_⟩⟩
    · intro b hb hnb
      have hnb' : b ≠ n0 ∧ ¬ (Value.slice av i cv).ownBlock = some b := by
        have := KM.out b
        exact ⟨fun e => hnb (this.2 (.inl e)), fun e => hnb (this.2 (.inr e))⟩
      rw [Below.heap_setCell _ _ _ _ hnb'.1, hgrow.out.block b (by simp; omega) (fun e => hnb'.2 e.symm)]
      exact Below.heap_alloc _ _ _ hb
    · rintro b (rfl | rfl)
      · exact .inl ((KM.out _).2 (.inl rfl))
      · rcases hwhere.out with h | h
        · exact .inl ((KM.out _).2 (.inr h.symm))
        · simp [Value.ownBlock] at h
          exact .inr (by omega)
  case done =>
    rintro D M w hD ⟨⟨v, hv, hrow, hM⟩, hBw⟩ hK hMD
    have hl : (List.range q.many).map (fun i => Value.int .i64 (q.item i)) = q.list.map (Value.int .i64) := by simp [QSt.list, Function.comp_def]
    rw [hl] at hrow
    have hc := hv.cell
    have HK := Lib.hid hK
    obtain ⟨av, cv, rfl⟩ := ownsRow_slice hrow
    have HROW := Lib.hid hrow
    have hDz := (Array.getElem?_eq_some_iff.1 hK).1
    clear hK hrow hM hl
    go_wp2
    have hn3 : some D ≠ (Value.slice av q.many cv).ownBlock := ownsRow_not_mark HROW.out HK.out
    have e0 := HROW.out.kept (grownBy_putObj' _ D (.deferred none)) (.inr hn3.symm)
    refine end_mark (v := .slice av q.many cv) HK.out (by rw [results_tmp (t := 2) rfl]; rfl) ⟨_, rfl, ?_, ?_⟩ _ (.inl rfl)
    · rw [← hn0.out]; exact e0
    · rw [← hn0.out]; exact hBw.trans (below_putObj _ (by omega) HK.out)
  case stop =>
    rintro D c W hD h _
    exact h.elim
theorem sids_any {w : World} {Sb QB QR mb nm M : Nat} {k : Int} {js : List (Int × Nat)} {g : Int → JB} {bal sp : Int} (h : SW w Sb QB QR mb nm k js g bal sp M) :
    Calls Tryd.prog 14 #[.pointer (some ⟨Sb, 0, none⟩)] w fun e w' => ∃ v, e = .returned v ∧ w'.ownsRow w.heap.size 3 1 v js.length ((jIds js).map (Value.int .i64)) ∧ Below w.heap.size w w' := by
  obtain ⟨q, h1, h2, h3, h4⟩ := h.q
  have hl : q.many = js.length := by rw [← q.list_length, h3]; simp [jIds]
  rw [← h3, ← hl]
  exact sids_q q QB QR Sb h1 w h.cells.2.2.2.1 h4
end Go.Proofs.YtolhmibejhldkaaDoor

namespace Go.Proofs.YtolhmibejhldkaaDoor
open Go.RowKit Go.Proofs
attribute [local go_sem] neq_nilG nil_ahead_left method_left
def jRest (js : List (Int × Nat)) (left : Int → Bool) : Nat := (js.map fun p => if left p.1 = true then p.2 else 0).sum
theorem rest_cons (p : Int × Nat) (r : List (Int × Nat)) (left : Int → Bool) : jRest (p :: r) left = (if left p.1 = true then p.2 else 0) + jRest r left := by
  unfold jRest; rw [List.map_cons, List.sum_cons]
theorem sum_cons (p : Int × Nat) (r : List (Int × Nat)) : jSum (p :: r) = p.2 + jSum r := by
  unfold jSum; rw [List.map_cons, List.sum_cons]
theorem rest_all : ∀ (js : List (Int × Nat)) (left : Int → Bool), (∀ x ∈ jIds js, left x = true) → jRest js left = jSum js
  | [], _, _ => rfl
  | p :: r, left, h => by
    rw [rest_cons, sum_cons, if_pos (h p.1 List.mem_cons_self), rest_all r left (fun x hx => h x (List.mem_cons_of_mem _ hx))]
theorem rest_none : ∀ (js : List (Int × Nat)) (left : Int → Bool), (∀ x, left x = false) → jRest js left = 0
  | [], _, _ => rfl
  | p :: r, left, h => by
    rw [rest_cons, h, rest_none r left h]; simp
theorem rest_congr : ∀ (js : List (Int × Nat)) (l1 l2 : Int → Bool), (∀ x ∈ jIds js, l1 x = l2 x) → jRest js l1 = jRest js l2
  | [], _, _, _ => rfl
  | p :: r, l1, l2, h => by
    rw [rest_cons, rest_cons, h p.1 List.mem_cons_self, rest_congr r l1 l2 (fun x hx => h x (List.mem_cons_of_mem _ hx))]
theorem rest_step : ∀ (js : List (Int × Nat)) (left : Int → Bool) (x : Int), (jIds js).Nodup → x ∈ jIds js → left x = true → jRest js left = jGet js x + jRest js (fun y => left y && !decide (y = x))
  | [], _, _, _, h, _ => by cases h
  | p :: r, left, x, hd, h, hl => by
    have hd' : p.1 ∉ jIds r ∧ (jIds r).Nodup := List.nodup_cons.1 hd
    rw [rest_cons, rest_cons]
    by_cases e : p.1 = x
    · have h1 : jRest r left = jRest r (fun y => left y && !decide (y = x)) := rest_congr r _ _ (fun y hy => by
        have : y ≠ x := fun e2 => hd'.1 (by rw [e, ← e2]; exact hy)
        simp [this])
      rw [← h1]
      unfold jGet
      rw [if_pos e, e, hl]
      simp
    · have h1 := rest_step r left x hd'.2 ((List.mem_cons.1 (show x ∈ p.1 :: jIds r from h)).resolve_left (fun e2 => e e2.symm)) hl
      rw [h1]
      conv => rhs; rw [jGet]
      rw [if_neg e]
      simp only [e, decide_false, Bool.not_false, Bool.and_true]
      omega
theorem wpList_range_J {P : Program} {k T t e : TypeId} {w : World} {b n : Nat} {ids : List Int} {g : Int → Nat} {ops : Array Oper} {rest : List Oper} {o : Oper} {a : Act} {Q : Exit → Act → World → Prop} (hg : o.guard = none) (m : Operand) (hop : o.op = Op.range t m)
    (hk : P.underlying k = some (.int .i64)) (ht : P.underlying t = some (.map k e)) (hm : a.eval m = .map (some b)) (h : JM P k T w b n ids g)
    (hK : ∀ w' cnt, JR P k T w' b w.heap.size n ids g (fun x => decide (x ∈ ids)) cnt → Below w.heap.size w w' → w'.heap.size = w.heap.size + 1 → wpList P ops Q rest (a.put o.dst (.pointer (some ⟨w.heap.size, 0, none⟩))) w') :
    wpList P ops Q (o :: rest) a w := by
  refine wpList_plain hg fun K' hK' => ?_
  obtain ⟨w', cnt, hrun, r1, r2, r3, -⟩ := h.range hk ht
  unfold Oper.wp
  simp [execOp, hop, hm, hrun, Result.andThen]
  exact hK' _ _ (hK w' cnt r1 r2 r3)
section
variable {w w' : World} {Sb QB QR mb nm M : Nat} {k : Int} {js : List (Int × Nat)} {g : Int → JB} {bal sp : Int}
theorem SW.le64 (h : SW w Sb QB QR mb nm k js g bal sp M) : ∀ p ∈ js, p.2 ≤ 64 := fun p hp => by
  obtain ⟨j1, j2⟩ := h.j p hp
  have := j2.hn
  omega
theorem sum_le : ∀ (js : List (Int × Nat)), (∀ p ∈ js, p.2 ≤ 64) → jSum js ≤ 64 * js.length
  | [], _ => Nat.zero_le _
  | p :: r, h => by
    have h1 := sum_le r (fun q hq => h q (List.mem_cons_of_mem _ hq))
    have h2 := h p List.mem_cons_self
    rw [sum_cons, List.length_cons]
    omega
theorem SW.len (h : SW w Sb QB QR mb nm k js g bal sp M) : js.length ≤ 40 := by have := h.q.len.1; simpa [jIds] using this
theorem SW.sum (h : SW w Sb QB QR mb nm k js g bal sp M) : jSum js ≤ 2560 := by
  have h1 := sum_le js h.le64
  have h2 := h.len
  omega
set_option maxRecDepth 100000 in
set_option maxHeartbeats 4000000 in
theorem sleft_any (h : SW w Sb QB QR mb nm k js g bal sp M) : Calls Tryd.prog 12 #[.pointer (some ⟨Sb, 0, none⟩)] w fun e w' => e = .returned (.int .i64 ((jSum js : Nat) : Int)) ∧ Below w.heap.size w w' := by
  have hs := h.sum
  have H := Lib.hid h
  have HM := Lib.hid h.m
  have HL := Lib.hid h.lt
  obtain ⟨c0, c1, c2, c3, c4, c5, c7, z⟩ := h.cells
  clear h
  go_enter Tryd.func12, Tryd.ntmps12
  go_wp2_with (first
    | (at_range; refine wpList_range_J rfl _ rfl Tryd.underlying3 Tryd.underlying62 rfl HM.out ?_; intro w0 cnt0 hr0 hb0 hz0; have R0 := Lib.hid hr0; clear hr0)
    | go_in)
  go_frame
  go_loopg [3] cnt0 (fun gk vn wr => ∃ (left : Int → Bool) (n : Nat), n + jRest js left = jSum js ∧ vn = .int .i64 (n : Int) ∧ JR Tryd.prog 3 28 wr mb w.heap.size nm (jIds js) (fun x => (g x).D) left gk ∧ Below w.heap.size w wr ∧ w.heap.size < wr.heap.size)
  case atStart => exact ⟨_, 0, by rw [rest_all js _ (fun x hx => decide_eq_true hx)]; omega, rfl, R0.out, hb0, by omega⟩
  case round =>
    obtain ⟨left, n, hn, rfl, hr, hb, hz⟩ := hrel
    clear R0
    have R := Lib.hid hr
    have HN := Lib.hid hn
    have S := Lib.hid (H.out.later hb)
    have hB := Lib.hid hb
    clear hr hb
    go_wp2_with (first
      | (at_next; refine wpList_next_J rfl _ rfl Tryd.underlying3 rfl R.out ?_ ?_)
      | go_in)
    · intro _ hl0
      have hn2 := HN.out
      rw [rest_none js left hl0, Nat.add_zero] at hn2
      subst hn2
      clear hn HN
      go_wp2
      go_ret
      exact ⟨rfl, hB.out⟩
    · intro x w1 cnt1 hx hlx hr1 hlt hc1 hz1 hen
      have R1 := Lib.hid hr1
      have HX := Lib.hid hx
      have st := rest_step js left x S.out.nd hx hlx
      have S1 := Lib.hid (S.out.chg hc1 (fun b hb e => by have := HL.out b hb; omega))
      obtain ⟨D, hD⟩ : ∃ D, D = (g x).D := ⟨_, rfl⟩
      have hen1 : (Instr.entry (.pointer (some ⟨w.heap.size, 0, none⟩))).run Tryd.prog w1 = .ok (.tuple #[.int .i64 x, .iface 28 (.pointer (some ⟨D, 0, none⟩))]) w1 := by rw [hD]; exact hen
      obtain ⟨l, hl⟩ : ∃ l, l = jGet js x := ⟨_, rfl⟩
      rw [← hl] at st
      have LE := Lib.hid (S1.out.left hx hD hl.symm)
      rw [show jobVal 28 (g x).D = .iface 28 (.pointer (some ⟨D, 0, none⟩)) by rw [hD]; rfl]
      have hB1 := Lib.hid (hB.out.trans (hc1.below (n := w.heap.size) (by omega) (fun b hb e => by omega)))
      have ST := Lib.hid st
      have e1 : IntKind.i64.wrap ((n : Int) + (l : Int)) = ((n + l : Nat) : Int) := by rw [IntKind.wrap_i64]; omega
      clear hr1 hen hD hl st hn hx hlx hc1
      go_wp2_with (first
        | (go_at_call 10; (with_reducible refine LE.out.mono ?_); rintro e w2 ⟨rfl, hb2⟩; have B2 := Lib.hid hb2; clear hb2)
        | go_in)
      go_roundg cnt1
      case measure => exact hlt
      case rel =>
        have hz2 := B2.out.size
        refine ⟨_, n + l, ?_, rfl, R1.out.chg (X := fun _ => False) (Chg.of_below B2.out) (fun e => e) (fun e => e), hB1.out.trans (B2.out.mono (by omega)), by omega⟩
        have := ST.out
        have := HN.out
        omega
end
end Go.Proofs.YtolhmibejhldkaaDoor

namespace Go.Proofs.YtolhmibejhldkaaDoor
open Go.RowKit Go.Proofs
theorem app_own2 {P : Program} {w : World} {ops : Array Oper} {rest : List Oper} {o : Oper} {a : Act} {Q : Exit → Act → World → Prop} (hgd : o.guard = none) (s x : Operand) (t : TypeId)
    (ho : o.op = .call { callee := .builtin .append, args := #[s, x], argTypes := #[t, t] })
    (base : Nat) (e : TypeId) (i : TypeInfo) (z : Value) (size bytes : Nat) (ht : P.underlying t = some (.slice e)) (hi : P.info? e = some i) (hz : i.zero = some z)
    (hsize : i.size = size) (hby : i.bytes = bytes) (hzs : z.cells.size = size) (hsz : 0 < size)
    (v : Value) (n : Nat) (xs : List Value) (hs : a.eval s = v) (hown : w.ownsRow base e size v n xs)
    (ad : Addr) (m c : Nat) (news : List Value) (hx : a.eval x = .slice (some ad) m c) (hl : news.length = m * size) (hnews : ∀ j u, news[j]? = some u → w.cell? (ad.add j) = some u) (h1 : ∀ u ∈ news, u.oneCell' = true)
    (h63 : n + m ≤ maxLen) (hbytes : (n + m) * bytes ≤ 140737488355328) (hbase : base ≤ w.heap.size) (hm : 0 < m)
    (h : ∀ v' w', w'.ownsRow base e size v' (n + m) (xs ++ news) → w.grownBy w' v.ownBlock → (v'.ownBlock = v.ownBlock ∨ v'.ownBlock = some w.heap.size) → wpList P ops Q rest (a.put o.dst v') w') : wpList P ops Q (o :: rest) a w :=
  wpList_plain hgd fun _ hK => wp_append_own2 s x t ho base e i z size bytes ht hi hz hsize hby hzs hsz v n xs hs hown ad m c news hx hl hnews h1 h63 hbytes hbase hm fun v' w' h2 h3 h4 => hK _ _ (h v' w' h2 h3 h4)
theorem sub_sub (js : List (Int × Nat)) (x : Int) (t : Nat) : jSub (jSub js x t) x 1 = jSub js x (t + 1) := by
  unfold jSub
  rw [List.map_map]
  apply List.map_congr_left
  intro p _
  by_cases e : p.1 = x
  · simp [Function.comp_def, e, Nat.sub_sub]
  · simp [Function.comp_def, e]
theorem sub_zero (js : List (Int × Nat)) (x : Int) : jSub js x 0 = js := by
  unfold jSub
  refine (List.map_congr_left fun p _ => ?_).trans (List.map_id js)
  split <;> rfl
theorem get_sub : ∀ (js : List (Int × Nat)) (x : Int) (t : Nat), jGet (jSub js x t) x = jGet js x - t
  | [], _, _ => (Nat.zero_sub _).symm
  | p :: r, x, t => by
    show jGet ((if p.1 = x then (p.1, p.2 - t) else p) :: jSub r x t) x = _
    by_cases e : p.1 = x
    · rw [if_pos e]; unfold jGet; rw [if_pos e, if_pos e]
    · rw [if_neg e]; unfold jGet; rw [if_neg e, if_neg e]; exact get_sub r x t
theorem get_none : ∀ (js : List (Int × Nat)) (x : Int), x ∉ jIds js → jGet js x = 0
  | [], _, _ => rfl
  | p :: r, x, h => by
    unfold jGet
    rw [if_neg (fun e => h (by rw [← e]; exact List.mem_cons_self))]
    exact get_none r x (fun h2 => h (List.mem_cons_of_mem _ h2))
theorem oth_len : ∀ (c : Nat) (js : List (Int × Nat)), (oth c js).2.1.length + (oth c js).1.length = js.length
  | c, [] => by rw [oth_nil]; rfl
  | 0, p :: r => by rw [oth_zero]; simp
  | c + 1, (x, 0) :: r => by rw [oth_end _ (by omega)]; have := oth_len (c + 1) r; simp only [List.length_cons]; omega
  | c + 1, (x, l + 1) :: r => by rw [oth_step]; have := oth_len c ((x, l) :: r); simp only [List.length_cons] at this ⊢; omega
termination_by c js => (js.length, c)
theorem lpE_len (J : List (Int × Nat)) (i : Nat) : (lpE J i).length ≤ J.length := by
  unfold lpE jIds
  rw [List.length_map]
  exact Nat.le_trans (List.length_filter_le _ _) (by rw [List.length_take]; omega)
theorem mUp_add (mt : MeterS) (a : Nat) : ∀ b, mUp (mUp mt a) b = mUp mt (a + b)
  | 0 => rfl
  | b + 1 => by rw [← Nat.add_assoc, mUp, mUp, mUp_add mt a b]
theorem SX.ids {Sb QB QR mb : Nat} {js j1 : List (Int × Nat)} {g : Int → JB} (hs : jIds j1 = jIds js) {b : Nat} : SX Sb QB QR mb j1 g b ↔ SX Sb QB QR mb js g b := by unfold SX; rw [hs]
theorem mid_ids (k : Nat) (js : List (Int × Nat)) (own : Int) : jIds (sMid k js own) = jIds js := by unfold sMid; exact sub_ids _ _ _
theorem readsInts_grown {w w' : World} {row : Option Nat} {v : Value} {xs : List Int} (h : ReadsInts w v xs) (hg : w.grownBy w' row) (hne : ∀ b, v.ownBlock = some b → row ≠ some b) : ReadsInts w' v xs := by
  obtain ⟨a, cap, rfl, hx⟩ := h
  refine ⟨a, cap, rfl, fun hn => ?_⟩
  obtain ⟨b, off, rfl, hc⟩ := hx hn
  exact ⟨b, off, rfl, fun i hi => (chg_of_grown hg).keep (hc i hi) (fun e => hne b rfl e.symm)⟩
theorem readsInts_chg {X : Nat → Prop} {w w' : World} {v : Value} {xs : List Int} (h : ReadsInts w v xs) (hc : Chg X w w') (hX : ∀ b, v.ownBlock = some b → ¬ X b) : ReadsInts w' v xs := by
  obtain ⟨a, cap, rfl, hx⟩ := h
  refine ⟨a, cap, rfl, fun hn => ?_⟩
  obtain ⟨b, off, rfl, hcs⟩ := hx hn
  exact ⟨b, off, rfl, fun i hi => hc.keep (hcs i hi) (hX b rfl)⟩
structure SL (w0 w : World) (Sb QB QR mb nm : Nat) (k : Int) (js J : List (Int × Nat)) (g : Int → JB) (bal sp : Int) (M : Nat) (mt : MeterS) (vI vE : Value) (E0 : List Int) (i : Nat) : Prop where
  s : SW w Sb QB QR mb nm k (lpJ J i) g bal sp M
  m : Blk w M 35 mt.cells
  e : w.ownsRow w0.heap.size 3 1 vE (E0 ++ lpE J i).length ((E0 ++ lpE J i).map (Value.int .i64))
  r : ReadsInts w vI (jIds J)
  n : ∀ b, vI.ownBlock = some b → vE.ownBlock ≠ some b ∧ w0.heap.size ≤ b ∧ b < w.heap.size
  c : Chg (fun b => b = M ∨ SX Sb QB QR mb js g b) w0 w
  b : ∀ y, y ∈ jIds J → y ∈ jIds js
  x : ∀ b, SX Sb QB QR mb js g b → b < w0.heap.size
  y : M < w0.heap.size
section
variable {w0 w w' : World} {Sb QB QR mb nm M : Nat} {k : Int} {js J : List (Int × Nat)} {g : Int → JB} {bal sp : Int} {mt : MeterS} {vI vE : Value} {E0 : List Int} {i : Nat}
theorem SL.later (h : SL w0 w Sb QB QR mb nm k js J g bal sp M mt vI vE E0 i) (hb : Below w.heap.size w w') : SL w0 w' Sb QB QR mb nm k js J g bal sp M mt vI vE E0 i :=
  ⟨h.s.later hb, h.m.below hb h.m.lt, ownsRow_own h.e hb, h.r.later hb, fun b e => ⟨(h.n b e).1, (h.n b e).2.1, by have := (h.n b e).2.2; have := hb.size; omega⟩, h.c.thenBelow hb, h.b, h.x, h.y⟩
theorem SL.yes (h : SL w0 w Sb QB QR mb nm k js J g bal sp M mt vI vE E0 i) {p : Int × Nat} (hp : J[i]? = some p) (h0 : 0 < p.2) : SL w0 w Sb QB QR mb nm k js J g bal sp M mt vI vE E0 (i + 1) := by
  obtain ⟨h1, h2⟩ := lp_yes hp h0
  exact ⟨by rw [h1]; exact h.s, h.m, by rw [h2]; exact h.e, h.r, h.n, h.c, h.b, h.x, h.y⟩
theorem SL.cut (h : SL w0 w Sb QB QR mb nm k js J g bal sp M mt vI vE E0 i) {p : Int × Nat} {vE' : Value} {w1 : World} (hd : (jIds J).Nodup) (hp : J[i]? = some p) (h0 : p.2 = 0)
    (hs : SW w' Sb QB QR mb nm k ((lpJ J i).filter fun q => decide (q.1 ≠ p.1)) g bal sp M) (hc : Chg (fun b => b = QB ∨ b = QR ∨ b = mb) w w') (o : Obj)
    {n : Nat} (hn : n = (E0 ++ lpE J i).length) (he : w1.ownsRow w0.heap.size 3 1 vE' (n + 1) ((E0 ++ lpE J i).map (Value.int .i64) ++ [.int .i64 p.1])) (hg : (w'.alloc o).grownBy w1 vE.ownBlock) (hf : vE'.ownBlock = vE.ownBlock ∨ vE'.ownBlock = some (w'.alloc o).heap.size) :
    SL w0 w1 Sb QB QR mb nm k js J g bal sp M mt vI vE' E0 (i + 1) := by
  subst hn
  obtain ⟨h1, h2⟩ := lp_no hd hp h0
  have hz := hc.size
  have hz1 := hg.size
  rw [World.size_alloc] at hz1 hf
  have hrow : ∀ b, vE.ownBlock = some b → w0.heap.size ≤ b := fun b e => (h.e.lt b e).1
  have hq : ∀ b, b = QB ∨ b = QR ∨ b = mb → SX Sb QB QR mb js g b := fun b e => by
    rcases e with e | e | e
    · exact .inr (.inl e)
    · exact .inr (.inr (.inl e))
    · exact .inr (.inr (.inr (.inl e)))
  have hsub : ∀ y, y ∈ jIds ((lpJ J i).filter fun q => decide (q.1 ≠ p.1)) → y ∈ jIds js := fun y hy => h.b y (((lp_sub J i).map (·.1)).subset (((List.filter_sublist (l := lpJ J i) (p := fun q => decide (q.1 ≠ p.1))).map (·.1)).subset hy))
  refine ⟨?_, ?_, ?_, ?_, fun b e => ?_, ?_, h.b, h.x, h.y⟩
  · rw [h1]
    exact (hs.later ((Below.refl _ _).alloc (Nat.le_refl _) _)).chg (chg_of_grown hg) (fun b hb e => by
      have := h.x b (hb.mono hsub)
      have := hrow b e.symm
      omega)
  · have hM : ¬ (M = QB ∨ M = QR ∨ M = mb) := by
      obtain ⟨-, -, -, -, -, -, s7, s8, s9⟩ := h.s.s
      rintro (e | e | e)
      · exact s7 e.symm
      · exact s8 e.symm
      · exact s9 e.symm
    refine ((h.m.chg hc hM).alloc o).chg (chg_of_grown hg) (fun e => ?_)
    have := hrow M e.symm
    have := h.y
    omega
  · rw [h2, ← List.append_assoc]
    simpa [Nat.add_assoc] using he
  · have h3 : ReadsInts w' vI (jIds J) := readsInts_chg h.r hc (fun b e hx => by
      have := (h.n b e).2.1
      have := h.x b (hq b hx)
      omega)
    exact readsInts_grown (h3.later ((Below.refl _ _).alloc (Nat.le_refl _) o)) hg (fun b e => (h.n b e).1)
  · obtain ⟨n1, n2, n3⟩ := h.n b e
    refine ⟨fun e2 => ?_, n2, by omega⟩
    rcases hf with hf | hf
    · exact n1 (hf.symm.trans e2)
    · have := Option.some.inj (hf.symm.trans e2)
      omega
  · refine ((h.c.trans (hc.mono (fun b _ e => .inr (hq b e)))).thenBelow ((Below.refl _ _).alloc (Nat.le_refl _) o)).trans' (chg_of_grown hg) (fun b hb e => ?_)
    have := hrow b e.symm
    omega
end
end Go.Proofs.YtolhmibejhldkaaDoor

namespace Go.Proofs.YtolhmibejhldkaaDoor
open Go.RowKit Go.Proofs
attribute [local go_sem] neq_nilG nil_ahead_left method_left nil_ahead_step method_step
section
variable {w w' : World} {Sb QB QR mb nm M : Nat} {js : List (Int × Nat)} {g : Int → JB} {bal sp : Int}
set_option maxRecDepth 100000 in
set_option maxHeartbeats 8000000 in
theorem sserve_yes (k : Nat) (hk : 1 ≤ k ∧ k ≤ 64) (own : Int) (hx : own ∈ jIds js) (hsp : 0 ≤ sp ∧ sp ≤ 700000) {mt : MeterS} (hlm : mt.limited = false) (hM : Blk w M 35 mt.cells) (h : SW w Sb QB QR mb nm (k : Int) js g bal sp M) :
    Calls Tryd.prog 11 #[.pointer (some ⟨Sb, 0, none⟩), .pointer (some ⟨M, 0, none⟩), .int .i64 own] w fun e w' => ∃ (v : Value) (b' : Nat), e = .returned v ∧ w'.ownsRow w.heap.size 3 1 v (sEnd k js own).length ((sEnd k js own).map (Value.int .i64)) ∧ SW w' Sb QB QR mb nm (k : Int) (sJobs k js own) g (b' : Int) (sp + (sSpent k js own : Nat)) M ∧ Blk w' M 35 (mUp mt (sSpent k js own)).cells ∧ Chg (fun b => b = M ∨ SX Sb QB QR mb js g b) w w' := by
  obtain ⟨i0, hi0, hz0, hz1, hz2⟩ := info_parts info3q
  have HL := Lib.hid h.lt
  have hMl := hM.lt
  have hlim := Lib.hid hlm
  have H0 := Lib.hid h
  have HM0 := Lib.hid hM
  have HX := Lib.hid hx
  have hw := Lib.hid (ids_wf h own hx)
  obtain ⟨c0, c1, c2, c3, c4, c5, c7, z⟩ := h.cells
  obtain ⟨K8, hK8⟩ : ∃ K8, K8 = 8 * k := ⟨_, rfl⟩
  have hK8a : 1 ≤ K8 ∧ K8 ≤ 512 := by omega
  obtain ⟨O, hO⟩ : ∃ O, O = sOwn k js own := ⟨_, rfl⟩
  have hO8 : O ≤ K8 := by rw [hO, hK8]; exact Nat.min_le_right _ _
  have hOl : O ≤ jGet js own := by rw [hO]; exact Nat.min_le_left _ _
  have hOe : jGet js own - O = 0 ∨ K8 - O = 0 := by rw [hO, hK8]; unfold sOwn; omega
  have HK8 := Lib.hid hK8
  have HO := Lib.hid hO
  have HOl := Lib.hid hOl
  have HOe := Lib.hid hOe
  have OW := Lib.hid (fun (W : World) => show Calls Tryd.prog 31 #[.agg #[.int .i64 (k : Int), .int .i64 1, .int .i64 1]] W fun e w' => e = .returned (.int .i64 ((K8 : Nat) : Int)) ∧ Below W.heap.size W w' from by
    have h := own_any (k : Int) 1 1 W
    rw [show timesZ (k : Int) 8 0 = ((K8 : Nat) : Int) by unfold timesZ; rw [if_pos (by omega)]; omega] at h
    exact h)
  obtain ⟨D, hD⟩ : ∃ D, D = (g own).D := ⟨_, rfl⟩
  have HD := Lib.hid hD
  have LK := Lib.hid (fun (W : World) (hS : SW W Sb QB QR mb nm (k : Int) js g ((K8 : Nat) : Int) sp M) => show (Instr.lookup 62 (.map (some mb)) (.int .i64 own) true).run Tryd.prog W = .ok (.tuple #[.iface 28 (.pointer (some ⟨D, 0, none⟩)), .bool true]) W from by
    rw [HD.out]
    exact (hS.m.lookOk Tryd.underlying3 Tryd.underlying62 (by kernel_rfl) own hw.out).1 HX.out)
  clear h hM hx hlm hO hOl hOe hD hK8
  go_enter Tryd.func11, Tryd.ntmps11
  go_wp2_with (first
    | (go_at_call 31; (with_reducible refine (OW.out _).mono ?_); rintro e w1 ⟨rfl, hb1⟩; have S1 := Lib.hid (H0.out.later hb1); have M1 := Lib.hid (HM0.out.below hb1 HM0.out.lt); have C1 := Lib.hid (Chg.of_below (X := fun b => b = M ∨ SX Sb QB QR mb js g b) hb1); clear hb1)
    | (go_at_call 30; ((with_reducible refine (sfund_any ((K8 : Nat) : Int) ⟨by omega, by omega⟩ S1.out).mono ?_); rintro e w2 ⟨rfl, hs2, hc2⟩; have S2 := Lib.hid hs2; have M2 := Lib.hid (M1.out.chg hc2 (fun e => S1.out.s.2.2.2.1 e.symm)); have C2 := Lib.hid (C1.out.trans (hc2.mono (fun b _ e => .inr (.inl e)))); obtain ⟨d0, d1, d2, d3, d4, d5, d7, zd⟩ := hs2.cells; have lk2 := LK.out _ hs2; clear hs2 hc2)))
  go_loopg [32] (O + 1) (fun gk vb wr => ∃ (t : Nat), t + gk = O + 1 ∧ 1 ≤ gk ∧ SW wr Sb QB QR mb nm (k : Int) (jSub js own t) g ((K8 - t : Nat) : Int) (sp + (t : Int)) M ∧ Blk wr M 35 (mUp mt t).cells ∧ Chg (fun b => b = M ∨ SX Sb QB QR mb js g b) w wr)
  case atStart => exact ⟨0, by omega, by omega, by rw [sub_zero]; simpa using S2.out, M2.out, C2.out⟩
  case round =>
    obtain ⟨t, ht, hg1, hs, hm, hc⟩ := hrel
    have S := Lib.hid hs
    have MM := Lib.hid hm
    have C := Lib.hid hc
    have hx2 : own ∈ jIds (jSub js own t) := by rw [sub_ids]; exact HX.out
    have HX2 := Lib.hid hx2
    have HG := Lib.hid (get_sub js own t)
    have HU := Lib.hid ((mUp_lim mt t).trans hlim.out)
    clear hs hm hc hx2
    by_cases hlt : t < O
    · have ST := Lib.hid (sstep_yes' HX2.out HD.out (by rw [HG.out]; have := HOl.out; omega) ⟨by omega, by omega⟩ ⟨by omega, by omega⟩ S.out MM.out HU.out)
      go_wp2_with (go_at_call 32; ((with_reducible refine ST.out.mono ?_); rintro e w3 ⟨rfl, hs3, hm3, hc3⟩; have S3 := Lib.hid hs3; have M3 := Lib.hid hm3; have C3 := Lib.hid hc3; clear hs3 hm3 hc3))
      go_roundg (gk - 1)
      case measure => omega
      case rel =>
        have hs3 := S3.out
        rw [sub_sub] at hs3
        refine ⟨t + 1, by omega, by omega, ?_, M3.out, C.out.trans (C3.out.mono (fun b _ e => ?_))⟩
        · rw [show ((K8 - (t + 1) : Nat) : Int) = ((K8 - t : Nat) : Int) - 1 by omega, show sp + ((t + 1 : Nat) : Int) = sp + (t : Int) + 1 by omega]
          exact hs3
        · rcases e with e | e | e
          · exact .inl e
          · exact .inr (.inl e)
          · exact .inr (.inr (.inr (.inr (.inr ⟨own, HX.out, e⟩))))
    · obtain rfl : t = O := by omega
      have hno := sstep_no HX2.out (by rw [HG.out]; rcases HOe.out with e | e; exact .inl e; exact .inr (by omega)) (some ⟨M, 0, none⟩) S.out
      rw [← HD.out] at hno
      have NO := Lib.hid hno
      clear hno
      have hO1 := HO.out
      subst hO1
      have OT := Lib.hid (fun (W : World) => show Calls Tryd.prog 33 #[.agg #[.int .i64 (k : Int), .int .i64 1, .int .i64 1]] W fun e w' => e = .returned (.int .i64 (k : Int)) ∧ Below W.heap.size W w' from by
        have h := other_any (k : Int) 1 1 W
        rw [show timesZ (k : Int) 1 0 = (k : Int) by unfold timesZ; rw [if_pos (by omega)]; omega] at h
        exact h)
      have OTH := Lib.hid (fun (W : World) (hS : SW W Sb QB QR mb nm (k : Int) (sMid k js own) g (k : Int) (sp + (sOwn k js own : Nat)) M) (hm : Blk W M 35 (mUp mt (sOwn k js own)).cells) => sothers_any k (by omega) ⟨by omega, by omega⟩ ((mUp_lim mt _).trans hlim.out) hm hS)
      obtain ⟨J, hJ⟩ : ∃ J, J = oth k (sMid k js own) := ⟨_, rfl⟩
      rw [← hJ] at OTH
      have HJ := Lib.hid hJ
      clear hJ
      go_wp2_with (first
        | (go_at_call 32; ((with_reducible refine NO.out.mono ?_); rintro e wA ⟨rfl, hbA⟩; have SA : Hid (SW wA Sb QB QR mb nm (k : Int) (sMid k js own) g ((K8 - sOwn k js own : Nat) : Int) (sp + (sOwn k js own : Nat)) M) := Lib.hid (S.out.later hbA); have MA := Lib.hid (MM.out.below hbA MM.out.lt); have CA := Lib.hid (C.out.thenBelow hbA); obtain ⟨q0, q1, q2, q3, q4, q5, q7, zq⟩ := SA.out.cells; clear hbA))
        | (go_at_call 33; (with_reducible refine (OT.out _).mono ?_); rintro e w3 ⟨rfl, hb3⟩; have S3 := Lib.hid (SA.out.later hb3); have M3 := Lib.hid (MA.out.below hb3 MA.out.lt); have C3 := Lib.hid (CA.out.thenBelow hb3); clear hb3)
        | (go_at_call 30; ((with_reducible refine (sfund_any (k : Int) ⟨by omega, by omega⟩ S3.out).mono ?_); rintro e w4 ⟨rfl, hs4, hc4⟩; have S4 := Lib.hid hs4; have M4 := Lib.hid (M3.out.chg hc4 (fun e => S3.out.s.2.2.2.1 e.symm)); have C4 := Lib.hid (C3.out.trans (hc4.mono (fun b _ e => .inr (.inl e)))); clear hs4 hc4))
        | (go_at_call 34; ((with_reducible refine (OTH.out _ S4.out M4.out).mono ?_); rintro e w5 ⟨vE, c5, rfl, hr5, hs5, hm5, hc5⟩; have R5 := Lib.hid hr5; have S5 := Lib.hid hs5; have M5 := Lib.hid hm5; have C5 := Lib.hid hc5; have Z4 := Lib.hid C4.out.size; obtain ⟨aE, capE, rfl⟩ := ownsRow_slice hr5; clear hr5 hs5 hm5 hc5))
        | (go_at_call 14; ((with_reducible refine (sids_any S5.out).mono ?_); rintro e w6 ⟨vI, rfl, hr6, hb6⟩; obtain ⟨aI, capI, rfl⟩ := ownsRow_slice hr6; have R6 := Lib.hid hr6; have B6 := Lib.hid hb6; clear hr6 hb6))
        )
      have hJl := S5.out.len
      have hEl : J.2.1.length ≤ 40 := by
        have h1 := oth_len k (sMid k js own)
        rw [← HJ.out] at h1
        have h2 := H0.out.len
        have h3 := congrArg List.length (mid_ids k js own)
        rw [jIds, jIds, List.length_map, List.length_map] at h3
        omega
      have hnd := Lib.hid S5.out.nd
      have SL0 : Hid (SL w w6 Sb QB QR mb nm (k : Int) js J.1 g (c5 : Int) (sp + (sSpent k js own : Nat)) M (mUp mt (sSpent k js own)) (.slice aI J.1.length capI) (.slice aE J.2.1.length capE) J.2.1 0) := Lib.hid (by
        have hsub : ∀ y, y ∈ jIds J.1 → y ∈ jIds js := fun y hy => by
          have := (oth_sub k (sMid k js own)).subset (show y ∈ jIds (oth k (sMid k js own)).1 from HJ.out ▸ hy)
          rw [mid_ids] at this
          exact this
        have hsp2 : sp + (sSpent k js own : Nat) = sp + (sOwn k js own : Nat) + (J.2.2 : Nat) := by unfold sSpent; rw [HJ.out]; omega
        have hz4 := Z4.out
        have hz5 := C5.out.size
        refine ⟨?_, ?_, ?_, ?_, fun b e => ?_, ?_, hsub, HL.out, hMl⟩
        · rw [hsp2, (lp_zero J.1).1]
          exact S5.out.later B6.out
        · have := M5.out.below B6.out M5.out.lt
          rw [mUp_add] at this
          rw [show sSpent k js own = sOwn k js own + J.2.2 by unfold sSpent; rw [HJ.out]]
          exact this
        · rw [(lp_zero J.1).2, List.append_nil]
          exact ownsRow_own (ownsRow_base R5.out hz4) B6.out
        · exact readsInts_own R6.out
        · have h6 := R6.out.lt b e
          refine ⟨fun e2 => ?_, by omega, h6.2⟩
          have := (R5.out.lt b e2).2
          omega
        · refine (C4.out.trans (C5.out.mono (fun b _ e => ?_))).thenBelow B6.out
          rcases e with e | e
          · exact .inl e
          · exact .inr ((SX.ids (mid_ids k js own)).1 e))
      have hzs := SL0.out.s.cells
      clear hzs
      clear S3 M3 C3 S4 M4 C4 S5 M5 C5 R5 R6 B6 Z4 SA MA CA OTH OT
      go_loopg [46, 9] J.1.length (fun gk vi ve wr => ∃ (i : Nat) (vE' : Value), i + gk = J.1.length ∧ vi = .int .i64 (i : Int) ∧ ve = vE' ∧ SL w wr Sb QB QR mb nm (k : Int) js J.1 g (c5 : Int) (sp + (sSpent k js own : Nat)) M (mUp mt (sSpent k js own)) (.slice aI J.1.length capI) vE' J.2.1 i)
      case atStart => exact ⟨0, _, by omega, rfl, rfl, SL0.out⟩
      case round =>
        obtain ⟨i, vE, hi, rfl, rfl, hL⟩ := hrel
        clear SL0
        obtain ⟨nE, hnE⟩ : ∃ n, n = (J.2.1 ++ lpE J.1 i).length := ⟨_, rfl⟩
        have hnE8 : nE ≤ 80 := by
          have := lpE_len J.1 i
          rw [hnE, List.length_append]; omega
        have hre := hL.e
        rw [← hnE] at hre
        obtain ⟨aV, capV, rfl⟩ := ownsRow_slice hre
        have HNE := Lib.hid hnE
        have L := Lib.hid hL
        have hwf := Lib.hid (ids_wf hL.s)
        obtain ⟨a2, cap2, hv2, hcs⟩ := hL.r.cellsOf
        have HCS := Lib.hid hcs
        have hrn : (jIds J.1).length = J.1.length := by simp [jIds]
        clear hL hcs hre hnE
        by_cases hlt : i < J.1.length
        · have hltI : (i : Int) < (J.1.length : Int) := by omega
          obtain ⟨rb, ro, hae, hcj⟩ := HCS.out i (by omega)
          have hv3 := (Value.slice.inj hv2).1
          rw [hae] at hv3
          subst hv3
          have hc0 := hcj wr (Below.refl _ _)
          obtain ⟨p, hp⟩ : ∃ p, J.1[i]? = some p := ⟨J.1[i], List.getElem?_eq_getElem hlt⟩
          have hpx : (jIds J.1)[i]'(by omega) = p.1 := by
            have h2 : J.1[i] = p := by rw [List.getElem?_eq_getElem hlt] at hp; exact Option.some.inj hp
            simp [jIds, h2]
          rw [hpx] at hc0
          have hmem : p ∈ lpJ J.1 i := lp_at hp
          have hg := get_of_mem L.out.s.nd hmem
          have HP := Lib.hid hp
          have HX := Lib.hid (mem_ids hmem)
          obtain ⟨x, l⟩ := p
          simp only at hc0 hg HX
          have HG := Lib.hid hg
          obtain ⟨D, hD⟩ : ∃ D, D = (g x).D := ⟨_, rfl⟩
          have HD := Lib.hid hD
          have lk := L.out.s.look HX.out hD
          obtain ⟨e0, e1, e2, e3, e4, e5, e7, zS⟩ := L.out.s.cells
          clear hp hpx hmem hg hD hcj HCS hv2 hae
          by_cases hl0 : l = 0
          · subst hl0
            have h01 : ((0 : Nat) : Int) < 1 := by decide
            go_wp2_with (first
              | (go_at_call 10; (with_reducible refine (L.out.s.left HX.out HD.out HG.out).mono ?_); rintro e w7 ⟨rfl, hb7⟩; have L7 := Lib.hid (L.out.later hb7); clear hb7)
              | (go_at_call 20; ((with_reducible refine (sremove_any x (hwf.out x HX.out) L7.out.s).mono ?_); rintro e w8 ⟨rfl, hs8, hc8⟩; have S8 := Lib.hid hs8; have C8 := Lib.hid hc8; have R8 := Lib.hid (ownsRow_chg (by have h9 := L7.out.e; rw [← HNE.out] at h9; exact h9) hc8 (fun b hb e => by have h1 := HL.out QB (.inr (.inl rfl)); have h2 := HL.out QR (.inr (.inr (.inl rfl))); have h3 := HL.out mb (.inr (.inr (.inr (.inl rfl)))); omega)); have z8 := hc8.size; have z7 := L7.out.c.size; clear hs8 hc8))
              | (at_builtin; (refine app_own2 rfl _ _ 37 rfl w.heap.size 3 i0 (.int .i64 0) 1 8 Tryd.underlying37 hi0 hz0 hz1 hz2 rfl (by decide) _ _ _ rfl (R8.out.alloc _) ⟨w8.heap.size, 0, none⟩ 1 1 [.int .i64 x] rfl rfl (cell_one_new _ _ _) (by simp [Value.oneCell']) (by unfold maxLen; omega) (by omega) (by simp; omega) (by decide) ?_; intro v9 w9 hown9 hgrow9 hf9; have O9 := Lib.hid hown9; have G9 := Lib.hid hgrow9; have F9 := Lib.hid hf9; obtain ⟨a9, cap9, rfl⟩ := ownsRow_succ hown9; clear hown9 hgrow9 hf9)))
            go_roundg (gk - 1)
            case measure => omega
            case rel => exact ⟨i + 1, _, by omega, by go_num, rfl, L7.out.cut hnd.out HP.out rfl S8.out C8.out _ HNE.out O9.out G9.out F9.out⟩
          · have h01 : ¬ (l : Int) < 1 := by omega
            go_wp2_with (go_at_call 10; (with_reducible refine (L.out.s.left HX.out HD.out HG.out).mono ?_); rintro e w7 ⟨rfl, hb7⟩; have L7 := Lib.hid (L.out.later hb7); clear hb7)
            go_roundg (gk - 1)
            case measure => omega
            case rel => exact ⟨i + 1, _, by omega, by go_num, rfl, L7.out.yes HP.out (Nat.pos_of_ne_zero hl0)⟩
        · obtain rfl : i = J.1.length := by omega
          clear hv2 HCS
          go_wp2
          go_ret
          have hE : J.2.1 ++ lpE J.1 J.1.length = sEnd k js own := by rw [(lp_end J.1).2]; unfold sEnd; rw [HJ.out]
          have hS : lpJ J.1 J.1.length = sJobs k js own := by rw [(lp_end J.1).1]; unfold sJobs; rw [HJ.out]
          have e := L.out.e
          have s := L.out.s
          rw [hE] at e
          rw [hS] at s
          exact ⟨_, c5, rfl, e, s, L.out.m, L.out.c⟩
set_option maxRecDepth 100000 in
set_option maxHeartbeats 8000000 in
theorem sserve_no (k : Nat) (hk : 1 ≤ k ∧ k ≤ 64) (own : Int) (hw0 : (Lit.int .i64 own).wf = true) (hx : own ∉ jIds js) (hsp : 0 ≤ sp ∧ sp ≤ 700000) {mt : MeterS} (hlm : mt.limited = false) (hM : Blk w M 35 mt.cells) (h : SW w Sb QB QR mb nm (k : Int) js g bal sp M) :
    Calls Tryd.prog 11 #[.pointer (some ⟨Sb, 0, none⟩), .pointer (some ⟨M, 0, none⟩), .int .i64 own] w fun e w' => ∃ (v : Value) (b' : Nat), e = .returned v ∧ w'.ownsRow w.heap.size 3 1 v (sEnd k js own).length ((sEnd k js own).map (Value.int .i64)) ∧ SW w' Sb QB QR mb nm (k : Int) (sJobs k js own) g (b' : Int) (sp + (sSpent k js own : Nat)) M ∧ Blk w' M 35 (mUp mt (sSpent k js own)).cells ∧ Chg (fun b => b = M ∨ SX Sb QB QR mb js g b) w w' := by
  obtain ⟨i0, hi0, hz0, hz1, hz2⟩ := info_parts info3q
  have HL := Lib.hid h.lt
  have hMl := hM.lt
  have hlim := Lib.hid hlm
  have H0 := Lib.hid h
  have HM0 := Lib.hid hM
  have HX := Lib.hid hx
  have hw := Lib.hid hw0
  obtain ⟨c0, c1, c2, c3, c4, c5, c7, z⟩ := h.cells
  obtain ⟨K8, hK8⟩ : ∃ K8, K8 = 8 * k := ⟨_, rfl⟩
  have hK8a : 1 ≤ K8 ∧ K8 ≤ 512 := by omega
  have hO0 : sOwn k js own = 0 := by unfold sOwn; rw [get_none js own hx]; exact Nat.zero_min _
  have hM0 : sMid k js own = js := by unfold sMid; rw [hO0]; exact sub_zero js own
  have hO8 : sOwn k js own ≤ K8 := by omega
  have HO0 := Lib.hid hO0
  have HM1 := Lib.hid hM0
  have OW := Lib.hid (fun (W : World) => show Calls Tryd.prog 31 #[.agg #[.int .i64 (k : Int), .int .i64 1, .int .i64 1]] W fun e w' => e = .returned (.int .i64 ((K8 : Nat) : Int)) ∧ Below W.heap.size W w' from by
    have h := own_any (k : Int) 1 1 W
    rw [show timesZ (k : Int) 8 0 = ((K8 : Nat) : Int) by unfold timesZ; rw [if_pos (by omega)]; omega] at h
    exact h)
  have LK := Lib.hid (fun (W : World) (hS : SW W Sb QB QR mb nm (k : Int) js g ((K8 : Nat) : Int) sp M) => show (Instr.lookup 62 (.map (some mb)) (.int .i64 own) true).run Tryd.prog W = .ok (.tuple #[.nilIface, .bool false]) W from
    (hS.m.lookOk Tryd.underlying3 Tryd.underlying62 (by kernel_rfl) own hw.out).2 HX.out)
  clear h hM hx hlm hK8 hO0 hM0 hw0
  have OT := Lib.hid (fun (W : World) => show Calls Tryd.prog 33 #[.agg #[.int .i64 (k : Int), .int .i64 1, .int .i64 1]] W fun e w' => e = .returned (.int .i64 (k : Int)) ∧ Below W.heap.size W w' from by
    have h := other_any (k : Int) 1 1 W
    rw [show timesZ (k : Int) 1 0 = (k : Int) by unfold timesZ; rw [if_pos (by omega)]; omega] at h
    exact h)
  have OTH := Lib.hid (fun (W : World) (hS : SW W Sb QB QR mb nm (k : Int) (sMid k js own) g (k : Int) (sp + (sOwn k js own : Nat)) M) (hm : Blk W M 35 (mUp mt (sOwn k js own)).cells) => sothers_any k (by omega) ⟨by omega, by omega⟩ ((mUp_lim mt _).trans hlim.out) hm hS)
  obtain ⟨J, hJ⟩ : ∃ J, J = oth k (sMid k js own) := ⟨_, rfl⟩
  rw [← hJ] at OTH
  have HJ := Lib.hid hJ
  clear hJ
  go_enter Tryd.func11, Tryd.ntmps11
  go_wp2_with (first
    | (go_at_call 31; (with_reducible refine (OW.out _).mono ?_); rintro e w1 ⟨rfl, hb1⟩; have S1 := Lib.hid (H0.out.later hb1); have M1 := Lib.hid (HM0.out.below hb1 HM0.out.lt); have C1 := Lib.hid (Chg.of_below (X := fun b => b = M ∨ SX Sb QB QR mb js g b) hb1); clear hb1)
    | (go_at_call 30; ((with_reducible refine (sfund_any ((K8 : Nat) : Int) ⟨by omega, by omega⟩ S1.out).mono ?_); rintro e wA ⟨rfl, hs2, hc2⟩; have MA := Lib.hid (show Blk wA M 35 (mUp mt (sOwn k js own)).cells from by rw [HO0.out]; exact M1.out.chg hc2 (fun e => S1.out.s.2.2.2.1 e.symm)); have CA := Lib.hid (C1.out.trans (hc2.mono (fun b _ e => .inr (.inl e)))); obtain ⟨d0, d1, d2, d3, d4, d5, d7, zd⟩ := hs2.cells; have lk2 := LK.out _ hs2; have SA := Lib.hid (show SW wA Sb QB QR mb nm (k : Int) (sMid k js own) g ((K8 : Nat) : Int) (sp + (sOwn k js own : Nat)) M from by rw [HM1.out, HO0.out]; simpa using hs2); clear hs2 hc2 S1 M1 C1))
    | (go_at_call 33; (with_reducible refine (OT.out _).mono ?_); rintro e w3 ⟨rfl, hb3⟩; have S3 := Lib.hid (SA.out.later hb3); have M3 := Lib.hid (MA.out.below hb3 MA.out.lt); have C3 := Lib.hid (CA.out.thenBelow hb3); clear hb3)
    | (go_at_call 30; ((with_reducible refine (sfund_any (k : Int) ⟨by omega, by omega⟩ S3.out).mono ?_); rintro e w4 ⟨rfl, hs4, hc4⟩; have S4 := Lib.hid hs4; have M4 := Lib.hid (M3.out.chg hc4 (fun e => S3.out.s.2.2.2.1 e.symm)); have C4 := Lib.hid (C3.out.trans (hc4.mono (fun b _ e => .inr (.inl e)))); clear hs4 hc4))
    | (go_at_call 34; ((with_reducible refine (OTH.out _ S4.out M4.out).mono ?_); rintro e w5 ⟨vE, c5, rfl, hr5, hs5, hm5, hc5⟩; have R5 := Lib.hid hr5; have S5 := Lib.hid hs5; have M5 := Lib.hid hm5; have C5 := Lib.hid hc5; have Z4 := Lib.hid C4.out.size; obtain ⟨aE, capE, rfl⟩ := ownsRow_slice hr5; clear hr5 hs5 hm5 hc5))
    | (go_at_call 14; ((with_reducible refine (sids_any S5.out).mono ?_); rintro e w6 ⟨vI, rfl, hr6, hb6⟩; obtain ⟨aI, capI, rfl⟩ := ownsRow_slice hr6; have R6 := Lib.hid hr6; have B6 := Lib.hid hb6; clear hr6 hb6))
    )
  have hJl := S5.out.len
  have hEl : J.2.1.length ≤ 40 := by
    have h1 := oth_len k (sMid k js own)
    rw [← HJ.out] at h1
    have h2 := H0.out.len
    have h3 := congrArg List.length (mid_ids k js own)
    rw [jIds, jIds, List.length_map, List.length_map] at h3
    omega
  have hnd := Lib.hid S5.out.nd
  have SL0 : Hid (SL w w6 Sb QB QR mb nm (k : Int) js J.1 g (c5 : Int) (sp + (sSpent k js own : Nat)) M (mUp mt (sSpent k js own)) (.slice aI J.1.length capI) (.slice aE J.2.1.length capE) J.2.1 0) := Lib.hid (by
    have hsub : ∀ y, y ∈ jIds J.1 → y ∈ jIds js := fun y hy => by
      have := (oth_sub k (sMid k js own)).subset (show y ∈ jIds (oth k (sMid k js own)).1 from HJ.out ▸ hy)
      rw [mid_ids] at this
      exact this
    have hsp2 : sp + (sSpent k js own : Nat) = sp + (sOwn k js own : Nat) + (J.2.2 : Nat) := by unfold sSpent; rw [HJ.out]; omega
    have hz4 := Z4.out
    have hz5 := C5.out.size
    refine ⟨?_, ?_, ?_, ?_, fun b e => ?_, ?_, hsub, HL.out, hMl⟩
    · rw [hsp2, (lp_zero J.1).1]
      exact S5.out.later B6.out
    · have := M5.out.below B6.out M5.out.lt
      rw [mUp_add] at this
      rw [show sSpent k js own = sOwn k js own + J.2.2 by unfold sSpent; rw [HJ.out]]
      exact this
    · rw [(lp_zero J.1).2, List.append_nil]
      exact ownsRow_own (ownsRow_base R5.out hz4) B6.out
    · exact readsInts_own R6.out
    · have h6 := R6.out.lt b e
      refine ⟨fun e2 => ?_, by omega, h6.2⟩
      have := (R5.out.lt b e2).2
      omega
    · refine (C4.out.trans (C5.out.mono (fun b _ e => ?_))).thenBelow B6.out
      rcases e with e | e
      · exact .inl e
      · exact .inr ((SX.ids (mid_ids k js own)).1 e))
  have hzs := SL0.out.s.cells
  clear hzs
  clear S3 M3 C3 S4 M4 C4 S5 M5 C5 R5 R6 B6 Z4 SA MA CA OTH OT
  go_loopg [46, 9] J.1.length (fun gk vi ve wr => ∃ (i : Nat) (vE' : Value), i + gk = J.1.length ∧ vi = .int .i64 (i : Int) ∧ ve = vE' ∧ SL w wr Sb QB QR mb nm (k : Int) js J.1 g (c5 : Int) (sp + (sSpent k js own : Nat)) M (mUp mt (sSpent k js own)) (.slice aI J.1.length capI) vE' J.2.1 i)
  case atStart => exact ⟨0, _, by omega, rfl, rfl, SL0.out⟩
  case round =>
    obtain ⟨i, vE, hi, rfl, rfl, hL⟩ := hrel
    clear SL0
    obtain ⟨nE, hnE⟩ : ∃ n, n = (J.2.1 ++ lpE J.1 i).length := ⟨_, rfl⟩
    have hnE8 : nE ≤ 80 := by
      have := lpE_len J.1 i
      rw [hnE, List.length_append]; omega
    have hre := hL.e
    rw [← hnE] at hre
    obtain ⟨aV, capV, rfl⟩ := ownsRow_slice hre
    have HNE := Lib.hid hnE
    have L := Lib.hid hL
    have hwf := Lib.hid (ids_wf hL.s)
    obtain ⟨a2, cap2, hv2, hcs⟩ := hL.r.cellsOf
    have HCS := Lib.hid hcs
    have hrn : (jIds J.1).length = J.1.length := by simp [jIds]
    clear hL hcs hre hnE
    by_cases hlt : i < J.1.length
    · have hltI : (i : Int) < (J.1.length : Int) := by omega
      obtain ⟨rb, ro, hae, hcj⟩ := HCS.out i (by omega)
      have hv3 := (Value.slice.inj hv2).1
      rw [hae] at hv3
      subst hv3
      have hc0 := hcj wr (Below.refl _ _)
      obtain ⟨p, hp⟩ : ∃ p, J.1[i]? = some p := ⟨J.1[i], List.getElem?_eq_getElem hlt⟩
      have hpx : (jIds J.1)[i]'(by omega) = p.1 := by
        have h2 : J.1[i] = p := by rw [List.getElem?_eq_getElem hlt] at hp; exact Option.some.inj hp
        simp [jIds, h2]
      rw [hpx] at hc0
      have hmem : p ∈ lpJ J.1 i := lp_at hp
      have hg := get_of_mem L.out.s.nd hmem
      have HP := Lib.hid hp
      have HX := Lib.hid (mem_ids hmem)
      obtain ⟨x, l⟩ := p
      simp only at hc0 hg HX
      have HG := Lib.hid hg
      obtain ⟨D, hD⟩ : ∃ D, D = (g x).D := ⟨_, rfl⟩
      have HD := Lib.hid hD
      have lk := L.out.s.look HX.out hD
      obtain ⟨e0, e1, e2, e3, e4, e5, e7, zS⟩ := L.out.s.cells
      clear hp hpx hmem hg hD hcj HCS hv2 hae
      by_cases hl0 : l = 0
      · subst hl0
        have h01 : ((0 : Nat) : Int) < 1 := by decide
        go_wp2_with (first
          | (go_at_call 10; (with_reducible refine (L.out.s.left HX.out HD.out HG.out).mono ?_); rintro e w7 ⟨rfl, hb7⟩; have L7 := Lib.hid (L.out.later hb7); clear hb7)
          | (go_at_call 20; ((with_reducible refine (sremove_any x (hwf.out x HX.out) L7.out.s).mono ?_); rintro e w8 ⟨rfl, hs8, hc8⟩; have S8 := Lib.hid hs8; have C8 := Lib.hid hc8; have R8 := Lib.hid (ownsRow_chg (by have h9 := L7.out.e; rw [← HNE.out] at h9; exact h9) hc8 (fun b hb e => by have h1 := HL.out QB (.inr (.inl rfl)); have h2 := HL.out QR (.inr (.inr (.inl rfl))); have h3 := HL.out mb (.inr (.inr (.inr (.inl rfl)))); omega)); have z8 := hc8.size; have z7 := L7.out.c.size; clear hs8 hc8))
          | (at_builtin; (refine app_own2 rfl _ _ 37 rfl w.heap.size 3 i0 (.int .i64 0) 1 8 Tryd.underlying37 hi0 hz0 hz1 hz2 rfl (by decide) _ _ _ rfl (R8.out.alloc _) ⟨w8.heap.size, 0, none⟩ 1 1 [.int .i64 x] rfl rfl (cell_one_new _ _ _) (by simp [Value.oneCell']) (by unfold maxLen; omega) (by omega) (by simp; omega) (by decide) ?_; intro v9 w9 hown9 hgrow9 hf9; have O9 := Lib.hid hown9; have G9 := Lib.hid hgrow9; have F9 := Lib.hid hf9; obtain ⟨a9, cap9, rfl⟩ := ownsRow_succ hown9; clear hown9 hgrow9 hf9)))
        go_roundg (gk - 1)
        case measure => omega
        case rel => exact ⟨i + 1, _, by omega, by go_num, rfl, L7.out.cut hnd.out HP.out rfl S8.out C8.out _ HNE.out O9.out G9.out F9.out⟩
      · have h01 : ¬ (l : Int) < 1 := by omega
        go_wp2_with (go_at_call 10; (with_reducible refine (L.out.s.left HX.out HD.out HG.out).mono ?_); rintro e w7 ⟨rfl, hb7⟩; have L7 := Lib.hid (L.out.later hb7); clear hb7)
        go_roundg (gk - 1)
        case measure => omega
        case rel => exact ⟨i + 1, _, by omega, by go_num, rfl, L7.out.yes HP.out (Nat.pos_of_ne_zero hl0)⟩
    · obtain rfl : i = J.1.length := by omega
      clear hv2 HCS
      go_wp2
      go_ret
      have hE : J.2.1 ++ lpE J.1 J.1.length = sEnd k js own := by rw [(lp_end J.1).2]; unfold sEnd; rw [HJ.out]
      have hS : lpJ J.1 J.1.length = sJobs k js own := by rw [(lp_end J.1).1]; unfold sJobs; rw [HJ.out]
      have e := L.out.e
      have s := L.out.s
      rw [hE] at e
      rw [hS] at s
      exact ⟨_, c5, rfl, e, s, L.out.m, L.out.c⟩
theorem sserve_any (k : Nat) (hk : 1 ≤ k ∧ k ≤ 64) (own : Int) (hw : (Lit.int .i64 own).wf = true) (hsp : 0 ≤ sp ∧ sp ≤ 700000) {mt : MeterS} (hlm : mt.limited = false) (hM : Blk w M 35 mt.cells) (h : SW w Sb QB QR mb nm (k : Int) js g bal sp M) :
    Calls Tryd.prog 11 #[.pointer (some ⟨Sb, 0, none⟩), .pointer (some ⟨M, 0, none⟩), .int .i64 own] w fun e w' => ∃ (v : Value) (b' : Nat), e = .returned v ∧ w'.ownsRow w.heap.size 3 1 v (sEnd k js own).length ((sEnd k js own).map (Value.int .i64)) ∧ SW w' Sb QB QR mb nm (k : Int) (sJobs k js own) g (b' : Int) (sp + (sSpent k js own : Nat)) M ∧ Blk w' M 35 (mUp mt (sSpent k js own)).cells ∧ Chg (fun b => b = M ∨ SX Sb QB QR mb js g b) w w' := by
  by_cases hx : own ∈ jIds js
  · exact sserve_yes k hk own hx hsp hlm hM h
  · exact sserve_no k hk own hw hx hsp hlm hM h
end
end Go.Proofs.YtolhmibejhldkaaDoor

namespace Go.Proofs.YtolhmibejhldkaaDoor
open Go.RowKit Go.Proofs
attribute [local go_sem] neq_nilG
theorem ids_snoc (js : List (Int × Nat)) (x : Int) (l : Nat) : jIds (js ++ [(x, l)]) = jIds js ++ [x] := by simp [jIds]
section
variable {w w' : World} {Sb QB QR mb nm M : Nat} {k : Int} {js : List (Int × Nat)} {g : Int → JB} {bal sp : Int}
theorem SW.added {x : Int} {p : JB} {nm' : Nat} (h : SW w Sb QB QR mb nm k js g bal sp M) (hx : x ∉ jIds js) (hq : QL w' QB QR 40 (jIds js ++ [x])) (hm : JM Tryd.prog 3 28 w' mb nm' (jIds js ++ [x]) (fun y => if y = x then p.D else (g y).D))
    (hb : BW w' p.D p.B p.Q p.n 0 false) (hc : Chg (fun b => b = QB ∨ b = QR ∨ b = mb) w w') (hap : ∀ y ∈ jIds js, ∀ b, JX p b → ¬ JX (g y) b) (hax : ∀ b, JX p b → b ≠ Sb ∧ b ≠ QB ∧ b ≠ QR ∧ b ≠ mb ∧ b ≠ M) :
    SW w' Sb QB QR mb nm' k (js ++ [(x, p.n)]) (fun y => if y = x then p else g y) bal sp M := by
  obtain ⟨fz, h0⟩ := h.b
  obtain ⟨s1, s2, s3, s4, s5, s6, s7, s8, s9⟩ := h.s
  have hne : ∀ y ∈ jIds js, y ≠ x := fun y hy e => hx (e ▸ hy)
  have hmem : ∀ y, y ∈ jIds js ++ [x] → y ∈ jIds js ∨ y = x := fun y hy => by simpa using hy
  refine ⟨⟨fz, h0.chg hc (fun e => by rcases e with e | e | e; exact s1 e; exact s2 e; exact s3 e)⟩, by rw [ids_snoc]; exact hq, by rw [ids_snoc]; exact hm.congr (fun _ => Iff.rfl) (fun y _ => by show (if y = x then p else g y).D = if y = x then p.D else (g y).D; split <;> rfl), by rw [ids_snoc]; exact nodup_snoc h.nd hx, fun q hq => ?_, ?_, ?_, h.s⟩
  · rcases List.mem_append.1 hq with hq | hq
    · have hqi := mem_ids hq
      obtain ⟨j1, j2⟩ := h.j q hq
      have ha := h.ax q.1 hqi
      have hf : ∀ b, JX (g q.1) b → ¬ (b = QB ∨ b = QR ∨ b = mb) := fun b hb e => by
        have := ha b hb
        rcases e with e | e | e
        · exact this.2.1 e
        · exact this.2.2.1 e
        · exact this.2.2.2.1 e
      show q.2 ≤ (if q.1 = x then p else g q.1).n ∧ BW w' (if q.1 = x then p else g q.1).D (if q.1 = x then p else g q.1).B (if q.1 = x then p else g q.1).Q (if q.1 = x then p else g q.1).n ((if q.1 = x then p else g q.1).n - q.2) false
      rw [if_neg (hne _ hqi)]
      exact ⟨j1, j2.chg hc (hf _ (.inl rfl)) (hf _ (.inr (.inl rfl))) (hf _ (.inr (.inr rfl)))⟩
    · obtain rfl : q = (x, p.n) := by simpa using hq
      show p.n ≤ (if x = x then p else g x).n ∧ BW w' (if x = x then p else g x).D (if x = x then p else g x).B (if x = x then p else g x).Q (if x = x then p else g x).n ((if x = x then p else g x).n - p.n) false
      rw [if_pos rfl, Nat.sub_self]
      exact ⟨Nat.le_refl _, hb⟩
  · rw [ids_snoc]
    intro a ha b hb hab c
    show JX (if a = x then p else g a) c → ¬ JX (if b = x then p else g b) c
    rcases hmem a ha with ka | rfl
    · rw [if_neg (hne a ka)]
      rcases hmem b hb with kb | rfl
      · rw [if_neg (hne b kb)]; exact h.ap a ka b kb hab c
      · rw [if_pos rfl]; exact fun h1 h2 => hap a ka c h2 h1
    · rw [if_pos rfl]
      rcases hmem b hb with kb | rfl
      · rw [if_neg (hne b kb)]; exact fun h1 h2 => hap b kb c h1 h2
      · exact absurd rfl hab
  · rw [ids_snoc]
    intro a ha b
    show JX (if a = x then p else g a) b → _
    rcases hmem a ha with ha | rfl
    · rw [if_neg (hne a ha)]; exact h.ax a ha b
    · rw [if_pos rfl]; exact hax b
set_option maxRecDepth 100000 in
theorem sadd_ok (x : Int) (hw : (Lit.int .i64 x).wf = true) (hx : x ∉ jIds js) (hlen : js.length < 40) (p : JB) (E : Nat → Addr) (he : EC w E [1, 2, 16]) (hn : nm < 1000) (hb : BW w p.D p.B p.Q p.n 0 false) (hap : ∀ y ∈ jIds js, ∀ b, JX p b → ¬ JX (g y) b) (hax : ∀ b, JX p b → b ≠ Sb ∧ b ≠ QB ∧ b ≠ QR ∧ b ≠ mb ∧ b ≠ M) (h : SW w Sb QB QR mb nm k js g bal sp M) :
    Calls Tryd.prog 9 #[.pointer (some ⟨Sb, 0, none⟩), .int .i64 x, .iface 28 (.pointer (some ⟨p.D, 0, none⟩))] w fun e w' =>
      e = .returned .nilIface ∧ SW w' Sb QB QR mb (nm + 1) k (js ++ [(x, p.n)]) (fun y => if y = x then p else g y) bal sp M ∧ Chg (fun b => b = QB ∨ b = QR ∨ b = mb) w w' := by
  have hp0 : pushN 40 (jIds js) x = 0 := by unfold pushN; rw [if_neg hx, if_pos (by simpa [jIds] using hlen)]
  have hpl : pushL 40 (jIds js) x = jIds js ++ [x] := by unfold pushL; rw [if_pos hp0]
  have PU := Lib.hid (push_any QB QR 40 (jIds js) x E w h.q he)
  rw [hp0, hpl, errN_0] at PU
  have H := Lib.hid h
  have HB := Lib.hid hb
  have HAP := Lib.hid hap
  have HAX := Lib.hid hax
  obtain ⟨s1, s2, s3, s4, s5, s6, s7, s8, s9⟩ := Lib.hid h.s |>.out
  obtain ⟨c0, c1, c2, c3, c4, c5, c7, z⟩ := h.cells
  have HX := Lib.hid hx
  obtain ⟨D, hD⟩ : ∃ D, D = p.D := ⟨_, rfl⟩
  rw [← hD]
  have HD := Lib.hid hD
  clear h hb hap hax hp0 hpl he hlen hx hD
  go_enter Tryd.func9, Tryd.ntmps9
  go_wp2_with (go_at_call 29; (with_reducible refine PU.out.mono ?_); rintro e w1 ⟨rfl, hq1, hc1⟩; have d4 := (hc1.cell (p := ⟨Sb, 4, none⟩) z (fun e => by rcases e with e | e; exact s1 e; exact s2 e)).trans c4; have z1 := Nat.lt_of_lt_of_le z hc1.size; obtain ⟨w2, hrun, hm2, hc2⟩ := (H.out.m.chg hc1 (fun e => by rcases e with e | e; exact s5 e.symm; exact s6 e.symm)).put Tryd.underlying3 Tryd.underlying62 (by unfold maxLen; omega) x hw D; rw [show jobVal 28 D = .iface 28 (.pointer (some ⟨D, 0, none⟩)) from rfl] at hrun; have Q1 := Lib.hid hq1; have C1 := Lib.hid hc1; have M2 := Lib.hid hm2; have C2 := Lib.hid hc2; clear hq1 hc1 hm2 hc2)
  go_ret
  have hd := HD.out
  subst hd
  have hcc : Chg (fun b => b = QB ∨ b = QR ∨ b = mb) w w2 := (C1.out.mono (fun b _ e => by rcases e with e | e; exact .inl e; exact .inr (.inl e))).trans (C2.out.mono (fun b _ e => .inr (.inr e)))
  have hf : ∀ b, JX p b → ¬ (b = QB ∨ b = QR ∨ b = mb) := fun b hb e => by
    have := HAX.out b hb
    rcases e with e | e | e
    · exact this.2.1 e
    · exact this.2.2.1 e
    · exact this.2.2.2.1 e
  exact ⟨rfl, H.out.added HX.out (Q1.out.chg C2.out s5 s6) M2.out (HB.out.chg hcc (hf _ (.inl rfl)) (hf _ (.inr (.inl rfl))) (hf _ (.inr (.inr rfl)))) hcc HAP.out HAX.out, hcc⟩
set_option maxRecDepth 100000 in
theorem sadd_no (x : Int) (hx : x ∈ jIds js ∨ 40 ≤ js.length) (v : Value) (hv : ∃ D, v = .iface 28 (.pointer (some ⟨D, 0, none⟩))) (E : Nat → Addr) (he : EC w E [1, 2, 16]) (h : SW w Sb QB QR mb nm k js g bal sp M) :
    Calls Tryd.prog 9 #[.pointer (some ⟨Sb, 0, none⟩), .int .i64 x, v] w fun e w' =>
      e = .returned (errAt E (if x ∈ jIds js then 16 else 2)) ∧ SW w' Sb QB QR mb nm k js g bal sp M ∧ Chg (fun b => b = QB ∨ b = QR) w w' := by
  obtain ⟨D, rfl⟩ := hv
  have hp0 : pushN 40 (jIds js) x = (if x ∈ jIds js then 16 else 2) := by
    unfold pushN
    split
    · rfl
    · rename_i hn
      rw [if_neg (by have := hx.resolve_left hn; simpa [jIds] using this)]
  have hp1 : (if x ∈ jIds js then 16 else 2) ≠ 0 := by split <;> decide
  have hpl : pushL 40 (jIds js) x = jIds js := by unfold pushL; rw [if_neg (by rw [hp0]; exact hp1)]
  have PU := Lib.hid (push_any QB QR 40 (jIds js) x E w h.q he)
  rw [hp0, hpl, errN_nz _ _ hp1] at PU
  generalize (if x ∈ jIds js then 16 else 2) = er at PU ⊢
  have H := Lib.hid h
  obtain ⟨s1, s2, s3, s4, s5, s6, s7, s8, s9⟩ := h.s
  obtain ⟨c0, c1, c2, c3, c4, c5, c7, z⟩ := h.cells
  clear h hp0 hpl hp1 he hx
  unfold errAt at PU ⊢
  go_enter Tryd.func9, Tryd.ntmps9
  go_wp2_with (go_at_call 29; (with_reducible refine PU.out.mono ?_); rintro e w1 ⟨rfl, hq1, hc1⟩; have Q1 := Lib.hid hq1; have C1 := Lib.hid hc1; clear hq1 hc1)
  go_ret
  obtain ⟨fz, h0⟩ := H.out.b
  have hS := H.out
  refine ⟨rfl, ⟨⟨fz, h0.chg C1.out (fun e => by rcases e with e | e; exact s1 e; exact s2 e)⟩, Q1.out, hS.m.chg C1.out (fun e => by rcases e with e | e; exact s5 e.symm; exact s6 e.symm), hS.nd, fun p hp => ?_, hS.ap, hS.ax, hS.s⟩, C1.out⟩
  have ha := hS.ax p.1 (mem_ids hp)
  have hf : ∀ b, JX (g p.1) b → ¬ (b = QB ∨ b = QR) := fun b hb e => by
    have := ha b hb
    rcases e with e | e
    · exact this.2.1 e
    · exact this.2.2.1 e
  exact ⟨(hS.j p hp).1, (hS.j p hp).2.chg C1.out (hf _ (.inl rfl)) (hf _ (.inr (.inl rfl))) (hf _ (.inr (.inr rfl)))⟩
end
end Go.Proofs.YtolhmibejhldkaaDoor

namespace Go.Proofs.YtolhmibejhldkaaDoor
open Go.RowKit Go.Proofs
attribute [local go_sem] neq_nilG
set_option maxRecDepth 100000 in
theorem snew_bad (k : Int) (hk : ¬ (1 ≤ k ∧ k ≤ 64)) (E : Nat → Addr) (w : World) (hc : w.cell? ⟨1, 0, none⟩ = some (errAt E 1)) :
    Calls Tryd.prog 7 #[.int .i64 k] w fun e w' => e = .returned (.tuple #[.pointer none, errAt E 1]) ∧ Below w.heap.size w w' := by
  have hz := World.block_lt_of_cell? _ _ hc
  have CK := Lib.hid (fun (w' : World) (h : Below w.heap.size w w') => show Calls Tryd.prog 26 #[.agg #[.int .i64 k, .int .i64 1, .int .i64 1]] w' fun e w'' => e = .returned (errAt E 1) ∧ Below w.heap.size w w'' from (check_no k 1 1 (fun h => hk h.1) E w' ((h.cell (p := ⟨1, 0, none⟩) hz).trans hc)).mono fun e w'' q => ⟨q.1, h.trans (q.2.mono h.size)⟩)
  clear hc
  unfold errAt at CK ⊢
  go_enter Tryd.func7, Tryd.ntmps7
  go_wp2_with (go_at_call 26; (with_reducible refine (CK.out _ (by go_grown)).mono ?_); rintro e w1 ⟨rfl, hb1⟩)
  go_ret2
  exact ⟨rfl, hb1⟩
set_option maxRecDepth 100000 in
theorem snew_ok (k : Int) (hk : 1 ≤ k ∧ k ≤ 64) (g : Int → JB) (w : World) :
    Calls Tryd.prog 7 #[.int .i64 k] w fun e w' => ∃ Sb QB QR mb, e = .returned (.tuple #[.pointer (some ⟨Sb, 0, none⟩), .nilIface]) ∧ (∀ M, M < w.heap.size ∨ w'.heap.size ≤ M → SW w' Sb QB QR mb 0 k [] g 0 0 M) ∧ w.heap.size ≤ Sb ∧ w.heap.size ≤ QB ∧ w.heap.size ≤ QR ∧ w.heap.size ≤ mb ∧ Below w.heap.size w w' := by
  have CK := Lib.hid (fun (w' : World) (h : Below w.heap.size w w') (hb : Blk w' w.heap.size 57 #[.int .i64 k, .int .i64 1, .int .i64 1]) => show Calls Tryd.prog 26 #[.agg #[.int .i64 k, .int .i64 1, .int .i64 1]] w' fun e w'' => e = .returned .nilIface ∧ Below w.heap.size w w'' ∧ Blk w'' w.heap.size 57 #[.int .i64 k, .int .i64 1, .int .i64 1] from (check_yes k 1 1 ⟨hk, by decide, by decide⟩ w').mono fun e w'' q => ⟨q.1, h.trans (q.2.mono h.size), hb.below q.2 hb.lt⟩)
  have QN := Lib.hid (fun (w' : World) => show Calls Tryd.prog 27 #[.int .i64 40] w' (NewL 40 w') from new_any 40 (by decide) (by decide) w')
  have hmm := @run_makeMap Tryd.prog
  clear hk
  go_enter Tryd.func7, Tryd.ntmps7
  go_wp2_with (first
    | (go_at_call 26; ((with_reducible refine (CK.out _ (by go_grown) (Blk.new _ _ _)).mono ?_); rintro e w1 ⟨rfl, HB1, hk1⟩; have K1 := Lib.hid hk1; clear hk1))
    | (go_at_call 27; ((with_reducible refine (QN.out _).mono ?_); rintro e w2 ⟨QB, QR, rfl, hq, y1, y2, hb2⟩; have Q := Lib.hid hq; have y1' := Nat.le_trans HB1.size y1; have y2' := Nat.le_trans HB1.size y2; have hz1 := HB1.size; have HB2 := HB1.trans (hb2.mono hz1); have hz2 := hb2.size; have hz2' := HB2.size; have K2 := Lib.hid (K1.out.below hb2 K1.out.lt); have k0 := K2.out.cell 0; have k1 := K2.out.cell 1; have k2 := K2.out.cell 2; have kz := K2.out.lt; clear hq)))
  go_ret2
  obtain ⟨z1, z2, z3⟩ := Q.out.lt
  have hb3 : ∀ o p : Obj, Below w2.heap.size w2 ((w2.alloc o).alloc p) := fun o p => ((Below.refl w2.heap.size w2).alloc (Nat.le_refl _) o).alloc (by simp) p
  have hm : JM Tryd.prog 3 28 (w2.alloc (.map #[] 0)) w2.heap.size 0 [] (fun x => (g x).D) := JM.made w2
  refine ⟨w2.heap.size + 1, QB, QR, w2.heap.size, rfl, fun M hM => ⟨⟨_, Blk.new_at (by simp)⟩, Q.out.below (hb3 _ _), hm.later ((Below.refl _ _).alloc (Nat.le_refl _) _), List.nodup_nil, ?_, ?_, ?_, ?_⟩, by omega, y1', y2', by omega, HB2.trans ((hb3 _ _).mono hz2')⟩
  · intro p hp; cases hp
  · intro x hx; cases hx
  · intro x hx; cases hx
  · rw [World.size_alloc, World.size_alloc] at hM
    omega
end Go.Proofs.YtolhmibejhldkaaDoor

namespace Go.Proofs.YtolhmibejhldkaaDoor
open Go.RowKit Go.Proofs
def addJ (js : List (Int × Nat)) (x : Int) (n : Nat) : List (Int × Nat) := if pushN 40 (jIds js) x = 0 then js ++ [(x, n)] else js
structure SS (w0 w : World) (Sb QB QR mb nm : Nat) (k : Nat) (js : List (Int × Nat)) (g : Int → JB) (sp : Nat) (M : Nat) (mt : MeterS) (E : Nat → Addr) : Prop where
  s : ∃ bal, SW w Sb QB QR mb nm (k : Int) js g bal (sp : Int) M
  m : Blk w M 35 mt.cells
  l : mt.limited = false
  b : Below w0.heap.size w0 w
  e : EC w0 E [1, 2, 4, 16]
  o : (∀ b, SX Sb QB QR mb js g b → w0.heap.size ≤ b) ∧ w0.heap.size ≤ M
section
variable {w0 w w' w1 : World} {Sb QB QR mb nm M : Nat} {k : Nat} {js : List (Int × Nat)} {g : Int → JB} {sp : Nat} {mt : MeterS} {E : Nat → Addr}
theorem SS.later (h : SS w0 w Sb QB QR mb nm k js g sp M mt E) (hb : Below w.heap.size w w') : SS w0 w' Sb QB QR mb nm k js g sp M mt E := by
  obtain ⟨bal, h1⟩ := h.s
  exact ⟨⟨bal, h1.later hb⟩, h.m.below hb h.m.lt, h.l, h.b.trans (hb.mono h.b.size), h.e, h.o⟩
theorem SS.lt (h : SS w0 w Sb QB QR mb nm k js g sp M mt E) : ∀ b, SX Sb QB QR mb js g b → b < w.heap.size := by obtain ⟨bal, h1⟩ := h.s; exact h1.lt
theorem SS.ne (h : SS w0 w Sb QB QR mb nm k js g sp M mt E) : ∀ b, SX Sb QB QR mb js g b → b ≠ M := by
  obtain ⟨bal, h1⟩ := h.s
  obtain ⟨s1, s2, s3, s4, s5, s6, s7, s8, s9⟩ := h1.s
  intro b hb
  rcases hb with e | e | e | e | ⟨x, hx, e⟩
  · rw [e]; exact s4
  · rw [e]; exact s7
  · rw [e]; exact s8
  · rw [e]; exact s9
  · exact (h1.ax x hx b e).2.2.2.2
theorem SS.chg {X : Nat → Prop} (h : SS w0 w Sb QB QR mb nm k js g sp M mt E) (hc : Chg X w w') (hX : ∀ b, SX Sb QB QR mb js g b → ¬ X b) (hM : ¬ X M) (hl : ∀ b, X b → w0.heap.size ≤ b) : SS w0 w' Sb QB QR mb nm k js g sp M mt E := by
  obtain ⟨bal, h1⟩ := h.s
  exact ⟨⟨bal, h1.chg hc hX⟩, h.m.chg hc hM, h.l, h.b.trans (hc.below h.b.size (fun b hb e => by have := hl b e; omega)), h.e, h.o⟩
theorem SS.len (h : SS w0 w Sb QB QR mb nm k js g sp M mt E) : js.length ≤ 40 := by obtain ⟨bal, h1⟩ := h.s; exact h1.len
theorem SS.nd (h : SS w0 w Sb QB QR mb nm k js g sp M mt E) : (jIds js).Nodup := by obtain ⟨bal, h1⟩ := h.s; exact h1.nd
theorem SS.wf (h : SS w0 w Sb QB QR mb nm k js g sp M mt E) : ∀ x ∈ jIds js, (Lit.int .i64 x).wf = true := by obtain ⟨bal, h1⟩ := h.s; exact ids_wf h1
theorem SS.le64 (h : SS w0 w Sb QB QR mb nm k js g sp M mt E) : ∀ p ∈ js, p.2 ≤ 64 := by obtain ⟨bal, h1⟩ := h.s; exact h1.le64
theorem SS.sum (h : SS w0 w Sb QB QR mb nm k js g sp M mt E) : jSum js ≤ 2560 := by obtain ⟨bal, h1⟩ := h.s; exact h1.sum
theorem SS.leftC (h : SS w0 w Sb QB QR mb nm k js g sp M mt E) : Calls Tryd.prog 12 #[.pointer (some ⟨Sb, 0, none⟩)] w fun e w' => e = .returned (.int .i64 ((jSum js : Nat) : Int)) ∧ SS w0 w' Sb QB QR mb nm k js g sp M mt E ∧ Below w.heap.size w w' := by
  obtain ⟨bal, h1⟩ := h.s
  exact (sleft_any h1).mono fun e w' q => ⟨q.1, h.later q.2, q.2⟩
theorem SS.spentC (h : SS w0 w Sb QB QR mb nm k js g sp M mt E) : Calls Tryd.prog 16 #[.pointer (some ⟨Sb, 0, none⟩)] w fun e w' => e = .returned (.int .i64 (sp : Int)) ∧ w = w' := by
  obtain ⟨bal, h1⟩ := h.s
  exact sspent_any h1
theorem SS.hasC (h : SS w0 w Sb QB QR mb nm k js g sp M mt E) (x : Int) : Calls Tryd.prog 13 #[.pointer (some ⟨Sb, 0, none⟩), .int .i64 x] w fun e w' => e = .returned (.bool (decide (x ∈ jIds js))) ∧ SS w0 w' Sb QB QR mb nm k js g sp M mt E ∧ Below w.heap.size w w' := by
  obtain ⟨bal, h1⟩ := h.s
  exact (shas_any x h1).mono fun e w' q => ⟨q.1, h.later q.2, q.2⟩
theorem SS.idsC (h : SS w0 w Sb QB QR mb nm k js g sp M mt E) : Calls Tryd.prog 14 #[.pointer (some ⟨Sb, 0, none⟩)] w fun e w' => ∃ v, e = .returned v ∧ w'.ownsRow w.heap.size 3 1 v js.length ((jIds js).map (Value.int .i64)) ∧ SS w0 w' Sb QB QR mb nm k js g sp M mt E ∧ Below w.heap.size w w' := by
  obtain ⟨bal, h1⟩ := h.s
  refine (sids_any h1).mono ?_
  rintro e w' ⟨v, e1, e2, e3⟩
  exact ⟨v, e1, e2, h.later e3, e3⟩
theorem SX.cut {x : Int} {b : Nat} (hb : SX Sb QB QR mb (js.filter fun p => decide (p.1 ≠ x)) g b) : SX Sb QB QR mb js g b := hb.mono (fun y hy => ((List.filter_sublist (l := js) (p := fun p => decide (p.1 ≠ x))).map (·.1)).subset hy)
theorem SS.removeC (h : SS w0 w Sb QB QR mb nm k js g sp M mt E) (x : Int) (hx : (Lit.int .i64 x).wf = true) : Calls Tryd.prog 20 #[.pointer (some ⟨Sb, 0, none⟩), .int .i64 x] w fun e w' =>
    e = .returned (.bool (decide (x ∈ jIds js))) ∧ SS w0 w' Sb QB QR mb nm k (js.filter fun p => decide (p.1 ≠ x)) g sp M mt E ∧ Chg (fun b => b = QB ∨ b = QR ∨ b = mb) w w' := by
  obtain ⟨bal, h1⟩ := h.s
  obtain ⟨s1, s2, s3, s4, s5, s6, s7, s8, s9⟩ := h1.s
  refine (sremove_any x hx h1).mono ?_
  rintro e w' ⟨e1, e2, e3⟩
  refine ⟨e1, ⟨⟨bal, e2⟩, h.m.chg e3 (fun e => by rcases e with e | e | e; exact s7 e.symm; exact s8 e.symm; exact s9 e.symm), h.l, h.b.trans (e3.below h.b.size (fun b hb e => ?_)), h.e, fun b hb => h.o.1 b hb.cut, h.o.2⟩, e3⟩
  have h1 := h.o.1 QB (.inr (.inl rfl))
  have h2 := h.o.1 QR (.inr (.inr (.inl rfl)))
  have h3 := h.o.1 mb (.inr (.inr (.inr (.inl rfl))))
  omega
theorem SX.jobs {own : Int} {b : Nat} (hb : SX Sb QB QR mb (sJobs k js own) g b) : SX Sb QB QR mb js g b := hb.mono (fun y hy => (jobs_sub k js own).subset hy)
theorem SS.serveC (h : SS w0 w Sb QB QR mb nm k js g sp M mt E) (hk : 1 ≤ k ∧ k ≤ 64) (own : Int) (hw : (Lit.int .i64 own).wf = true) (hsp : sp ≤ 700000) : Calls Tryd.prog 11 #[.pointer (some ⟨Sb, 0, none⟩), .pointer (some ⟨M, 0, none⟩), .int .i64 own] w fun e w' =>
    ∃ v, e = .returned v ∧ w'.ownsRow w.heap.size 3 1 v (sEnd k js own).length ((sEnd k js own).map (Value.int .i64)) ∧ SS w0 w' Sb QB QR mb nm k (sJobs k js own) g (sp + sSpent k js own) M (mUp mt (sSpent k js own)) E ∧ Chg (fun b => b = M ∨ SX Sb QB QR mb js g b) w w' := by
  obtain ⟨bal, h1⟩ := h.s
  refine (sserve_any k hk own hw (by omega) h.l h.m h1).mono ?_
  rintro e w' ⟨v, b', e1, e2, e3, e4, e5⟩
  refine ⟨v, e1, e2, ⟨⟨_, by rw [Int.natCast_add]; exact e3⟩, e4, (mUp_lim _ _).trans h.l, h.b.trans (e5.below h.b.size (fun b hb e => ?_)), h.e, fun b hb => h.o.1 b hb.jobs, h.o.2⟩, e5⟩
  have h2 := h.o.2
  rcases e with e | e
  · omega
  · have := h.o.1 b e; omega
theorem SW.addC {kk bal spp : Int} (h : SW w Sb QB QR mb nm kk js g bal spp M) (hE : EC w E [1, 2, 16]) (p : JB) (hw : BW w p.D p.B p.Q p.n 0 false) (hp : ∀ b, JX p b → ¬ SX Sb QB QR mb js g b ∧ b ≠ M) (hn : nm < 1000) (x : Int) (hx : (Lit.int .i64 x).wf = true) :
    Calls Tryd.prog 9 #[.pointer (some ⟨Sb, 0, none⟩), .int .i64 x, .iface 28 (.pointer (some ⟨p.D, 0, none⟩))] w fun e w' =>
      e = .returned (errN E (pushN 40 (jIds js) x)) ∧ ∃ nm' g', nm' ≤ nm + 1 ∧ SW w' Sb QB QR mb nm' kk (addJ js x p.n) g' bal spp M ∧ Chg (fun b => b = QB ∨ b = QR ∨ b = mb) w w' ∧ (∀ b, SX Sb QB QR mb (addJ js x p.n) g' b → SX Sb QB QR mb js g b ∨ JX p b) ∧ (pushN 40 (jIds js) x = 0 → g' x = p ∧ ∀ y, y ≠ x → g' y = g y) := by
  by_cases hp0 : pushN 40 (jIds js) x = 0
  · have hx2 : x ∉ jIds js := fun e => by unfold pushN at hp0; rw [if_pos e] at hp0; omega
    have hl2 : js.length < 40 := by
      unfold pushN at hp0
      rw [if_neg hx2] at hp0
      split at hp0
      · rename_i h3; simpa [jIds] using h3
      · omega
    have ha : addJ js x p.n = js ++ [(x, p.n)] := if_pos hp0
    rw [hp0, ha]
    refine (sadd_ok x hx hx2 hl2 p E hE hn hw (fun y hy b hb1 hb2 => (hp b hb1).1 (.inr (.inr (.inr (.inr ⟨y, hy, hb2⟩))))) (fun b hb1 => ?_) h).mono ?_
    · have h1 := hp b hb1
      exact ⟨fun e => h1.1 (.inl e), fun e => h1.1 (.inr (.inl e)), fun e => h1.1 (.inr (.inr (.inl e))), fun e => h1.1 (.inr (.inr (.inr (.inl e)))), h1.2⟩
    · rintro e w' ⟨e1, e2, e3⟩
      refine ⟨by rw [e1, errN_0], nm + 1, _, Nat.le_refl _, e2, e3, fun b hb => ?_, fun _ => ⟨if_pos rfl, fun y hy => if_neg hy⟩⟩
      rcases hb with e | e | e | e | ⟨y, hy, e⟩
      · exact .inl (.inl e)
      · exact .inl (.inr (.inl e))
      · exact .inl (.inr (.inr (.inl e)))
      · exact .inl (.inr (.inr (.inr (.inl e))))
      · simp only at e
        by_cases hyx : y = x
        · rw [if_pos hyx] at e; exact .inr e
        · rw [if_neg hyx] at e
          rw [ids_snoc] at hy
          exact .inl (.inr (.inr (.inr (.inr ⟨y, (List.mem_append.1 hy).resolve_right (fun e => hyx (List.mem_singleton.1 e)), e⟩))))
  · have ha : addJ js x p.n = js := if_neg hp0
    rw [ha]
    have hx2 : x ∈ jIds js ∨ 40 ≤ js.length := by
      by_cases e : x ∈ jIds js
      · exact .inl e
      · unfold pushN at hp0
        rw [if_neg e] at hp0
        split at hp0
        · exact absurd rfl hp0
        · rename_i h3; right; simpa [jIds] using h3
    have hpe : pushN 40 (jIds js) x = (if x ∈ jIds js then 16 else 2) := by
      unfold pushN
      split
      · rfl
      · rename_i e
        rw [if_neg (by have := hx2.resolve_left e; simpa [jIds] using this)]
    refine (sadd_no x hx2 _ ⟨p.D, rfl⟩ E hE h).mono ?_
    rintro e w' ⟨e1, e2, e3⟩
    exact ⟨by rw [e1, hpe]; unfold errN; split <;> simp, nm, g, by omega, e2, e3.mono (fun b _ e => by rcases e with e | e; exact .inl e; exact .inr (.inl e)), fun b hb => .inl hb, fun e => absurd e hp0⟩
theorem SS.addC (h : SS w0 w Sb QB QR mb nm k js g sp M mt E) (hb : Below w.heap.size w w1) (p : JB) (hp : w.heap.size ≤ p.D ∧ w.heap.size ≤ p.B ∧ w.heap.size ≤ p.Q) (hw : BW w1 p.D p.B p.Q p.n 0 false) (hn : nm < 1000) (x : Int) (hx : (Lit.int .i64 x).wf = true) :
    Calls Tryd.prog 9 #[.pointer (some ⟨Sb, 0, none⟩), .int .i64 x, .iface 28 (.pointer (some ⟨p.D, 0, none⟩))] w1 fun e w' =>
      e = .returned (errN E (pushN 40 (jIds js) x)) ∧ ∃ nm' g', nm' ≤ nm + 1 ∧ SS w0 w' Sb QB QR mb nm' k (addJ js x p.n) g' sp M mt E ∧ Chg (fun b => b = QB ∨ b = QR ∨ b = mb) w1 w' ∧ (∀ b, SX Sb QB QR mb (addJ js x p.n) g' b → SX Sb QB QR mb js g b ∨ w.heap.size ≤ b) := by
  have hlt := h.lt
  obtain ⟨bal, h1⟩ := h.s
  have hml := h.m.lt
  have hm1 := h.m.below hb hml
  obtain ⟨s1, s2, s3, s4, s5, s6, s7, s8, s9⟩ := h1.s
  have hbel := h.b.trans (hb.mono h.b.size)
  have hE : EC w1 E [1, 2, 16] := (h.e.below hbel).sub (by decide)
  have hj : ∀ b, JX p b → w.heap.size ≤ b := fun b hb => by rcases hb with e | e | e <;> omega
  have o2 := h.o.1 QB (.inr (.inl rfl))
  have o3 := h.o.1 QR (.inr (.inr (.inl rfl)))
  have o4 := h.o.1 mb (.inr (.inr (.inr (.inl rfl))))
  refine ((h1.later hb).addC hE p hw (fun b hb1 => ⟨fun e => ?_, ?_⟩) hn x hx).mono ?_
  · have := hj b hb1
    have := hlt b e
    omega
  · have := hj b hb1
    omega
  · rintro e w' ⟨e1, nm', g', e2, e3, e4, e5, -⟩
    refine ⟨e1, nm', g', e2, ⟨⟨bal, e3⟩, hm1.chg e4 (fun e => by rcases e with e | e | e; exact s7 e.symm; exact s8 e.symm; exact s9 e.symm), h.l, hbel.trans (e4.below hbel.size (fun b hb e => by omega)), h.e, fun b hb => ?_, h.o.2⟩, e4, fun b hb => ?_⟩
    · rcases e5 b hb with e | e
      · exact h.o.1 b e
      · have := hj b e; have := h.b.size; omega
    · rcases e5 b hb with e | e
      · exact .inl e
      · exact .inr (hj b e)
end
end Go.Proofs.YtolhmibejhldkaaDoor

namespace Go.Proofs.YtolhmibejhldkaaDoor
open Go.RowKit Go.Proofs
attribute [local go_sem] neq_nilG
def jobN (n : Int) : Nat := 2 ^ (IntKind.u64.wrap n % 7).toNat
set_option maxRecDepth 100000 in
theorem job_any (n : Int) (w : World) :
    Calls Tryd.prog 8 #[.int .i64 n] w fun e w' => ∃ p : JB, e = .returned (.pointer (some ⟨p.D, 0, none⟩)) ∧ p.n = jobN n ∧ w.heap.size ≤ p.D ∧ w.heap.size ≤ p.B ∧ w.heap.size ≤ p.Q ∧ BW w' p.D p.B p.Q p.n 0 false ∧ Below w.heap.size w w' := by
  obtain ⟨u, hu⟩ : ∃ u, u = IntKind.u64.wrap n := ⟨_, rfl⟩
  have hn : jobN n = 2 ^ (u % 7).toNat := by rw [hu]; rfl
  have h0 : 0 ≤ u := by rw [hu, IntKind.wrap_u64]; omega
  have HN := Lib.hid hn
  have hu' := hu.symm
  clear hn hu
  have hc : u % 7 = 0 ∨ u % 7 = 1 ∨ u % 7 = 2 ∨ u % 7 = 3 ∨ u % 7 = 4 ∨ u % 7 = 5 ∨ u % 7 = 6 := by omega
  have ht : u.tmod 7 = u % 7 := Int.tmod_eq_emod_of_nonneg h0
  rcases hc with hc | hc | hc | hc | hc | hc | hc
  ·
    have NW := Lib.hid (fun (w' : World) => bnew_ok 1 (by decide) w')
    simp only [show ((1 : Nat) : Int) = 1 from rfl] at NW
    have hm : u.tmod 7 = 0 := by rw [ht, hc]
    have HM := Lib.hid hc
    clear hc ht
    go_enter Tryd.func8, Tryd.ntmps8
    go_wp2_with (go_at_call 28; ((with_reducible refine (NW.out _).mono ?_); rintro e w1 ⟨D, B, Q, rfl, hD, hB, hQ, hbw, hb1⟩; have BB := Lib.hid hbw; clear hbw))
    go_ret
    exact ⟨⟨D, B, Q, 1⟩, rfl, by rw [HN.out, HM.out]; rfl, hD, hB, hQ, BB.out, hb1⟩
  ·
    have NW := Lib.hid (fun (w' : World) => bnew_ok 2 (by decide) w')
    simp only [show ((2 : Nat) : Int) = 2 from rfl] at NW
    have hm : u.tmod 7 = 1 := by rw [ht, hc]
    have HM := Lib.hid hc
    clear hc ht
    go_enter Tryd.func8, Tryd.ntmps8
    go_wp2_with (go_at_call 28; ((with_reducible refine (NW.out _).mono ?_); rintro e w1 ⟨D, B, Q, rfl, hD, hB, hQ, hbw, hb1⟩; have BB := Lib.hid hbw; clear hbw))
    go_ret
    exact ⟨⟨D, B, Q, 2⟩, rfl, by rw [HN.out, HM.out]; rfl, hD, hB, hQ, BB.out, hb1⟩
  ·
    have NW := Lib.hid (fun (w' : World) => bnew_ok 4 (by decide) w')
    simp only [show ((4 : Nat) : Int) = 4 from rfl] at NW
    have hm : u.tmod 7 = 2 := by rw [ht, hc]
    have HM := Lib.hid hc
    clear hc ht
    go_enter Tryd.func8, Tryd.ntmps8
    go_wp2_with (go_at_call 28; ((with_reducible refine (NW.out _).mono ?_); rintro e w1 ⟨D, B, Q, rfl, hD, hB, hQ, hbw, hb1⟩; have BB := Lib.hid hbw; clear hbw))
    go_ret
    exact ⟨⟨D, B, Q, 4⟩, rfl, by rw [HN.out, HM.out]; rfl, hD, hB, hQ, BB.out, hb1⟩
  ·
    have NW := Lib.hid (fun (w' : World) => bnew_ok 8 (by decide) w')
    simp only [show ((8 : Nat) : Int) = 8 from rfl] at NW
    have hm : u.tmod 7 = 3 := by rw [ht, hc]
    have HM := Lib.hid hc
    clear hc ht
    go_enter Tryd.func8, Tryd.ntmps8
    go_wp2_with (go_at_call 28; ((with_reducible refine (NW.out _).mono ?_); rintro e w1 ⟨D, B, Q, rfl, hD, hB, hQ, hbw, hb1⟩; have BB := Lib.hid hbw; clear hbw))
    go_ret
    exact ⟨⟨D, B, Q, 8⟩, rfl, by rw [HN.out, HM.out]; rfl, hD, hB, hQ, BB.out, hb1⟩
  ·
    have NW := Lib.hid (fun (w' : World) => bnew_ok 16 (by decide) w')
    simp only [show ((16 : Nat) : Int) = 16 from rfl] at NW
    have hm : u.tmod 7 = 4 := by rw [ht, hc]
    have HM := Lib.hid hc
    clear hc ht
    go_enter Tryd.func8, Tryd.ntmps8
    go_wp2_with (go_at_call 28; ((with_reducible refine (NW.out _).mono ?_); rintro e w1 ⟨D, B, Q, rfl, hD, hB, hQ, hbw, hb1⟩; have BB := Lib.hid hbw; clear hbw))
    go_ret
    exact ⟨⟨D, B, Q, 16⟩, rfl, by rw [HN.out, HM.out]; rfl, hD, hB, hQ, BB.out, hb1⟩
  ·
    have NW := Lib.hid (fun (w' : World) => bnew_ok 32 (by decide) w')
    simp only [show ((32 : Nat) : Int) = 32 from rfl] at NW
    have hm : u.tmod 7 = 5 := by rw [ht, hc]
    have HM := Lib.hid hc
    clear hc ht
    go_enter Tryd.func8, Tryd.ntmps8
    go_wp2_with (go_at_call 28; ((with_reducible refine (NW.out _).mono ?_); rintro e w1 ⟨D, B, Q, rfl, hD, hB, hQ, hbw, hb1⟩; have BB := Lib.hid hbw; clear hbw))
    go_ret
    exact ⟨⟨D, B, Q, 32⟩, rfl, by rw [HN.out, HM.out]; rfl, hD, hB, hQ, BB.out, hb1⟩
  ·
    have NW := Lib.hid (fun (w' : World) => bnew_ok 64 (by decide) w')
    simp only [show ((64 : Nat) : Int) = 64 from rfl] at NW
    have hm : u.tmod 7 = 6 := by rw [ht, hc]
    have HM := Lib.hid hc
    clear hc ht
    go_enter Tryd.func8, Tryd.ntmps8
    go_wp2_with (go_at_call 28; ((with_reducible refine (NW.out _).mono ?_); rintro e w1 ⟨D, B, Q, rfl, hD, hB, hQ, hbw, hb1⟩; have BB := Lib.hid hbw; clear hbw))
    go_ret
    exact ⟨⟨D, B, Q, 64⟩, rfl, by rw [HN.out, HM.out]; rfl, hD, hB, hQ, BB.out, hb1⟩
end Go.Proofs.YtolhmibejhldkaaDoor

namespace Go.Proofs.YtolhmibejhldkaaDoor
open Go.RowKit Go.Proofs
attribute [local go_sem] neq_nilG eql_nilG nil_ahead_left method_left
theorem jobN_2 : jobN 2 = 4 := by decide
theorem jobN_4 : jobN 4 = 16 := by decide
theorem al_p1 : pushN 40 (jIds []) 1 = 0 := by decide
theorem al_p2 : pushN 40 (jIds [(1, 4)]) 2 = 0 := by decide
theorem al_a1 : addJ [] 1 4 = [(1, 4)] := by decide
theorem al_a2 : addJ [(1, 4)] 2 16 = [(1, 4), (2, 16)] := by decide
theorem alive20_plain : sJobs 1 [(1, 4), (2, 16)] 2 = [(1, 3), (2, 8)] ∧ sEnd 1 [(1, 4), (2, 16)] 2 = [] ∧ sSpent 1 [(1, 4), (2, 16)] 2 = 9 := by
  have h : sMid 1 [(1, 4), (2, 16)] 2 = [(1, 4), (2, 8)] := by decide
  have h2 : oth 1 [(1, 4), (2, 8)] = ([(1, 3), (2, 8)], [], 1) := by
    rw [oth_step 0 1 3, oth_zero]
  unfold sJobs sEnd sSpent
  rw [h, h2]
  decide
set_option maxRecDepth 100000 in
set_option maxHeartbeats 4000000 in
theorem alive20_any (E : Nat → Addr) (w : World) (he : EC w E [1, 2, 4, 16]) :
    Calls Tryd.prog 6 #[] w fun e w' => e = .returned (.bool true) ∧ Below w.heap.size w w' := by
  have HE := Lib.hid he
  have hz : 0 < w.heap.size := by have := World.block_lt_of_cell? _ _ (he 1 (by decide)); omega
  have NW := Lib.hid (snew_ok 1 (by decide) (fun _ => ⟨0, 0, 0, 0⟩) w)
  have J2 := Lib.hid (fun (w' : World) => job_any 2 w')
  have J4 := Lib.hid (fun (w' : World) => job_any 4 w')
  clear he
  go_enter Tryd.func6, Tryd.ntmps6
  go_wp2_with (first
    | (go_at_call 7; ((with_reducible refine NW.out.mono ?_); rintro e w1 ⟨Sb, QB, QR, mb, rfl, hs, y1, y2, y3, y4, hb1⟩; have S1 := Lib.hid (hs 0 (.inl hz)); have B1 := Lib.hid hb1; have z1 := hb1.size; clear hs hb1))
    | (go_at_call 8; (with_reducible refine (J2.out _).mono ?_); rintro e w2 ⟨p, rfl, pn, pD, pB, pQ, hp, hb2⟩; have P2 := Lib.hid hp; have PN := Lib.hid (pn.trans jobN_2); have B2 := Lib.hid (B1.out.trans (hb2.mono B1.out.size)); have S2 := Lib.hid (S1.out.later hb2); have z2 := hb2.size; have LP := Lib.hid (fun b (h : JX p b) => (⟨by rcases h with e | e | e <;> omega, P2.out.jlt h⟩ : w1.heap.size ≤ b ∧ b < w2.heap.size)); clear hp pn hb2)
    | (go_at_call 8; (with_reducible refine (J4.out _).mono ?_); rintro e w3 ⟨q, rfl, qn, qD, qB, qQ, hq, hb3⟩; have Q3 := Lib.hid hq; have P3 := Lib.hid (P2.out.later hb3); have QN := Lib.hid (qn.trans jobN_4); have B3 := Lib.hid (B2.out.trans (hb3.mono B2.out.size)); have S3 := Lib.hid (S2.out.later hb3); have z3 := hb3.size; have LQ := Lib.hid (fun b (h : JX q b) => (by rcases h with e | e | e <;> omega : w2.heap.size ≤ b)); have HS := Lib.hid S1.out.lt; clear hq qn hb3)
    | (go_at_call 9; ((with_reducible refine (S3.out.addC ((HE.out.below B3.out).sub (by decide)) p P3.out (fun b hb => ⟨fun e => by have := (LP.out b hb).1; have := HS.out b e; omega, by have := (LP.out b hb).1; omega⟩) (by decide) 1 (by decide)).mono ?_); simp only [PN.out, al_p1, al_a1, errN_0]; rintro e w4 ⟨rfl, nm4, g4, n4, hs4, hc4, hx4, hg4⟩; have G4 := Lib.hid (hg4 trivial); clear hg4; have S4 := Lib.hid hs4; have C4 := Lib.hid hc4; have X4 := Lib.hid hx4; have z4 := hc4.size; have B4 := Lib.hid (B3.out.trans (hc4.below B3.out.size (fun b hb e => by omega))); have HQ := Lib.hid (fun b (h : b = QB ∨ b = QR ∨ b = mb) => (by have h1 := HS.out QB (.inr (.inl rfl)); have h2 := HS.out QR (.inr (.inr (.inl rfl))); have h3 := HS.out mb (.inr (.inr (.inr (.inl rfl)))); omega : b < w1.heap.size)); have Q4 := Lib.hid (Q3.out.chg hc4 (fun e => by have := LQ.out _ (.inl rfl); have := HQ.out _ e; omega) (fun e => by have := LQ.out _ (.inr (.inl rfl)); have := HQ.out _ e; omega) (fun e => by have := LQ.out _ (.inr (.inr rfl)); have := HQ.out _ e; omega)); clear hs4 hc4 hx4 S3))
    | (go_at_call 9; ((with_reducible refine (S4.out.addC ((HE.out.below B4.out).sub (by decide)) q Q4.out (fun b hb => ⟨fun e => by have h1 := LQ.out b hb; rcases X4.out b e with e | e; have := HS.out b e; omega; have := (LP.out b e).2; omega, by have := LQ.out b hb; omega⟩) (by omega) 2 (by decide)).mono ?_); simp only [QN.out, al_p2, al_a2, errN_0]; rintro e w5 ⟨rfl, nm5, g5, n5, hs5, hc5, hx5, hg5⟩; have G5 := Lib.hid (hg5 trivial); clear hg5; have S5 := Lib.hid hs5; have z5 := hc5.size; have B5 := Lib.hid (B4.out.trans (hc5.below B4.out.size (fun b hb e => by omega))); have X5 := Lib.hid hx5; clear hs5 hc5 hx5)))
  have S6 := Lib.hid ((S5.out.setM (M' := w5.heap.size) (Nat.le_refl _)).later ((Below.refl _ _).alloc (Nat.le_refl _) (.cells MeterS.zero.cells 35)))
  have M6 := Lib.hid (Blk.new w5 35 MeterS.zero.cells)
  have SV := sserve_any 1 (by decide) 2 (by decide) (by decide) rfl M6.out S6.out
  simp only [alive20_plain.1, alive20_plain.2.1, alive20_plain.2.2, MeterS.cells, MeterS.zero] at SV
  have SV := Lib.hid SV
  obtain ⟨M, hM⟩ : ∃ M, M = w5.heap.size := ⟨_, rfl⟩
  have hm0 : w.heap.size ≤ M := by have := B5.out.size; omega
  have B6 := Lib.hid (B5.out.alloc B5.out.size (.cells MeterS.zero.cells 35))
  have HXX := Lib.hid (fun b (h : SX Sb QB QR mb [(1, 4), (2, 16)] g5 b) => show w.heap.size ≤ b from by
    rcases X5.out b h with e | e
    · rcases X4.out b e with e | e
      · rcases e with e | e | e | e | ⟨x, hx, -⟩
        · omega
        · omega
        · omega
        · omega
        · cases hx
      · have := (LP.out b e).1; omega
    · have := LQ.out b e; omega)
  have HD1 := Lib.hid (show p.D = (g5 1).D from by rw [G5.out.2 1 (by decide), G4.out.1])
  have HD2 := Lib.hid (show q.D = (g5 2).D from by rw [G5.out.1])
  simp only [MeterS.cells, MeterS.zero] at B6
  simp only [← hM] at SV ⊢
  clear S6 M6 hM
  go_wp2_with (first
    | (go_at_call 11; ((with_reducible refine SV.out.mono ?_); rintro e w6 ⟨v, b', rfl, hr6, hs6, hm6, hc6⟩; have S6 := Lib.hid hs6; obtain ⟨a6, cap6, rfl⟩ := ownsRow_slice hr6; have BB := Lib.hid (B6.out.trans (hc6.below B6.out.size (fun b hb e => by rcases e with e | e; omega; have := HXX.out b e; omega))); clear hr6 hs6 hm6 hc6))
    | (go_at_call 10; (with_reducible refine (S6.out.left (x := 1) (l := 3) (by decide) HD1.out (by decide)).mono ?_); rintro e w7 ⟨rfl, hb7⟩; have S7 := Lib.hid (S6.out.later hb7); have BB7 := Lib.hid (BB.out.trans (hb7.mono BB.out.size)); clear hb7)
    | (go_at_call 10; (with_reducible refine (S7.out.left (x := 2) (l := 8) (by decide) HD2.out (by decide)).mono ?_); rintro e w8 ⟨rfl, hb8⟩; have S8 := Lib.hid (S7.out.later hb8); have BB8 := Lib.hid (BB7.out.trans (hb8.mono BB7.out.size)); clear hb8)
    | (go_at_call 16; (with_reducible refine (sspent_any S8.out).mono ?_); rintro e w9 ⟨rfl, rfl⟩))
  go_ret
  exact ⟨rfl, BB8.out⟩
end Go.Proofs.YtolhmibejhldkaaDoor
