/- Texts joined: CtrlPlain LaidErrs Errs ErrNum ErrsLaid ErrCells Ctrl CtrlText Num Own Card Rows2. No condition but those that stand within. -/
import Derived.Test.YtolhmibejhldkaaDoorProg
import Derived.LaidEql
import Derived.LaidLaws
import Derived.Below
import Derived.RowKitTokens
import Derived.Stop.Asserts
import Derived.Handy
import Derived.Lib.Hide
import Derived.WalkSmall
import Derived.Lib.SlBytesRow
import Derived.Laws.IdiomStrings
import Derived.OwnWalk
import Derived.LoopTactic
import Derived.IntWalk
import Derived.Maps.AppendAt
import Derived.Test.YtolhmibejhldkaaDoorRows
import Derived.WalkKit
import Derived.ProofKit
import Derived.OpenShut
import Derived.Deep.DeepHandedRow
import Derived.Deep.DeepWitnessRowRef
import Derived.Lib.LaidTab
import Derived.Deep.Slices
import Derived.Deep.Fields
import Derived.ChangeSame
import Derived.ChangeSlices
import Derived.Test.YtolhmibejhldkaaDoorPkSwar
import Derived.Test.YtolhmibejhldkaaDoorPkMeter
set_option linter.unusedVariables false
set_option linter.unusedSimpArgs false
namespace Go.Proofs.YtolhmibejhldkaaDoor
def ctrlB (b : Nat) : Bool := decide (b ≤ 128 ∨ b = 254)
def kindN (b : Nat) : Nat := if b = 128 then 1 else if b = 254 then 2 else if b < 128 then 3 else 0
end Go.Proofs.YtolhmibejhldkaaDoor

namespace Go.Proofs.YtolhmibejhldkaaDoor
open Go.RowKit Go.Proofs Go.ChangeShapes Go.WideShapes
theorem cell_spot {W : World} {a : Addr} {v : Value} (h : W.cell? a = some v) : a.spot = none := by
  unfold World.cell? at h
  split at h
  · cases hs : a.spot with
    | none => rfl
    | some x => simp [hs] at h
  · cases h
inductive Pair2 {α β : Type} (R : α → β → Prop) : List α → List β → Prop
  | nil : Pair2 R [] []
  | cons {a : α} {b : β} {l : List α} {m : List β} (h : R a b) (r : Pair2 R l m) : Pair2 R (a :: l) (b :: m)
def IsErrRow (P : Program) (tErr : TypeId) (x : String × DataW Unit) (g : Nat) : Prop :=
  P.globalNamed x.1 = some g ∧ (P.globals[g]?).map (·.type) = some tErr ∧ ∃ text, x.2 = .iface "*errors.errorString" (.ptr (.agg [.lit (.string text)]))
theorem laid_errs {P : Program} {w : World} {tErr tPtr tRec tStr : TypeId} {ms : Array (String × TypeId)} {f : Field}
    (hi : P.underlying tErr = some (.interface ms)) (hrow : ∀ u, P.typeName? 3 u = some "*errors.errorString" → u = tPtr)
    (hp : P.underlying tPtr = some (.pointer tRec)) (he : P.underlying tRec = some (.struct #[f])) (hft : f.type = tStr) (hfo : f.offset = 0) (hs : P.underlying tStr = some .string)
    (hc : P.cellsOf tRec = 1) (hcs : P.cellsOf tStr = 1) :
    ∀ (l : List (String × DataW Unit)) (gs : List Nat) (ps : List MemPlace), DataW.LaidVars P w l ps → Pair2 (IsErrRow P tErr) l gs →
      (∀ b off, MemPlace.cell b off ∈ ps → (∃ c t, w.heap[b]? = some (.cells c t (0, 0))) ∧ ∀ u v, w.cell? ⟨b, off, none⟩ = some (.iface u v) → Value.okWide P w .any 0 u v) →
      ∃ E : List Addr, Pair2 (fun g a => w.cell? ⟨g, 0, none⟩ = some (.iface tPtr (.pointer (some a))) ∧ a.spot = none ∧ ∃ c t, w.heap[a.block]? = some (.cells c t (0, 0))) gs E ∧
        (E.map fun a => MemPlace.cell a.block a.off).Sublist ps := by
  intro l
  induction l with
  | nil =>
    intro gs ps hl hf _
    cases hf
    exact ⟨[], .nil, by simp⟩
  | cons x l ih =>
    intro gs ps hl hf hr
    cases hf with
    | cons hx hf =>
      rename_i g gs
      obtain ⟨n, d⟩ := x
      obtain ⟨g', t, cs, fuel, p, q, hg, ht, hv, hd, hq, rfl⟩ := hl
      obtain ⟨hxg, hxt, text, hxd⟩ := hx
      simp only at hxg hxt hxd
      subst hxd
      obtain rfl := Option.some.inj (hg.symm.trans hxg)
      obtain rfl := Option.some.inj (ht.symm.trans hxt)
      obtain ⟨E, hE, hsub⟩ := ih gs q hq hf (fun b off hm => hr b off (by simp [hm]))
      obtain ⟨lc⟩ := cs
      have hvc := World.var?_cell hg hv 0
      have ok : ∀ u v, lc = [.iface u v] → Value.okWide P w .any 0 u v := fun u v e => by
        subst e
        exact (hr g' 0 (by simp [MemPlace.row])).2 u v (by simpa using hvc)
      obtain ⟨a, s, rfl, hca, hsa, hza, rfl⟩ := errorString_of_trod hi hrow hp he hft hfo hs hc hcs hd ok
      refine ⟨a :: E, .cons ⟨by simpa using hvc, cell_spot hca, ?_⟩ hE, ?_⟩
      · exact (hr a.block a.off (by simp [MemPlace.row])).1
      · have e1 : MemPlace.row a 1 = [MemPlace.cell a.block a.off] := by simp [MemPlace.row]
        rw [e1]
        simp only [List.map_cons, List.append_assoc, List.singleton_append]
        exact (hsub.cons_cons _).trans (List.sublist_append_right _ _)
theorem laid_take {P : Program} {w : World} : ∀ {l : List (String × DataW Unit)} {ps : List MemPlace}, DataW.LaidVars P w l ps → ∀ n : Nat, ∃ ps', DataW.LaidVars P w (l.take n) ps' ∧ ps'.Sublist ps := by
  intro l
  induction l with
  | nil => intro ps h n; exact ⟨[], by simp [DataW.LaidVars], by simp⟩
  | cons x l ih =>
    intro ps h n
    obtain ⟨m, d⟩ := x
    obtain ⟨g, t, cs, fuel, p, q, hg, ht, hv, hd, hq, rfl⟩ := h
    cases n with
    | zero => exact ⟨[], by simp [DataW.LaidVars], by simp⟩
    | succ n =>
      obtain ⟨q', hq', hs⟩ := ih hq n
      exact ⟨MemPlace.row ⟨g, 0, none⟩ cs.size ++ p ++ q', ⟨g, t, cs, fuel, p, q', hg, ht, hv, hd, hq', rfl⟩, hs.append_left _⟩
theorem starErr : "*" ++ "errors.errorString" = "*errors.errorString" := by decide
theorem ptrRow (u : TypeId) (h : Tryd.prog.typeName? 3 u = some "*errors.errorString") : u = 112 :=
  typeName_ptr_named (nm := "errors.errorString") (by rw [starErr]; kernel_rfl) (by kernel_rfl) (by decide) u (by rw [starErr]; exact h)
theorem errs_of {w : World} {l : List (String × DataW Unit)} {gs : List Nat} (n : Nat) (h : laidMet Tryd.prog l w) (hf : Pair2 (IsErrRow Tryd.prog 25) (l.take n) gs) :
    ∃ E : List Addr, Pair2 (fun g a => w.cell? ⟨g, 0, none⟩ = some (.iface 112 (.pointer (some a))) ∧ a.spot = none ∧ ∃ c t, w.heap[a.block]? = some (.cells c t (0, 0))) gs E ∧ E.Nodup := by
  obtain ⟨ps, hl, hnd, hr⟩ := h
  obtain ⟨ps', hl', hs⟩ := laid_take hl n
  obtain ⟨E, hE, hsub⟩ := laid_errs Tryd.underlying25 ptrRow Tryd.underlying112 Tryd.underlying162 rfl rfl Tryd.underlying9 (by kernel_rfl) (by kernel_rfl) _ _ _ hl' hf (fun b off hm => hr b off (hs.subset hm))
  refine ⟨E, hE, ?_⟩
  exact List.Pairwise.of_map (fun a : Addr => MemPlace.cell a.block a.off) (fun a b hab h => hab (by rw [h])) ((hsub.trans hs).nodup hnd)
theorem err_row (P : Program) (tErr : TypeId) (n : String) (text : List UInt8) (g : Nat) (h1 : P.globalNamed n = some g) (h2 : (P.globals[g]?).map (·.type) = some tErr) :
    IsErrRow P tErr (n, .iface "*errors.errorString" (.ptr (.agg [.lit (.string text)]))) g := ⟨h1, h2, text, rfl⟩
end Go.Proofs.YtolhmibejhldkaaDoor

namespace Go.Proofs.YtolhmibejhldkaaDoor
open Go.RowKit Go.Proofs Go.ChangeShapes Go.WideShapes Go.Stop Go.Extern
theorem isTypeOf (v : Value) (w : World) : (Extern.ReflectliteType.typeOf #[.iface 112 v]).run Tryd.prog w = .ok (.iface 105 (.agg #[.pointer (some ⟨16, 112, none⟩)])) w := by kernel_rfl
def cmpM : Array Value → Sem Value := Extern.ReflectliteType.method fun t => do Extern.Rtype.noPackHeld "Comparable" t; pure (.bool (← typeInfo t).comparable)
theorem isComparable (w : World) : (cmpM #[.agg #[.pointer (some ⟨16, 112, none⟩)]]).run Tryd.prog w = .ok (.bool true) w := by kernel_rfl
theorem isMethodComparable (v : Value) (w : World) : (Go.method 275 105 v "Comparable").run Tryd.prog w = .ok (96, v) w := by kernel_rfl
theorem isComp : (Tryd.prog.info? 112).map (·.comparable) = some true := by kernel_rfl
theorem isSize : (Tryd.prog.info? 162).map (·.size) = some 1 := by kernel_rfl
theorem noIsE (v : Value) (xT : TypeId) (w : World) : (Instr.typeAssert (.iface 112 v) xT 107 true).run Tryd.prog w = .ok (.tuple #[.nilIface, .bool false]) w := run_typeAssert_lacksB Tryd.underlying107 (by kernel_rfl) (by kernel_rfl) v xT w
theorem noUnwrapE (v : Value) (xT : TypeId) (w : World) : (Instr.typeAssert (.iface 112 v) xT 110 true).run Tryd.prog w = .ok (.tuple #[.nilIface, .bool false]) w := run_typeAssert_lacksB Tryd.underlying110 (by kernel_rfl) (by kernel_rfl) v xT w
theorem noUnwrapsE (v : Value) (xT : TypeId) (w : World) : (Instr.typeAssert (.iface 112 v) xT 111 true).run Tryd.prog w = .ok (.tuple #[.nilIface, .bool false]) w := run_typeAssert_lacksB Tryd.underlying111 (by kernel_rfl) (by kernel_rfl) v xT w
theorem is_same (a : Addr) (w : World) :
    Calls Tryd.prog 39 #[.iface 112 (.pointer (some a)), .iface 112 (.pointer (some a))] w fun e w' => e = .returned (.bool true) ∧ w = w' := by
  obtain ⟨i, hi, hcmp⟩ := Option.map_eq_some_iff.1 isComp
  obtain ⟨j, hj, hjs⟩ := Option.map_eq_some_iff.1 isSize
  have h8 := @run_callFunc_extern Tryd.prog 53 _ Extern.ReflectliteType.typeOf Tryd.func53 (by kernel_rfl) (by kernel_rfl) (by kernel_rfl) (by kernel_rfl)
  have h32 := @run_callFunc_extern Tryd.prog 96 _ cmpM Tryd.func96 (by kernel_rfl) (by kernel_rfl) (by kernel_rfl) (by kernel_rfl)
  have tT := isTypeOf
  have cT := isComparable
  have mR := isMethodComparable
  have heq := run_eql_iface_ptr_same (P := Tryd.prog) w a Tryd.underlying25 Tryd.underlying112 hi hcmp hj
  go_enter Tryd.func39, Tryd.ntmps39
  go_wp2
  refine wp_loop_rounds 1 ?_
  rw [rounds_succ]
  go_wp2
  go_ret
  exact ⟨rfl, rfl⟩
theorem is_other (a b : Addr) (w : World) (hne : a ≠ b) (ha : ∃ c t, w.heap[a.block]? = some (.cells c t (0, 0))) (hb : ∃ c t, w.heap[b.block]? = some (.cells c t (0, 0))) :
    Calls Tryd.prog 39 #[.iface 112 (.pointer (some a)), .iface 112 (.pointer (some b))] w fun e w' => e = .returned (.bool false) ∧ w = w' := by
  obtain ⟨i, hi, hcmp⟩ := Option.map_eq_some_iff.1 isComp
  obtain ⟨j, hj, hjs⟩ := Option.map_eq_some_iff.1 isSize
  obtain ⟨ca, ta, ha⟩ := ha
  obtain ⟨cb, tb, hb⟩ := hb
  have h8 := @run_callFunc_extern Tryd.prog 53 _ Extern.ReflectliteType.typeOf Tryd.func53 (by kernel_rfl) (by kernel_rfl) (by kernel_rfl) (by kernel_rfl)
  have h32 := @run_callFunc_extern Tryd.prog 96 _ cmpM Tryd.func96 (by kernel_rfl) (by kernel_rfl) (by kernel_rfl) (by kernel_rfl)
  have tT := isTypeOf
  have cT := isComparable
  have mR := isMethodComparable
  have nE := noIsE
  have uE := noUnwrapE
  have vE := noUnwrapsE
  have heq := run_eql_iface_ptr_other (P := Tryd.prog) w Tryd.underlying25 Tryd.underlying112 hi hcmp hj (by rw [hjs]; decide) hne ha hb
  go_enter Tryd.func39, Tryd.ntmps39
  go_wp2
  refine wp_loop_rounds 1 ?_
  rw [rounds_succ]
  go_wp2
  go_ret
  exact ⟨rfl, rfl⟩
end Go.Proofs.YtolhmibejhldkaaDoor

namespace Go.Proofs.YtolhmibejhldkaaDoor
open Go.RowKit Go.Proofs
def errAt (E : Nat → Addr) (n : Nat) : Value := .iface 112 (.pointer (some (E n)))
structure ErrsAre (w : World) (E : Nat → Addr) : Prop where
  c1 : w.cell? ⟨1, 0, none⟩ = some (errAt E 1)
  c2 : w.cell? ⟨3, 0, none⟩ = some (errAt E 2)
  c3 : w.cell? ⟨4, 0, none⟩ = some (errAt E 3)
  c4 : w.cell? ⟨0, 0, none⟩ = some (errAt E 4)
  c5 : w.cell? ⟨5, 0, none⟩ = some (errAt E 5)
  c6 : w.cell? ⟨6, 0, none⟩ = some (errAt E 6)
  c7 : w.cell? ⟨7, 0, none⟩ = some (errAt E 7)
  c8 : w.cell? ⟨8, 0, none⟩ = some (errAt E 8)
  c9 : w.cell? ⟨9, 0, none⟩ = some (errAt E 9)
  c10 : w.cell? ⟨10, 0, none⟩ = some (errAt E 10)
  c11 : w.cell? ⟨11, 0, none⟩ = some (errAt E 11)
  c12 : w.cell? ⟨12, 0, none⟩ = some (errAt E 12)
  c13 : w.cell? ⟨13, 0, none⟩ = some (errAt E 13)
  c14 : w.cell? ⟨14, 0, none⟩ = some (errAt E 14)
  c15 : w.cell? ⟨15, 0, none⟩ = some (errAt E 15)
  c16 : w.cell? ⟨2, 0, none⟩ = some (errAt E 16)
  blk : ∀ n, 1 ≤ n → n ≤ 16 → ∃ c t, w.heap[(E n).block]? = some (.cells c t (0, 0))
  apart : ∀ m n, 1 ≤ m → m ≤ 16 → 1 ≤ n → n ≤ 16 → E m = E n → m = n
theorem ErrsAre.below {w w' : World} {E : Nat → Addr} (h : ErrsAre w E) (hb : Below w.heap.size w w') : ErrsAre w' E := by
  have k : ∀ {a : Addr} {v : Value}, w.cell? a = some v → w'.cell? a = some v := fun c => (hb.cell (World.block_lt_of_cell? _ _ c)).trans c
  refine ⟨k h.c1, k h.c2, k h.c3, k h.c4, k h.c5, k h.c6, k h.c7, k h.c8, k h.c9, k h.c10, k h.c11, k h.c12, k h.c13, k h.c14, k h.c15, k h.c16, ?_, h.apart⟩
  intro n h1 h2
  obtain ⟨c, t, hc⟩ := h.blk n h1 h2
  exact ⟨c, t, (hb.block _ (Array.getElem?_eq_some_iff.1 hc).1).trans hc⟩
def errRow (E : Nat → Addr) : Array Value := #[errAt E 1, errAt E 2, errAt E 3, errAt E 4, errAt E 5, errAt E 6, errAt E 7, errAt E 8, errAt E 9, errAt E 10, errAt E 11, errAt E 12, errAt E 13, errAt E 14, errAt E 15, errAt E 16]
theorem errRow_get (E : Nat → Addr) (k : Nat) (hk : k < 16) : (errRow E)[k]? = some (errAt E (k + 1)) := by
  match k, hk with
  | 0, _ => rfl
  | 1, _ => rfl
  | 2, _ => rfl
  | 3, _ => rfl
  | 4, _ => rfl
  | 5, _ => rfl
  | 6, _ => rfl
  | 7, _ => rfl
  | 8, _ => rfl
  | 9, _ => rfl
  | 10, _ => rfl
  | 11, _ => rfl
  | 12, _ => rfl
  | 13, _ => rfl
  | 14, _ => rfl
  | 15, _ => rfl
  | k + 16, h => exact absurd h (by omega)
section laws
variable {P : Program} {ops : Array Oper} {rest : List Oper} {o : Oper} {a : Act} {Q : Exit → Act → World → Prop} {w w' : World} {v : Value}
theorem wpList_val (hgd : o.guard = none) (hrun : (execOp a.eval o).run P w = .ok (.value v) w')
    (h : wpList P ops Q rest (a.put o.dst v) w') : wpList P ops Q (o :: rest) a w := by
  refine wpList_plain hgd fun K hK => ?_
  unfold Oper.wp
  rw [hrun]
  exact hK _ _ h
theorem exec_buildSlice {ρ : Operand → Value} {t e : TypeId} {len : Nat} {parts : Array (Nat × Operand)} {cs : Array Value} (hop : o.op = .buildSlice t len parts) (hu : P.underlying t = some (.slice e)) (hs : ∀ w, (sizeOf e).run P w = .ok 1 w)
    (hz : ∀ w, (zeroValue e).run P w = .ok .nilIface w) (h0 : len ≠ 0) (h1 : len ≤ 1000)
    (hf : Instr.fill (fun i => some (i * 1, 1)) ((Array.range (len * 1)).map (Value.nilIface.cells[· % Value.nilIface.cells.size]!)) (parts.map fun (i, x) => (i, ρ x)).toList = some cs) :
    (execOp ρ o).run P w = .ok (.value (.slice (some ⟨w.heap.size, 0, none⟩) len len)) (w.alloc (.cells cs e)) := by
  have h2 : ¬ len * 1 > 2 ^ 24 := by omega
  have h3 : ¬ len * 1 = 0 := by omega
  have hb : ∀ ps : Array (Nat × Value), Instr.fill (fun i => some (i * 1, 1)) ((Array.range (len * 1)).map (Value.nilIface.cells[· % Value.nilIface.cells.size]!)) ps.toList = some cs → (Instr.buildSlice t len ps).run P w = .ok (.slice (some ⟨w.heap.size, 0, none⟩) len len) (w.alloc (.cells cs e)) := by
    intro ps hps
    unfold Instr.buildSlice
    rw [Sem.run_bind, run_underlying hu]
    simp only [Result.andThen]
    rw [Sem.run_bind, hs]
    simp only [Result.andThen, if_neg h2, if_neg h3]
    simp [-Nat.mul_one, -Array.size_range, Sem.run_bind, hz, Result.andThen, hps, newRow, run_newObj_alloc]
  simp [execOp, hop, Sem.run_bind, hb _ hf, Result.andThen]
end laws
set_option maxRecDepth 100000 in
set_option maxHeartbeats 400000 in
theorem all_any (w : World) (E : Nat → Addr) (h : ErrsAre w E) :
    Calls Tryd.prog 38 #[] w fun e w' => e = .returned (.slice (some ⟨w.heap.size, 0, none⟩) 16 16) ∧ w.alloc (.cells (errRow E) 25) = w' := by
  have c1 := h.c1
  have c2 := h.c2
  have c3 := h.c3
  have c4 := h.c4
  have c5 := h.c5
  have c6 := h.c6
  have c7 := h.c7
  have c8 := h.c8
  have c9 := h.c9
  have c10 := h.c10
  have c11 := h.c11
  have c12 := h.c12
  have c13 := h.c13
  have c14 := h.c14
  have c15 := h.c15
  have c16 := h.c16
  clear h
  go_enter Tryd.func38, Tryd.ntmps38
  go_wp2_with (refine wpList_val rfl (exec_buildSlice (t := 84) (cs := errRow E) rfl Tryd.underlying84 (fun w => Tryd.sizeOf25 w) (fun w => by kernel_rfl) (by decide) (by decide) (by kernel_rfl)) ?_)
  go_ret
  exact ⟨rfl, rfl⟩
set_option maxHeartbeats 1600000 in
theorem num_nil (w : World) : Calls Tryd.prog 18 #[.nilIface] w fun e w' => e = .returned (.int .i64 0) ∧ w = w' := by
  go_enter Tryd.func18, Tryd.ntmps18
  go_wp2
  go_ret
  exact ⟨rfl, rfl⟩
set_option maxHeartbeats 1600000 in
theorem num_err (w : World) (E : Nat → Addr) (h : ErrsAre w E) (n : Nat) (h1 : 1 ≤ n) (h16 : n ≤ 16) :
    Calls Tryd.prog 18 #[errAt E n] w fun e w' => e = .returned (.int .i64 (n : Int)) ∧ w.alloc (.cells (errRow E) 25) = w' := by
  have hall := all_any w E h
  have h' : ErrsAre (w.alloc (.cells (errRow E) 25)) E := h.below ((Below.refl _ w).alloc (Nat.le_refl _) _)
  have hcell : ∀ k : Nat, k < 16 → (w.alloc (.cells (errRow E) 25)).cell? ⟨w.heap.size, k, none⟩ = some (errAt E (k + 1)) := by
    intro k hk
    have := errRow_get E k hk
    have hb : (w.alloc (.cells (errRow E) 25)).heap[w.heap.size]? = some (.cells (errRow E) 25 (0, 0)) := by unfold World.alloc; simp
    unfold World.cell?
    rw [hb]
    simpa using this
  obtain ⟨W, hW⟩ : ∃ W, W = w.alloc (.cells (errRow E) 25) := ⟨_, rfl⟩
  rw [← hW] at hall h' hcell
  simp only [errAt] at hcell ⊢
  have HC := Lib.hid hcell
  have HE := Lib.hid h'
  have hW' := Lib.hid hW
  clear hcell h' hW h
  go_enter Tryd.func18, Tryd.ntmps18
  go_wp2_with (go_at_call 38; refine hall.mono ?_; rintro e w' ⟨rfl, rfl⟩)
  go_loop [9] (fun v9 => ∃ k : Nat, k < n ∧ v9 = .int .i64 (k : Int)) (fun v9 => n - (intOf v9).toNat)
  case atStart => exact ⟨0, by omega, rfl⟩
  case round =>
    obtain ⟨k, hk, rfl⟩ := hrel
    have hc := HC.out k (by omega)
    by_cases he : k + 1 = n
    · subst he
      have hs := is_same (E (k + 1)) W
      go_wp2_with (go_at_call 39; refine hs.mono ?_; rintro e w' ⟨rfl, rfl⟩)
      go_ret
      exact ⟨by simp, hW'.out.symm⟩
    · have ho := is_other (E n) (E (k + 1)) W (fun h => he (HE.out.apart _ _ (by omega) (by omega) (by omega) (by omega) h).symm) (HE.out.blk _ (by omega) (by omega)) (HE.out.blk _ (by omega) (by omega))
      go_wp2_with (go_at_call 39; refine ho.mono ?_; rintro e w' ⟨rfl, rfl⟩)
      go_round
      case rel => exact ⟨k + 1, by omega, by go_num⟩
      case measure => simp [intOf]; omega
end Go.Proofs.YtolhmibejhldkaaDoor

namespace Go.Proofs.YtolhmibejhldkaaDoor
open Go.RowKit Go.Proofs Go.ChangeShapes Go.WideShapes
theorem Pair2.len {α β : Type} {R : α → β → Prop} {l : List α} {m : List β} (h : Pair2 R l m) : l.length = m.length := by
  induction h with
  | nil => rfl
  | cons _ _ ih => simp [ih]
theorem Pair2.get {α β : Type} {R : α → β → Prop} {l : List α} {m : List β} (h : Pair2 R l m) : ∀ (i : Nat) (a : α) (b : β), l[i]? = some a → m[i]? = some b → R a b := by
  induction h with
  | nil => intro i a b h; simp at h
  | cons hh _ ih =>
    intro i a b h1 h2
    cases i with
    | zero => simp at h1 h2; subst h1 h2; exact hh
    | succ i => exact ih i a b (by simpa using h1) (by simpa using h2)
theorem errsAre_of {w : World} {l : List (String × DataW Unit)} (h : laidMet Tryd.prog l w)
    (hf : Pair2 (IsErrRow Tryd.prog 25) (l.take 16) [1, 3, 4, 0, 5, 6, 7, 8, 9, 10, 11, 12, 13, 14, 15, 2]) :
    ∃ E, ErrsAre w E := by
  obtain ⟨Es, hE, hnd⟩ := errs_of 16 h hf
  have hl : Es.length = 16 := by have := hE.len; simpa using this.symm
  have hget : ∀ i, i < 16 → Es[i]? = some (Es.getD i ⟨0, 0, none⟩) := fun i hi => by
    rw [List.getD_eq_getElem?_getD, List.getElem?_eq_getElem (by omega)]; rfl
  have k := fun (i : Nat) (hi : i < 16) (g : Nat) (hg : [1, 3, 4, 0, 5, 6, 7, 8, 9, 10, 11, 12, 13, 14, 15, 2][i]? = some g) => hE.get i g _ hg (hget i hi)
  refine ⟨fun n => Es.getD (n - 1) ⟨0, 0, none⟩, (k 0 (by decide) _ rfl).1, (k 1 (by decide) _ rfl).1, (k 2 (by decide) _ rfl).1, (k 3 (by decide) _ rfl).1, (k 4 (by decide) _ rfl).1, (k 5 (by decide) _ rfl).1, (k 6 (by decide) _ rfl).1, (k 7 (by decide) _ rfl).1, (k 8 (by decide) _ rfl).1, (k 9 (by decide) _ rfl).1, (k 10 (by decide) _ rfl).1, (k 11 (by decide) _ rfl).1, (k 12 (by decide) _ rfl).1, (k 13 (by decide) _ rfl).1, (k 14 (by decide) _ rfl).1, (k 15 (by decide) _ rfl).1, ?_, ?_⟩
  · intro n h1 h2
    match n, h1, h2 with
    | 1, _, _ => exact (k 0 (by decide) _ rfl).2.2
    | 2, _, _ => exact (k 1 (by decide) _ rfl).2.2
    | 3, _, _ => exact (k 2 (by decide) _ rfl).2.2
    | 4, _, _ => exact (k 3 (by decide) _ rfl).2.2
    | 5, _, _ => exact (k 4 (by decide) _ rfl).2.2
    | 6, _, _ => exact (k 5 (by decide) _ rfl).2.2
    | 7, _, _ => exact (k 6 (by decide) _ rfl).2.2
    | 8, _, _ => exact (k 7 (by decide) _ rfl).2.2
    | 9, _, _ => exact (k 8 (by decide) _ rfl).2.2
    | 10, _, _ => exact (k 9 (by decide) _ rfl).2.2
    | 11, _, _ => exact (k 10 (by decide) _ rfl).2.2
    | 12, _, _ => exact (k 11 (by decide) _ rfl).2.2
    | 13, _, _ => exact (k 12 (by decide) _ rfl).2.2
    | 14, _, _ => exact (k 13 (by decide) _ rfl).2.2
    | 15, _, _ => exact (k 14 (by decide) _ rfl).2.2
    | 16, _, _ => exact (k 15 (by decide) _ rfl).2.2
    | n + 17, _, h => exact absurd h (by omega)
    | 0, h, _ => exact absurd h (by omega)
  · intro m n hm1 hm2 hn1 hn2 he
    have h1 := hget (m - 1) (by omega)
    have h2 := hget (n - 1) (by omega)
    have he' : Es.getD (m - 1) ⟨0, 0, none⟩ = Es.getD (n - 1) ⟨0, 0, none⟩ := he
    rw [← he'] at h2
    have := (List.getElem?_inj (by omega) hnd).1 (h1.trans h2.symm)
    omega
end Go.Proofs.YtolhmibejhldkaaDoor

namespace Go.Proofs.YtolhmibejhldkaaDoor
open Go.RowKit Go.Proofs Go.ChangeShapes Go.WideShapes
def errG (k : Nat) : Nat := match k with
  | 1 => 1 | 2 => 3 | 3 => 4 | 4 => 0 | 5 => 5 | 6 => 6 | 7 => 7 | 8 => 8 | 9 => 9 | 10 => 10 | 11 => 11 | 12 => 12 | 13 => 13 | 14 => 14 | 15 => 15 | _ => 2
def EC (w : World) (E : Nat → Addr) (l : List Nat) : Prop := ∀ k ∈ l, w.cell? ⟨errG k, 0, none⟩ = some (errAt E k)
theorem EC.below {w w' : World} {E : Nat → Addr} {l : List Nat} (h : EC w E l) (hb : Below w.heap.size w w') : EC w' E l := fun k hk => (hb.cell (World.block_lt_of_cell? _ _ (h k hk))).trans (h k hk)
theorem EC.sub {w : World} {E : Nat → Addr} {l l' : List Nat} (h : EC w E l) (hs : ∀ k ∈ l', k ∈ l) : EC w E l' := fun k hk => h k (hs k hk)
theorem ErrsAre.ec {w : World} {E : Nat → Addr} (h : ErrsAre w E) : EC w E [1, 2, 3, 4, 5, 6, 7, 8, 9, 10, 11, 12, 13, 14, 15, 16] := by
  intro k hk
  have hk' : 1 ≤ k ∧ k ≤ 16 := by simp at hk; omega
  obtain ⟨h1, h2⟩ := hk'
  match k, h1, h2 with
  | 1, _, _ => exact h.c1
  | 2, _, _ => exact h.c2
  | 3, _, _ => exact h.c3
  | 4, _, _ => exact h.c4
  | 5, _, _ => exact h.c5
  | 6, _, _ => exact h.c6
  | 7, _, _ => exact h.c7
  | 8, _, _ => exact h.c8
  | 9, _, _ => exact h.c9
  | 10, _, _ => exact h.c10
  | 11, _, _ => exact h.c11
  | 12, _, _ => exact h.c12
  | 13, _, _ => exact h.c13
  | 14, _, _ => exact h.c14
  | 15, _, _ => exact h.c15
  | 16, _, _ => exact h.c16
  | n + 17, _, h => exact absurd h (by omega)
  | 0, h, _ => exact absurd h (by omega)
theorem Pair2.right {α β : Type} {R : α → β → Prop} {l : List α} {m : List β} (h : Pair2 R l m) : l.length = m.length := h.len
def errN (E : Nat → Addr) (k : Nat) : Value := if k = 0 then .nilIface else errAt E k
theorem num_any (E : Nat → Addr) (p : Nat) (hp : p ≤ 16) (w : World) (h : ErrsAre w E) :
    Calls Tryd.prog 18 #[errN E p] w fun e w' => e = .returned (.int .i64 (p : Int)) ∧ Below w.heap.size w w' := by
  unfold errN
  by_cases h0 : p = 0
  · subst h0; exact (num_nil w).mono fun e w' ⟨a, b⟩ => ⟨a, b ▸ Below.refl _ _⟩
  · rw [if_neg h0]; exact (num_err w E h p (by omega) hp).mono fun e w' ⟨a, b⟩ => ⟨a, b ▸ (Below.refl _ _).alloc (Nat.le_refl _) _⟩
end Go.Proofs.YtolhmibejhldkaaDoor

namespace Go.Proofs.YtolhmibejhldkaaDoor
open Go.RowKit Go.Proofs
theorem cnew_any (w : World) : Calls Tryd.prog 85 #[] w fun e w' => e = .returned (.int .u64 ((rep 128 : Nat) : Int)) ∧ w = w' := by
  go_enter Tryd.func85, Tryd.ntmps85
  go_wp2_with (go_at_call 87; refine (repeat_any 128 (by decide) _).mono ?_; rintro e w' ⟨rfl, rfl⟩)
  go_ret
  exact ⟨rfl, rfl⟩
end Go.Proofs.YtolhmibejhldkaaDoor

namespace Go.Proofs.YtolhmibejhldkaaDoor
open Go.RowKit Go.Proofs
end Go.Proofs.YtolhmibejhldkaaDoor

namespace Go.Proofs.YtolhmibejhldkaaDoor
open Go.RowKit Go.Proofs
set_option maxHeartbeats 1000000 in
theorem sameInts_any (v1 v2 : Value) (xs ys : List Int) (w : World) (h1 : ReadsInts w v1 xs) (h2 : ReadsInts w v2 ys) (b1 : xs.length < 9223372036854775807) :
    Calls Tryd.prog 22 #[v1, v2] w fun e w' => e = .returned (.bool (decide (xs = ys))) ∧ w = w' := by
  obtain ⟨a1, c1, rfl, h1⟩ := h1
  obtain ⟨a2, c2, rfl, h2⟩ := h2
  have H1 := Lib.hid h1
  have H2 := Lib.hid h2
  clear h1 h2
  by_cases hl : xs.length = ys.length
  · have hL := Lib.hid hl
    rw [← hl]
    have ht : ((xs.length : Int) != (xs.length : Int)) = false := by simp
    clear hl
    go_enter Tryd.func22, Tryd.ntmps22
    go_wp2
    go_loop [14] (fun i => ∃ k : Nat, k ≤ xs.length ∧ i = .int .i64 k ∧ xs.take k = ys.take k) (fun i => xs.length - (intOf i).toNat)
    case atStart => exact ⟨0, Nat.zero_le _, rfl, by simp⟩
    case round =>
      obtain ⟨k, hk, rfl, hp⟩ := hrel
      have HP := Lib.hid hp
      clear hp
      by_cases hlt : k < xs.length
      · have hlt2 : k < ys.length := by rw [← hL.out]; exact hlt
        obtain ⟨B1, o1, rfl, hc1⟩ := H1.out (by intro h; rw [h] at hlt; simp at hlt)
        obtain ⟨B2, o2, rfl, hc2⟩ := H2.out (by intro h; rw [h] at hlt2; simp at hlt2)
        have c1 := hc1 k hlt
        have c2 := hc2 k hlt2
        clear hc1 hc2
        by_cases he : xs[k] = ys[k]
        · have he' : (xs[k] != ys[k]) = false := by simp [he]
          have HE := Lib.hid he
          clear he
          go_wp2
          go_round
          case rel => exact ⟨k + 1, by omega, by go_num, by rw [List.take_succ_eq_append_getElem hlt, List.take_succ_eq_append_getElem hlt2, HP.out, HE.out]⟩
          case measure => simp [intOf]; omega
        · have he' : (xs[k] != ys[k]) = true := by simp [he]
          have hne : decide (xs = ys) = false := by
            rw [decide_eq_false_iff_not]; intro h; apply he; simp [h]
          have HN := Lib.hid hne
          clear he hne
          go_wp2
          go_ret
          exact ⟨by rw [HN.out]; rfl, rfl⟩
      · obtain rfl : k = xs.length := by omega
        have hq : decide (xs = ys) = true := by
          rw [decide_eq_true_iff]; have := HP.out; rwa [List.take_length, hL.out, List.take_length] at this
        have HQ := Lib.hid hq
        clear hq
        go_wp2
        go_ret
        exact ⟨by rw [HQ.out]; rfl, rfl⟩
  · have hne : decide (xs = ys) = false := by
      rw [decide_eq_false_iff_not]; intro h; exact hl (by rw [h])
    have HN := Lib.hid hne
    have ht : ((xs.length : Int) != (ys.length : Int)) = true := by simp; omega
    clear hne
    go_enter Tryd.func22, Tryd.ntmps22
    go_wp2
    go_ret
    exact ⟨by rw [HN.out]; rfl, rfl⟩
end Go.Proofs.YtolhmibejhldkaaDoor

namespace Go.Proofs.YtolhmibejhldkaaDoor
open Go.RowKit Go.Proofs
theorem ownsRow_slice {W : World} {base : Nat} {e : TypeId} {size : Nat} {v : Value} {k : Nat} {xs : List Value} (h : W.ownsRow base e size v k xs) : ∃ a cap, v = .slice a k cap := by
  rcases h.2 with ⟨rfl, rfl⟩ | ⟨g, cap, _, rfl, _⟩
  · exact ⟨_, _, rfl⟩
  · exact ⟨_, _, rfl⟩
theorem ownsRow_own {w w' : World} {base : Nat} {e : TypeId} {v : Value} {n : Nat} {xs : List Value} (h : w.ownsRow base e 1 v n xs) (hg : Below w.heap.size w w') : w'.ownsRow base e 1 v n xs := by
  refine ⟨h.1, ?_⟩
  rcases h.2 with h' | ⟨g, cap, cur, rfl, hb, hh, hr⟩
  · exact .inl h'
  · exact .inr ⟨g, cap, cur, rfl, hb, (hg.block g (Array.getElem?_eq_some_iff.1 hh).1).trans hh, hr⟩
theorem ReadsInts.cellsOf {w : World} {v : Value} {xs : List Int} (h : ReadsInts w v xs) : ∃ a cap, v = .slice a xs.length cap ∧ ∀ k (hk : k < xs.length), ∃ b off, a = some ⟨b, off, none⟩ ∧ ∀ w', Below w.heap.size w w' → w'.cell? ⟨b, off + k, none⟩ = some (.int .i64 xs[k]) := by
  obtain ⟨a, cap, rfl, hx⟩ := h
  refine ⟨a, cap, rfl, fun k hk => ?_⟩
  obtain ⟨b, off, rfl, hc⟩ := hx (fun e => by rw [e] at hk; simp at hk)
  exact ⟨b, off, rfl, fun w' hb => (hb.cell (World.block_lt_of_cell? _ _ (hc k hk))).trans (hc k hk)⟩
theorem ownsRow_chg {X : Nat → Prop} {w w' : World} {base : Nat} {e : TypeId} {size n : Nat} {v : Value} {xs : List Value} (h : w.ownsRow base e size v n xs) (hc : Chg X w w') (hX : ∀ b, base ≤ b → ¬ X b) : w'.ownsRow base e size v n xs := by
  refine ⟨h.1, ?_⟩
  rcases h.2 with h' | ⟨g, cap, cur, rfl, hb, hg, hr⟩
  · exact .inl h'
  · exact .inr ⟨g, cap, cur, rfl, hb, (hc.block g (Array.getElem?_eq_some_iff.1 hg).1 (hX g hb)).trans hg, hr⟩
theorem ownsRow_base {w : World} {base base' : Nat} {e : TypeId} {size n : Nat} {v : Value} {xs : List Value} (h : w.ownsRow base e size v n xs) (hb : base' ≤ base) : w.ownsRow base' e size v n xs := by
  refine ⟨h.1, ?_⟩
  rcases h.2 with h' | ⟨g, cap, cur, rfl, hb', hg, hr⟩
  · exact .inl h'
  · exact .inr ⟨g, cap, cur, rfl, Nat.le_trans hb hb', hg, hr⟩
theorem ownsRow_empty {w : World} {g : Nat} {e : TypeId} (h : Blk w g e #[]) : w.ownsRow g e 1 (.slice (some ⟨g, 0, none⟩) 0 0) 0 [] :=
  ⟨by simp, .inr ⟨g, 0, #[], rfl, Nat.le_refl _, h, by simp, by decide, rfl, by simp⟩⟩
end Go.Proofs.YtolhmibejhldkaaDoor

namespace Go.Proofs.YtolhmibejhldkaaDoor
open Go.ChangeShapes Go.WideShapes Go.ChangeAt Go.RowKit
theorem args_again {H : Type} {enc : TypeId × Value → H} {P : Program} (hl : laidOutB P = true) {W W' : World} (hb : Below W.heap.size W W') :
    ∀ (ts : List TypeId) (vs : List Value) (ds : List (DataW H)) (ps : List MemPlace), (∀ t ∈ ts, P.readableRec t = true ∧ t < P.types.size) →
      DataW.TrodAll enc P W 0 (fun _ => true) true ts vs ds ps → (∀ x ∈ ps, x.block < W.heap.size) → DataW.TrodAll enc P W' 0 (fun b => decide (b < W.heap.size)) true ts vs ds ps := by
  intro ts
  induction ts with
  | nil =>
    intro vs ds ps _ h _
    obtain ⟨rfl, rfl, rfl⟩ := trodAll_nil h
    exact trodAll_mk0
  | cons t ts ih =>
    intro vs ds ps hr h hp
    obtain ⟨v, vs', d, ds', p, q, rfl, rfl, rfl, h0, hs⟩ := trodAll_cons h
    have k0 := Below.trod hl (hr t (by simp)).1 (hr t (by simp)).2 h0 hb (fun x hx => hp x (by simp [hx]))
    have ks := ih vs' ds' q (fun t' ht' => hr t' (by simp [ht'])) hs (fun x hx => hp x (by simp [hx]))
    exact trodAll_cons_mk k0 ks
theorem law_post {H : Type} {enc : TypeId × Value → H} {P : Program} {f : Func} {s : ChangeSpec} {apart fresh handsOn : Bool} {W W' : World} {args : Array Value} {ds gs : List (DataW H)} {before : List MemPlace} {tb : TypeId}
    (hW : DataW.Whole enc P f.params.toList s.vars apart W args.toList ds gs before) (hl : laidOutB P = true) (hr : ∀ t ∈ f.params.toList, P.readableRec t = true ∧ t < P.types.size)
    (hv : s.vars = []) (hres : f.resultTypes = #[tb]) (hb : P.underlying tb = some .bool)
    (hs : s.fn H (ds ++ gs) = { results := [.lit (.bool true)], args := ds }) (hB : Below W.heap.size W W') : s.post enc P f apart fresh handsOn false W args (.bool true) W' := by
  have hlt : ∀ p ∈ before, p.block < W.heap.size := fun p hp => hW.lt p hp
  have hW' := hW
  obtain ⟨p, q, hA, hV, rfl, _, _⟩ := hW
  rw [hv] at hV
  obtain ⟨rfl, rfl⟩ := trodVars_none hV
  simp only [List.append_nil] at hlt hW' hs
  refine ⟨ds, [], p, [], p, [], hW', ?_, ?_, ?_, World.keptBut_mono (fun x hx => ⟨hx, Or.inr (Or.inl hx)⟩) (hB.frame (fun x => x ∈ p)), fun h => by cases h⟩
  · simp only [List.append_nil, hs, hres]
    exact trodAll_cons_mk (shut_bool hb true) trodAll_mk0
  · simp only [List.append_nil, hs]
    exact args_again hl hB _ _ _ _ hr hA hlt
  · simp only [List.append_nil, hs, hv]
    rfl
end Go.Proofs.YtolhmibejhldkaaDoor

namespace Go.Proofs.YtolhmibejhldkaaDoor
open Go.RowKit Go.ChangeShapes Go.WideShapes Go.Deep
def RowsAt (w : World) (v : Value) (n nf : Nat) (kd : IntKind) (f : Nat → Nat → Int) : Prop :=
  (∃ a cap, v = .slice a n cap ∧ (n ≠ 0 → ∃ b off, a = some ⟨b, off, none⟩ ∧ ∀ i, i < n → ∀ j, j < nf → w.cell? ⟨b, off + (i * nf + j), none⟩ = some (.int kd (f i j)))) ∧
  (∀ i, i < n → ∀ j, j < nf → (Lit.int kd (f i j)).wf = true) ∧ n ≤ maxLen
theorem RowsAt.later {w w' : World} {v : Value} {n nf : Nat} {kd : IntKind} {f : Nat → Nat → Int} (h : RowsAt w v n nf kd f) (hb : Below w.heap.size w w') : RowsAt w' v n nf kd f := by
  obtain ⟨⟨a, cap, rfl, hx⟩, hwf, hm⟩ := h
  refine ⟨⟨a, cap, rfl, fun hn => ?_⟩, hwf, hm⟩
  obtain ⟨b, off, rfl, hc⟩ := hx hn
  exact ⟨b, off, rfl, fun i hi j hj => (hb.cell (World.block_lt_of_cell? _ _ (hc i hi j hj))).trans (hc i hi j hj)⟩
theorem RowsAt.cellAt {w : World} {v : Value} {n nf : Nat} {kd : IntKind} {f : Nat → Nat → Int} (h0 : 0 < nf) (h : RowsAt w v n nf kd f) : ∃ a cap, v = .slice a n cap ∧ (n ≠ 0 → ∃ b off, a = some ⟨b, off, none⟩ ∧ b < w.heap.size ∧ ∀ w', Below w.heap.size w w' → ∀ i, i < n → ∀ j, j < nf → w'.cell? ⟨b, off + (i * nf + j), none⟩ = some (.int kd (f i j))) := by
  obtain ⟨⟨a, cap, rfl, hx⟩, hwf, hm⟩ := h
  refine ⟨a, cap, rfl, fun hn => ?_⟩
  obtain ⟨b, off, rfl, hc⟩ := hx hn
  exact ⟨b, off, rfl, World.block_lt_of_cell? _ _ (hc 0 (by omega) 0 (by omega)), fun w' hb i hi j hj => (hb.cell (World.block_lt_of_cell? _ _ (hc i hi j hj))).trans (hc i hi j hj)⟩
theorem cell_spot0 {W : World} {a : Addr} {v : Value} (h : W.cell? a = some v) : a.spot = none := by
  unfold World.cell? at h
  split at h
  · cases hs : a.spot with
    | none => rfl
    | some x => simp [hs] at h
  · cases h
theorem add_zero_spot {a : Addr} (h : (a.add 0).spot = none) : a = ⟨a.block, a.off, none⟩ ∧ ∀ j, a.add j = ⟨a.block, a.off + j, none⟩ := by
  obtain ⟨b, o, s⟩ := a
  have hs : s = none := by simpa [Addr.add] using h
  subst hs
  refine ⟨rfl, fun j => ?_⟩
  unfold Addr.add; split
  · rename_i hj; simp [hj]
  · rfl
theorem choice2 {p : Nat → Nat → Prop} {q : Nat → Nat → Int → Prop} (h : ∀ i j, p i j → ∃ z, q i j z) : ∃ f : Nat → Nat → Int, ∀ i j, p i j → q i j (f i j) := by
  have h' : ∀ i, ∃ g : Nat → Int, ∀ j, p i j → q i j (g j) := fun i => by
    have : ∀ j, ∃ z, p i j → q i j z := fun j => by
      by_cases hp : p i j
      · obtain ⟨z, hz⟩ := h i j hp; exact ⟨z, fun _ => hz⟩
      · exact ⟨0, fun h => absurd h hp⟩
    exact ⟨fun j => Classical.choose (this j), fun j => Classical.choose_spec (this j)⟩
  exact ⟨fun i => Classical.choose (h' i), fun i => Classical.choose_spec (h' i)⟩
section
variable {H : Type} {enc : TypeId × Value → H} {P : Program} {w : World} {base : Nat} {spare : Nat → Bool} {held : Bool}
theorem rowsAt_of {t e : TypeId} {fs : Array Field} {kd : IntKind} {a : Option Addr} {len cap : Nat} {d : DataW H} {p : List MemPlace} (ht : P.underlying t = some (.slice e)) (he : P.underlying e = some (.struct fs))
    (hone : oneCellFields P fs = true) (hC : P.cellsOf e = fs.size) (h0 : 0 < fs.size) (hk : ∀ (j : Nat) (f : Field), fs[j]? = some f → P.underlying f.type = some (.int kd))
    (h : DataW.Trod enc P w base spare held t (.slice a len cap) d p) : ∃ f, RowsAt w (.slice a len cap) len fs.size kd f := by
  obtain ⟨fuel, hf⟩ := h
  have hf' : DataW.trod enc P w base spare held fuel t [.slice a len cap] = some (d, p) := hf
  rcases open_slice ht hf' with ⟨h1, h2⟩ | ⟨a', len', cap', m, n, D, Pl, hcs, hb, hl, hm, hmm, hx, hi⟩
  · simp only [List.cons.injEq, Value.slice.injEq, and_true] at h1
    obtain ⟨rfl, rfl, rfl⟩ := h1
    exact ⟨fun _ _ => 0, ⟨none, 0, rfl, fun h => absurd rfl h⟩, fun i hi => by omega, by unfold maxLen; omega⟩
  · simp only [List.cons.injEq, Value.slice.injEq, and_true] at hcs
    obtain ⟨rfl, rfl, rfl⟩ := hcs
    have hml : len ≤ m := by rw [hmm]; split <;> omega
    have key : ∀ i, i < len → ∀ j, j < fs.size → ∃ z, w.cell? (a'.add (i * fs.size + j)) = some (.int kd z) ∧ (Lit.int kd z).wf = true := by
      intro i hil j hj
      obtain ⟨cs', hc, ht'⟩ := hi i (by omega)
      rw [hC] at hc
      obtain ⟨ys, n', hn', hy, hlen, hyl, hff⟩ := DataW.trod_struct he ht'
      obtain ⟨_, hcl, hat⟩ := World.cells?_some hc
      have hfj : fs[j]? = some fs[j] := Array.getElem?_eq_getElem hj
      obtain ⟨ho, hk1⟩ := hone_of hone j _ hfj
      have hcell := hat j hj
      have h1 := hff j _ hfj
      rw [ho, hk1] at h1
      have hone' : (cs'.drop j).take 1 = [cs'[j]'(by omega)] := by
        rw [List.drop_eq_getElem_cons (by omega)]
        rfl
      rw [hone'] at h1
      have hys : ys[j]? = some (ys[j]'(by omega)) := List.getElem?_eq_getElem (by omega)
      rw [hys] at h1
      obtain ⟨z, hz, _, hwf⟩ := DataW.trod_int (hk j _ hfj) h1
      simp only [List.cons.injEq, and_true] at hz
      refine ⟨z, ?_, hwf⟩
      rw [← Go.Deep.add_add, hcell]
      have hv : cs'[j]? = some (cs'[j]'(by omega)) := List.getElem?_eq_getElem (by omega)
      rw [hv, hz]
    obtain ⟨f, hf⟩ := choice2 (p := fun i j => i < len ∧ j < fs.size) (q := fun i j z => w.cell? (a'.add (i * fs.size + j)) = some (.int kd z) ∧ (Lit.int kd z).wf = true) (fun i j hp => key i hp.1 j hp.2)
    refine ⟨f, ⟨some a', cap, rfl, fun hn => ?_⟩, fun i hi j hj => (hf i j ⟨hi, hj⟩).2, by omega⟩
    have hz1 := (hf 0 0 ⟨by omega, h0⟩).1
    rw [Nat.zero_mul] at hz1
    obtain ⟨e1, e2⟩ := add_zero_spot (cell_spot0 hz1)
    refine ⟨a'.block, a'.off, by rw [← e1], fun i hi j hj => ?_⟩
    rw [← e2]
    exact (hf i j ⟨hi, hj⟩).1
def intK (P : Program) (t : TypeId) : Option IntKind := match P.underlying t with | some (.int k) => some k | _ => none
theorem intK_some {t : TypeId} {k : IntKind} (h : intK P t = some k) : P.underlying t = some (.int k) := by
  unfold intK at h; split at h
  · rename_i heq; rw [heq]; cases h; rfl
  · cases h
theorem rowsAt_of' {t e : TypeId} {fs : Array Field} {kd : IntKind} {a : Option Addr} {len cap : Nat} {d : DataW H} {p : List MemPlace} (ht : P.underlying t = some (.slice e)) (he : P.underlying e = some (.struct fs))
    (hone : oneCellFields P fs = true) (hC : P.cellsOf e = fs.size) (h0 : 0 < fs.size) (hk : (fs.toList.map fun f => intK P f.type) = List.replicate fs.size (some kd))
    (h : DataW.Trod enc P w base spare held t (.slice a len cap) d p) : ∃ f, RowsAt w (.slice a len cap) len fs.size kd f :=
  rowsAt_of ht he hone hC h0 (fun j f hf => intK_some (by
    have h1 : (fs.toList.map fun f => intK P f.type)[j]? = some (intK P f.type) := by rw [List.getElem?_map, Array.getElem?_toList, hf]; rfl
    rw [hk, List.getElem?_replicate] at h1
    split at h1
    · exact (Option.some.inj h1).symm
    · cases h1)) h
end
end Go.Proofs.YtolhmibejhldkaaDoor
