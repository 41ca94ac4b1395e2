/- The errors of package api, as the cards' lists lay them. Condition: the list. -/
import Derived.Test.YtcmjddkljmfklaaDoorProg
import Derived.LaidEql
import Derived.LaidLaws
import Derived.Below
import Derived.RowKitTokens
namespace Go.Proofs.YtcmjddkljmfklaaDoor
set_option linter.unusedVariables false
set_option linter.unusedSimpArgs false
open Go.RowKit Go.Proofs Go.ChangeShapes Go.WideShapes

/-! ### Out of a list of laid errors: their cells, all apart -/
theorem cell_spot {W : World} {a : Addr} {v : Value} (h : W.cell? a = some v) : a.spot = none := by
  unfold World.cell? at h
  split at h
  · cases hs : a.spot with
    | none => rfl
    | some x => simp [hs] at h
  · cases h

/-- two lists, place by place -/
inductive Pair2 {α β : Type} (R : α → β → Prop) : List α → List β → Prop
  | nil : Pair2 R [] []
  | cons {a : α} {b : β} {l : List α} {m : List β} (h : R a b) (r : Pair2 R l m) : Pair2 R (a :: l) (b :: m)

/-- what one row of the list must be -/
def IsErrRow (P : Program) (tErr : TypeId) (x : String × DataW Unit) (g : Nat) : Prop :=
  P.globalNamed x.1 = some g ∧ (P.globals[g]?).map (·.type) = some tErr ∧ ∃ text, x.2 = .iface "*errors.errorString" (.ptr (.agg [.lit (.string text)]))

theorem laid_errs {P : Program} {w : World} {tErr tPtr tRec tStr : TypeId} {ms : Array (String × TypeId)} {f : Field}
    (hi : P.underlying tErr = some (.interface ms)) (hrow : ∀ u, P.typeName? 3 u = some "*errors.errorString" → u = tPtr)
    (hp : P.underlying tPtr = some (.pointer tRec)) (he : P.underlying tRec = some (.struct #[f])) (hft : f.type = tStr) (hfo : f.offset = 0) (hs : P.underlying tStr = some .string)
    (hc : P.cellsOf tRec = 1) (hcs : P.cellsOf tStr = 1) :
    ∀ (l : List (String × DataW Unit)) (gs : List Nat) (ps : List MemPlace), DataW.LaidVars P w l ps → Pair2 (IsErrRow P tErr) l gs →
      (∀ b off, MemPlace.cell b off ∈ ps → (∃ c t, w.heap[b]? = some (.cells c t (0, 0))) ∧ ∀ u v, w.cell? ⟨b, off, none⟩ = some (.iface u v) → Value.okWide P w .any 0 u v) →
      ∃ E : List Addr, Pair2 (fun g a => w.cell? ⟨g, 0, none⟩ = some (.iface tPtr (.pointer (some a))) ∧ a.spot = none ∧ ∃ c t, w.heap[a.block]? = some (.cells c t (0, 0))) gs E ∧
        (E.map fun a => MemPlace.cell a.block a.off).Sublist ps := by
  intro l
  induction l with
  | nil =>
    intro gs ps hl hf _
    cases hf
    exact ⟨[], .nil, by simp⟩
  | cons x l ih =>
    intro gs ps hl hf hr
    cases hf with
    | cons hx hf =>
      rename_i g gs
      obtain ⟨n, d⟩ := x
      obtain ⟨g', t, cs, fuel, p, q, hg, ht, hv, hd, hq, rfl⟩ := hl
      obtain ⟨hxg, hxt, text, hxd⟩ := hx
      simp only at hxg hxt hxd
      subst hxd
      obtain rfl := Option.some.inj (hg.symm.trans hxg)
      obtain rfl := Option.some.inj (ht.symm.trans hxt)
      obtain ⟨E, hE, hsub⟩ := ih gs q hq hf (fun b off hm => hr b off (by simp [hm]))
      obtain ⟨lc⟩ := cs
      have hvc := World.var?_cell hg hv 0
      have ok : ∀ u v, lc = [.iface u v] → Value.okWide P w .any 0 u v := fun u v e => by
        subst e
        exact (hr g' 0 (by simp [MemPlace.row])).2 u v (by simpa using hvc)
      obtain ⟨a, s, rfl, hca, hsa, hza, rfl⟩ := errorString_of_trod hi hrow hp he hft hfo hs hc hcs hd ok
      refine ⟨a :: E, .cons ⟨by simpa using hvc, cell_spot hca, ?_⟩ hE, ?_⟩
      · exact (hr a.block a.off (by simp [MemPlace.row])).1
      · have e1 : MemPlace.row a 1 = [MemPlace.cell a.block a.off] := by simp [MemPlace.row]
        rw [e1]
        simp only [List.map_cons, List.append_assoc, List.singleton_append]
        exact (hsub.cons_cons _).trans (List.sublist_append_right _ _)

theorem laid_take {P : Program} {w : World} : ∀ {l : List (String × DataW Unit)} {ps : List MemPlace}, DataW.LaidVars P w l ps → ∀ n : Nat, ∃ ps', DataW.LaidVars P w (l.take n) ps' ∧ ps'.Sublist ps := by
  intro l
  induction l with
  | nil => intro ps h n; exact ⟨[], by simp [DataW.LaidVars], by simp⟩
  | cons x l ih =>
    intro ps h n
    obtain ⟨m, d⟩ := x
    obtain ⟨g, t, cs, fuel, p, q, hg, ht, hv, hd, hq, rfl⟩ := h
    cases n with
    | zero => exact ⟨[], by simp [DataW.LaidVars], by simp⟩
    | succ n =>
      obtain ⟨q', hq', hs⟩ := ih hq n
      exact ⟨MemPlace.row ⟨g, 0, none⟩ cs.size ++ p ++ q', ⟨g, t, cs, fuel, p, q', hg, ht, hv, hd, hq', rfl⟩, hs.append_left _⟩

theorem starErr : "*" ++ "errors.errorString" = "*errors.errorString" := by decide
theorem ptrRow (u : TypeId) (h : Tryd.prog.typeName? 3 u = some "*errors.errorString") : u = 187 :=
  typeName_ptr_named (nm := "errors.errorString") (by rw [starErr]; kernel_rfl) (by kernel_rfl) (by decide) u (by rw [starErr]; exact h)

/-- the first n of a row's list, all errors: their addresses -/
theorem errs_of {w : World} {l : List (String × DataW Unit)} {gs : List Nat} (n : Nat) (h : laidMet Tryd.prog l w) (hf : Pair2 (IsErrRow Tryd.prog 25) (l.take n) gs) :
    ∃ E : List Addr, Pair2 (fun g a => w.cell? ⟨g, 0, none⟩ = some (.iface 187 (.pointer (some a))) ∧ a.spot = none ∧ ∃ c t, w.heap[a.block]? = some (.cells c t (0, 0))) gs E ∧ E.Nodup := by
  obtain ⟨ps, hl, hnd, hr⟩ := h
  obtain ⟨ps', hl', hs⟩ := laid_take hl n
  obtain ⟨E, hE, hsub⟩ := laid_errs Tryd.underlying25 ptrRow Tryd.underlying187 Tryd.underlying211 rfl rfl Tryd.underlying9 (by kernel_rfl) (by kernel_rfl) _ _ _ hl' hf (fun b off hm => hr b off (hs.subset hm))
  refine ⟨E, hE, ?_⟩
  exact List.Pairwise.of_map (fun a : Addr => MemPlace.cell a.block a.off) (fun a b hab h => hab (by rw [h])) ((hsub.trans hs).nodup hnd)

theorem err_row (P : Program) (tErr : TypeId) (n : String) (text : List UInt8) (g : Nat) (h1 : P.globalNamed n = some g) (h2 : (P.globals[g]?).map (·.type) = some tErr) :
    IsErrRow P tErr (n, .iface "*errors.errorString" (.ptr (.agg [.lit (.string text)]))) g := ⟨h1, h2, text, rfl⟩
end Go.Proofs.YtcmjddkljmfklaaDoor
