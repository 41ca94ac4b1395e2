/- The frame of a law's row, for arguments of whatever types: each reads behind the call as it read before, since nothing that was there has turned. No condition. -/
import Derived.Test.YtcmjddkljmfklaaDoorRows
import Derived.WalkKit
import Derived.ProofKit
import Derived.OpenShut
import Derived.Deep.DeepHandedRow
import Derived.Deep.DeepWitnessRowRef
import Derived.Lib.LaidTab
namespace Go.Proofs.YtcmjddkljmfklaaDoor
set_option linter.unusedVariables false
set_option linter.unusedSimpArgs false
open Go.ChangeShapes Go.WideShapes Go.ChangeAt Go.RowKit

theorem args_again {H : Type} {enc : TypeId × Value → H} {P : Program} (hl : laidOutB P = true) {W W' : World} (hb : Below W.heap.size W W') :
    ∀ (ts : List TypeId) (vs : List Value) (ds : List (DataW H)) (ps : List MemPlace), (∀ t ∈ ts, P.readableRec t = true ∧ t < P.types.size) →
      DataW.TrodAll enc P W 0 (fun _ => true) true ts vs ds ps → (∀ x ∈ ps, x.block < W.heap.size) → DataW.TrodAll enc P W' 0 (fun b => decide (b < W.heap.size)) true ts vs ds ps := by
  intro ts
  induction ts with
  | nil =>
    intro vs ds ps _ h _
    obtain ⟨rfl, rfl, rfl⟩ := trodAll_nil h
    exact trodAll_mk0
  | cons t ts ih =>
    intro vs ds ps hr h hp
    obtain ⟨v, vs', d, ds', p, q, rfl, rfl, rfl, h0, hs⟩ := trodAll_cons h
    have k0 := Below.trod hl (hr t (by simp)).1 (hr t (by simp)).2 h0 hb (fun x hx => hp x (by simp [hx]))
    have ks := ih vs' ds' q (fun t' ht' => hr t' (by simp [ht'])) hs (fun x hx => hp x (by simp [hx]))
    exact trodAll_cons_mk k0 ks

/-- the law's step: it returned true, and nothing that was there has turned -/
theorem law_post {H : Type} {enc : TypeId × Value → H} {P : Program} {f : Func} {s : ChangeSpec} {apart fresh handsOn : Bool} {W W' : World} {args : Array Value} {ds gs : List (DataW H)} {before : List MemPlace} {tb : TypeId}
    (hW : DataW.Whole enc P f.params.toList s.vars apart W args.toList ds gs before) (hl : laidOutB P = true) (hr : ∀ t ∈ f.params.toList, P.readableRec t = true ∧ t < P.types.size)
    (hv : s.vars = []) (hres : f.resultTypes = #[tb]) (hb : P.underlying tb = some .bool)
    (hs : s.fn H (ds ++ gs) = { results := [.lit (.bool true)], args := ds }) (hB : Below W.heap.size W W') : s.post enc P f apart fresh handsOn false W args (.bool true) W' := by
  have hlt : ∀ p ∈ before, p.block < W.heap.size := fun p hp => hW.lt p hp
  have hW' := hW
  obtain ⟨p, q, hA, hV, rfl, _, _⟩ := hW
  rw [hv] at hV
  obtain ⟨rfl, rfl⟩ := trodVars_none hV
  simp only [List.append_nil] at hlt hW' hs
  refine ⟨ds, [], p, [], p, [], hW', ?_, ?_, ?_, World.keptBut_mono (fun x hx => ⟨hx, Or.inr (Or.inl hx)⟩) (hB.frame (fun x => x ∈ p)), fun h => by cases h⟩
  · simp only [List.append_nil, hs, hres]
    exact trodAll_cons_mk (shut_bool hb true) trodAll_mk0
  · simp only [List.append_nil, hs]
    exact args_again hl hB _ _ _ _ hr hA hlt
  · simp only [List.append_nil, hs, hv]
    rfl

/-- a flat row of cells, each well formed at its type -/
theorem row_cell {P : Program} {W : World} {base : Nat} {t u : TypeId} {cs : Array Value} {ts : List TypeId} (h : Row.okWide P W .any base t cs) (hts : P.cellTypes P.depth t = some ts) (i : Nat) (hi : i < cs.size) (hl : i < ts.length) (hu : ts[i]? = some u) :
    ∃ v, cs[i]? = some v ∧ Cell.okWide P W .any base u v := by
  obtain ⟨ts', h1, _, h3⟩ := h
  obtain rfl := Option.some.inj (hts.symm.trans h1)
  obtain ⟨u', hu', hc⟩ := h3 i cs[i] (by simp [hi])
  rw [Nat.mod_eq_of_lt hl, hu] at hu'
  obtain rfl := Option.some.inj hu'
  exact ⟨cs[i], by simp [hi], hc⟩
theorem cell_int {P : Program} {W : World} {base : Nat} {u : TypeId} {k : IntKind} {v : Value} (hu : P.underlying u = some (.int k)) (h : Cell.okWide P W .any base u v) : ∃ n, v = .int k n ∧ (Lit.int k n).wf = true := by
  simp only [Cell.okWide, hu] at h
  cases v <;> simp_all [Cell.ok, IntKind.has, Lit.wf]
theorem cell_bool {P : Program} {W : World} {base : Nat} {u : TypeId} {v : Value} (hu : P.underlying u = some .bool) (h : Cell.okWide P W .any base u v) : ∃ b, v = .bool b := by
  simp only [Cell.okWide, hu] at h
  cases v <;> simp_all [Cell.ok]
theorem okWide_row {P : Program} {W : World} {base : Nat} {t : TypeId} {v : Value} (ht : (match P.underlying t with | some (.struct _) | some (.array _ _) => true | _ => false) = true) (h : Value.okWide P W .any base t v) :
    ∃ cs, v = .agg cs ∧ cs.size = P.cellsOf t ∧ Row.okWide P W .any base t cs := by
  unfold Value.okWide at h
  split at h <;> simp_all

/-- a laid table of texts -/
theorem cells_of_strs {H : Type} {enc : TypeId × Value → H} {P : Program} {w : World} {base : Nat} {sp : Nat → Bool} {held : Bool} {fuel : Nat} {t e : TypeId} {n : Nat} {cs : List Value} {ss : List (List UInt8)} {p : List MemPlace}
    (ht : P.underlying t = some (.array n e)) (he : P.underlying e = some .string) (hce : P.cellsOf e = 1) (hct : P.cellsOf t = n)
    (h : DataW.trod enc P w base sp held fuel t cs = some (.agg (ss.map fun s => .lit (.string s)), p)) : cs = ss.map fun s => Value.string ⟨s.toArray⟩ := by
  cases fuel with
  | zero => simp [DataW.trod] at h
  | succ fuel =>
    simp only [DataW.trod, ht, hce, hct, Nat.mul_one] at h
    split at h
    · rename_i hl
      obtain ⟨xs, hm, hx⟩ := Option.map_eq_some_iff.1 h
      have hxs : xs.map (·.1) = ss.map fun s => (DataW.lit (.string s) : DataW H) := by
        have := congrArg Prod.fst hx
        simpa using this
      have hxl : xs.length = n := by simpa using Lib.mapM_length hm
      have hzl : ss.length = n := by
        have := congrArg List.length hxs
        simp at this
        omega
      apply List.ext_getElem?
      intro i
      by_cases hi : i < n
      · obtain ⟨b, hb, hf⟩ := Lib.mapM_at hm i i (by simp [hi])
        obtain ⟨z, hc, rfl, _⟩ := DataW.trod_string he hf
        have h1 : cs[i]? = some (.string z) := by
          have := congrArg (·[0]?) hc
          simpa [List.getElem?_take, List.getElem?_drop] using this
        have h2 : (xs.map (·.1))[i]? = some (DataW.lit (.string z.data.toList) : DataW H) := by simp [hb]
        rw [hxs] at h2
        simp only [List.getElem?_map, Option.map_eq_some_iff, DataW.lit.injEq, Lit.string.injEq] at h2
        obtain ⟨z', hz', rfl⟩ := h2
        simp [h1, hz']
      · rw [List.getElem?_eq_none (by omega), List.getElem?_eq_none (by simp; omega)]
    · cases h

theorem laid_mem {P : Program} {w : World} {n : String} {d : DataW Unit} : ∀ {l : List (String × DataW Unit)} {ps : List MemPlace}, DataW.LaidVars P w l ps → (n, d) ∈ l →
    ∃ g t cs fuel p, P.globalNamed n = some g ∧ (P.globals[g]?).map (·.type) = some t ∧ w.var? P n = some cs ∧ DataW.trod (fun _ => ()) P w 0 (fun _ => true) false fuel t cs.toList = some (d, p) := by
  intro l
  induction l with
  | nil => intro ps _ h; simp at h
  | cons x l ih =>
    intro ps hl hm
    obtain ⟨m, e⟩ := x
    obtain ⟨g, t, cs, fuel, p, q, hg, ht, hv, hd, hq, rfl⟩ := hl
    rcases List.mem_cons.1 hm with h | h
    · cases h
      exact ⟨g, t, cs, fuel, p, hg, ht, hv, hd⟩
    · exact ih hq h

theorem laid_strs {P : Program} {w : World} {l : List (String × DataW Unit)} {n : String} {ss : List (List UInt8)} {g : Nat} {t e : TypeId} {k : Nat}
    (h : laidMet P l w) (hm : (n, (.agg (ss.map fun s => .lit (.string s)) : DataW Unit)) ∈ l) (hg : P.globalNamed n = some g) (hty : (P.globals[g]?).map (·.type) = some t)
    (ht : P.underlying t = some (.array k e)) (he : P.underlying e = some .string) (hce : P.cellsOf e = 1) (hct : P.cellsOf t = k) (i : Nat) (hi : i < ss.length) :
    w.cell? ⟨g, i, none⟩ = some (.string ⟨(ss.getD i []).toArray⟩) := by
  obtain ⟨ps, hl, _⟩ := h
  obtain ⟨g', t', cs, fuel, p, hg', ht', hv, hd⟩ := laid_mem hl hm
  obtain rfl := Option.some.inj (hg.symm.trans hg')
  obtain rfl := Option.some.inj (hty.symm.trans ht')
  have hc := cells_of_strs ht he hce hct hd
  have hvc := World.var?_cell hg hv i
  rw [hvc, ← Array.getElem?_toList, hc]
  simp [hi]
end Go.Proofs.YtcmjddkljmfklaaDoor
