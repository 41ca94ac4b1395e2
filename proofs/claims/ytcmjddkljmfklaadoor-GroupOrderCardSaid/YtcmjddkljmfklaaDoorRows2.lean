/- Arguments that are slices of integers, or of structs of integers. No condition. -/
import Derived.Test.YtcmjddkljmfklaaDoorChg
import Derived.Deep.Slices
import Derived.Deep.Fields
import Derived.ChangeSame
import Derived.ChangeSlices
import Derived.ProofKit
import Derived.OpenShut
namespace Go.Proofs.YtcmjddkljmfklaaDoor
set_option linter.unusedVariables false
set_option linter.unusedSimpArgs false
open Go.RowKit Go.ChangeShapes Go.WideShapes Go.Deep

/-- the slice v holds n rows of nf cells, f i j each, of kind kd -/
def RowsAt (w : World) (v : Value) (n nf : Nat) (kd : IntKind) (f : Nat → Nat → Int) : Prop :=
  (∃ a cap, v = .slice a n cap ∧ (n ≠ 0 → ∃ b off, a = some ⟨b, off, none⟩ ∧ ∀ i, i < n → ∀ j, j < nf → w.cell? ⟨b, off + (i * nf + j), none⟩ = some (.int kd (f i j)))) ∧
  (∀ i, i < n → ∀ j, j < nf → (Lit.int kd (f i j)).wf = true) ∧ n ≤ maxLen

theorem RowsAt.later {w w' : World} {v : Value} {n nf : Nat} {kd : IntKind} {f : Nat → Nat → Int} (h : RowsAt w v n nf kd f) (hb : Below w.heap.size w w') : RowsAt w' v n nf kd f := by
  obtain ⟨⟨a, cap, rfl, hx⟩, hwf, hm⟩ := h
  refine ⟨⟨a, cap, rfl, fun hn => ?_⟩, hwf, hm⟩
  obtain ⟨b, off, rfl, hc⟩ := hx hn
  exact ⟨b, off, rfl, fun i hi j hj => (hb.cell (World.block_lt_of_cell? _ _ (hc i hi j hj))).trans (hc i hi j hj)⟩
theorem RowsAt.cellAt {w : World} {v : Value} {n nf : Nat} {kd : IntKind} {f : Nat → Nat → Int} (h0 : 0 < nf) (h : RowsAt w v n nf kd f) : ∃ a cap, v = .slice a n cap ∧ (n ≠ 0 → ∃ b off, a = some ⟨b, off, none⟩ ∧ b < w.heap.size ∧ ∀ w', Below w.heap.size w w' → ∀ i, i < n → ∀ j, j < nf → w'.cell? ⟨b, off + (i * nf + j), none⟩ = some (.int kd (f i j))) := by
  obtain ⟨⟨a, cap, rfl, hx⟩, hwf, hm⟩ := h
  refine ⟨a, cap, rfl, fun hn => ?_⟩
  obtain ⟨b, off, rfl, hc⟩ := hx hn
  exact ⟨b, off, rfl, World.block_lt_of_cell? _ _ (hc 0 (by omega) 0 (by omega)), fun w' hb i hi j hj => (hb.cell (World.block_lt_of_cell? _ _ (hc i hi j hj))).trans (hc i hi j hj)⟩
theorem cell_spot0 {W : World} {a : Addr} {v : Value} (h : W.cell? a = some v) : a.spot = none := by
  unfold World.cell? at h
  split at h
  · cases hs : a.spot with
    | none => rfl
    | some x => simp [hs] at h
  · cases h
theorem add_zero_spot {a : Addr} (h : (a.add 0).spot = none) : a = ⟨a.block, a.off, none⟩ ∧ ∀ j, a.add j = ⟨a.block, a.off + j, none⟩ := by
  obtain ⟨b, o, s⟩ := a
  have hs : s = none := by simpa [Addr.add] using h
  subst hs
  refine ⟨rfl, fun j => ?_⟩
  unfold Addr.add; split
  · rename_i hj; simp [hj]
  · rfl
theorem choice2 {p : Nat → Nat → Prop} {q : Nat → Nat → Int → Prop} (h : ∀ i j, p i j → ∃ z, q i j z) : ∃ f : Nat → Nat → Int, ∀ i j, p i j → q i j (f i j) := by
  have h' : ∀ i, ∃ g : Nat → Int, ∀ j, p i j → q i j (g j) := fun i => by
    have : ∀ j, ∃ z, p i j → q i j z := fun j => by
      by_cases hp : p i j
      · obtain ⟨z, hz⟩ := h i j hp; exact ⟨z, fun _ => hz⟩
      · exact ⟨0, fun h => absurd h hp⟩
    exact ⟨fun j => Classical.choose (this j), fun j => Classical.choose_spec (this j)⟩
  exact ⟨fun i => Classical.choose (h' i), fun i => Classical.choose_spec (h' i)⟩

section
variable {H : Type} {enc : TypeId × Value → H} {P : Program} {w : World} {base : Nat} {spare : Nat → Bool} {held : Bool}
theorem rowsAt_of {t e : TypeId} {fs : Array Field} {kd : IntKind} {a : Option Addr} {len cap : Nat} {d : DataW H} {p : List MemPlace} (ht : P.underlying t = some (.slice e)) (he : P.underlying e = some (.struct fs))
    (hone : oneCellFields P fs = true) (hC : P.cellsOf e = fs.size) (h0 : 0 < fs.size) (hk : ∀ (j : Nat) (f : Field), fs[j]? = some f → P.underlying f.type = some (.int kd))
    (h : DataW.Trod enc P w base spare held t (.slice a len cap) d p) : ∃ f, RowsAt w (.slice a len cap) len fs.size kd f := by
  obtain ⟨fuel, hf⟩ := h
  have hf' : DataW.trod enc P w base spare held fuel t [.slice a len cap] = some (d, p) := hf
  rcases open_slice ht hf' with ⟨h1, h2⟩ | ⟨a', len', cap', m, n, D, Pl, hcs, hb, hl, hm, hmm, hx, hi⟩
  · simp only [List.cons.injEq, Value.slice.injEq, and_true] at h1
    obtain ⟨rfl, rfl, rfl⟩ := h1
    exact ⟨fun _ _ => 0, ⟨none, 0, rfl, fun h => absurd rfl h⟩, fun i hi => by omega, by unfold maxLen; omega⟩
  · simp only [List.cons.injEq, Value.slice.injEq, and_true] at hcs
    obtain ⟨rfl, rfl, rfl⟩ := hcs
    have hml : len ≤ m := by rw [hmm]; split <;> omega
    have key : ∀ i, i < len → ∀ j, j < fs.size → ∃ z, w.cell? (a'.add (i * fs.size + j)) = some (.int kd z) ∧ (Lit.int kd z).wf = true := by
      intro i hil j hj
      obtain ⟨cs', hc, ht'⟩ := hi i (by omega)
      rw [hC] at hc
      obtain ⟨ys, n', hn', hy, hlen, hyl, hff⟩ := DataW.trod_struct he ht'
      obtain ⟨_, hcl, hat⟩ := World.cells?_some hc
      have hfj : fs[j]? = some fs[j] := Array.getElem?_eq_getElem hj
      obtain ⟨ho, hk1⟩ := hone_of hone j _ hfj
      have hcell := hat j hj
      have h1 := hff j _ hfj
      rw [ho, hk1] at h1
      have hone' : (cs'.drop j).take 1 = [cs'[j]'(by omega)] := by
        rw [List.drop_eq_getElem_cons (by omega)]
        rfl
      rw [hone'] at h1
      have hys : ys[j]? = some (ys[j]'(by omega)) := List.getElem?_eq_getElem (by omega)
      rw [hys] at h1
      obtain ⟨z, hz, _, hwf⟩ := DataW.trod_int (hk j _ hfj) h1
      simp only [List.cons.injEq, and_true] at hz
      refine ⟨z, ?_, hwf⟩
      rw [← Go.Deep.add_add, hcell]
      have hv : cs'[j]? = some (cs'[j]'(by omega)) := List.getElem?_eq_getElem (by omega)
      rw [hv, hz]
    obtain ⟨f, hf⟩ := choice2 (p := fun i j => i < len ∧ j < fs.size) (q := fun i j z => w.cell? (a'.add (i * fs.size + j)) = some (.int kd z) ∧ (Lit.int kd z).wf = true) (fun i j hp => key i hp.1 j hp.2)
    refine ⟨f, ⟨some a', cap, rfl, fun hn => ?_⟩, fun i hi j hj => (hf i j ⟨hi, hj⟩).2, by omega⟩
    have hz1 := (hf 0 0 ⟨by omega, h0⟩).1
    rw [Nat.zero_mul] at hz1
    obtain ⟨e1, e2⟩ := add_zero_spot (cell_spot0 hz1)
    refine ⟨a'.block, a'.off, by rw [← e1], fun i hi j hj => ?_⟩
    rw [← e2]
    exact (hf i j ⟨hi, hj⟩).1
/-- the kind of an integer type -/
def intK (P : Program) (t : TypeId) : Option IntKind := match P.underlying t with | some (.int k) => some k | _ => none
theorem intK_some {t : TypeId} {k : IntKind} (h : intK P t = some k) : P.underlying t = some (.int k) := by
  unfold intK at h; split at h
  · rename_i heq; rw [heq]; cases h; rfl
  · cases h
theorem rowsAt_of' {t e : TypeId} {fs : Array Field} {kd : IntKind} {a : Option Addr} {len cap : Nat} {d : DataW H} {p : List MemPlace} (ht : P.underlying t = some (.slice e)) (he : P.underlying e = some (.struct fs))
    (hone : oneCellFields P fs = true) (hC : P.cellsOf e = fs.size) (h0 : 0 < fs.size) (hk : (fs.toList.map fun f => intK P f.type) = List.replicate fs.size (some kd))
    (h : DataW.Trod enc P w base spare held t (.slice a len cap) d p) : ∃ f, RowsAt w (.slice a len cap) len fs.size kd f :=
  rowsAt_of ht he hone hC h0 (fun j f hf => intK_some (by
    have h1 : (fs.toList.map fun f => intK P f.type)[j]? = some (intK P f.type) := by rw [List.getElem?_map, Array.getElem?_toList, hf]; rfl
    rw [hk, List.getElem?_replicate] at h1
    split at h1
    · exact (Option.some.inj h1).symm
    · cases h1)) h
theorem intsAt_of {t e : TypeId} {kd : IntKind} {a : Option Addr} {len cap : Nat} {d : DataW H} {p : List MemPlace} (ht : P.underlying t = some (.slice e)) (he : P.underlying e = some (.int kd)) (hC : P.cellsOf e = 1)
    (h : DataW.Trod enc P w base spare held t (.slice a len cap) d p) : ∃ f : Nat → Int, RowsAt w (.slice a len cap) len 1 kd (fun i _ => f i) := by
  obtain ⟨fuel, hf⟩ := h
  have hf' : DataW.trod enc P w base spare held fuel t [.slice a len cap] = some (d, p) := hf
  rcases open_ints ht he hC hf' with ⟨h1, h2⟩ | ⟨a', len', cap', zs, hcs, hb, hl, hm, hz, hx, hi, hw⟩
  · simp only [List.cons.injEq, Value.slice.injEq, and_true] at h1
    obtain ⟨rfl, rfl, rfl⟩ := h1
    exact ⟨fun _ => 0, ⟨none, 0, rfl, fun h => absurd rfl h⟩, fun i hi => by omega, by unfold maxLen; omega⟩
  · simp only [List.cons.injEq, Value.slice.injEq, and_true] at hcs
    obtain ⟨rfl, rfl, rfl⟩ := hcs
    have hml : len ≤ zs.length := by rw [hz]; split <;> omega
    refine ⟨fun i => zs.getD i 0, ⟨some a', cap, rfl, fun hn => ?_⟩, fun i hi' j hj => hw _ ?_, by omega⟩
    · obtain ⟨e1, e2⟩ := add_zero_spot (cell_spot0 (hi 0 (by omega)))
      refine ⟨a'.block, a'.off, by rw [← e1], fun i hil j hj => ?_⟩
      obtain rfl : j = 0 := by omega
      have := hi i (by omega)
      rw [e2] at this
      simpa using this
    · have : i < zs.length := by omega
      simp [List.getD, this]
end
end Go.Proofs.YtcmjddkljmfklaaDoor
