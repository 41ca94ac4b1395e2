/- Slices of structs whose cells are integers of several kinds, structs inside structs too, as an argument lays them. No condition. -/
import Derived.Test.YtcmjddkljmfklaaDoorRows2
import Derived.Test.YtcmjddkljmfklaaDoorProg
namespace Go.Proofs.YtcmjddkljmfklaaDoor
set_option linter.unusedVariables false
set_option linter.unusedSimpArgs false
open Go.RowKit Go.ChangeShapes Go.WideShapes Go.Deep

/-- the kind of the cell of number j of a type, where it is an integer's -/
def kindAt (P : Program) : Nat → TypeId → Nat → Option IntKind
  | 0, _, _ => none
  | d + 1, t, j => match P.underlying t with
    | some (.int k) => if j = 0 then some k else none
    | some (.struct fs) => match fs.toList.find? (fun f => decide (f.offset ≤ j ∧ j < f.offset + P.cellsOf f.type)) with
      | some f => kindAt P d f.type (j - f.offset)
      | none => none
    | _ => none
/-- the slice reads as these cells -/
def RowsK (w : World) (v : Value) (n nf : Nat) (kd : Nat → IntKind) (f : Nat → Nat → Int) : Prop :=
  (∃ a cap, v = .slice a n cap ∧ (n ≠ 0 → ∃ b off, a = some ⟨b, off, none⟩ ∧ ∀ i, i < n → ∀ j, j < nf → w.cell? ⟨b, off + (i * nf + j), none⟩ = some (.int (kd j) (f i j)))) ∧
  (∀ i, i < n → ∀ j, j < nf → (Lit.int (kd j) (f i j)).wf = true) ∧ n ≤ maxLen
theorem RowsK.cellAt {w : World} {v : Value} {n nf : Nat} {kd : Nat → IntKind} {f : Nat → Nat → Int} (h0 : 0 < nf) (h : RowsK w v n nf kd f) : ∃ a cap, v = .slice a n cap ∧ (n ≠ 0 → ∃ b off, a = some ⟨b, off, none⟩ ∧ b < w.heap.size ∧ ∀ w', Below w.heap.size w w' → ∀ i, i < n → ∀ j, j < nf → w'.cell? ⟨b, off + (i * nf + j), none⟩ = some (.int (kd j) (f i j))) := by
  obtain ⟨⟨a, cap, rfl, hx⟩, hwf, hm⟩ := h
  refine ⟨a, cap, rfl, fun hn => ?_⟩
  obtain ⟨b, off, rfl, hc⟩ := hx hn
  exact ⟨b, off, rfl, World.block_lt_of_cell? _ _ (hc 0 (by omega) 0 (by omega)), fun w' hb i hi j hj => (hb.cell (World.block_lt_of_cell? _ _ (hc i hi j hj))).trans (hc i hi j hj)⟩
section
variable {H : Type} {enc : TypeId × Value → H} {P : Program} {w : World} {base : Nat} {spare : Nat → Bool} {held : Bool}
theorem trod_kind : ∀ (d : Nat) (t : TypeId) (j : Nat) (k : IntKind) (fuel : Nat) (cs : List Value) (x : DataW H × List MemPlace), kindAt P d t j = some k →
    DataW.trod enc P w base spare held fuel t cs = some x → ∃ z, cs[j]? = some (.int k z) ∧ (Lit.int k z).wf = true
  | 0, _, _, _, _, _, _, h, _ => by cases h
  | d + 1, t, j, k, fuel, cs, x, h, hx => by
    unfold kindAt at h
    split at h
    · rename_i k' hu
      split at h
      · cases h
        rename_i hj
        subst hj
        obtain ⟨z, hz, -, hwf⟩ := DataW.trod_int hu hx
        exact ⟨z, by rw [hz]; rfl, hwf⟩
      · cases h
    · rename_i fs hu
      split at h
      · rename_i f hf
        have hp := List.find?_some hf
        have hmem := List.mem_of_find?_eq_some hf
        obtain ⟨i, hi, hfi⟩ := List.getElem_of_mem hmem
        have hfi' : fs[i]? = some f := by rw [← Array.getElem?_toList, List.getElem?_eq_getElem hi, hfi]
        obtain ⟨ys, n', hn', hy, hlen, hyl, hff⟩ := DataW.trod_struct hu hx
        have h1 := hff i f hfi'
        have hil : i < fs.size := by simpa using hi
        rw [List.getElem?_eq_getElem (by omega)] at h1
        obtain ⟨z, hz, hwf⟩ := trod_kind d f.type (j - f.offset) k n' _ _ h h1
        simp only [decide_eq_true_eq] at hp
        refine ⟨z, ?_, hwf⟩
        rw [List.getElem?_take, if_pos (by omega), List.getElem?_drop, show f.offset + (j - f.offset) = j by omega] at hz
        exact hz
      · cases h
    · cases h
theorem rowsK_of {t e : TypeId} {nf : Nat} {kd : Nat → IntKind} {a : Option Addr} {len cap : Nat} {d : DataW H} {p : List MemPlace} (ht : P.underlying t = some (.slice e)) (hC : P.cellsOf e = nf) (h0 : 0 < nf)
    (hk : ∀ j, j < nf → kindAt P 8 e j = some (kd j)) (h : DataW.Trod enc P w base spare held t (.slice a len cap) d p) : ∃ f, RowsK w (.slice a len cap) len nf kd f := by
  obtain ⟨fuel, hf⟩ := h
  have hf' : DataW.trod enc P w base spare held fuel t [.slice a len cap] = some (d, p) := hf
  rcases open_slice ht hf' with ⟨h1, h2⟩ | ⟨a', len', cap', m, n, D, Pl, hcs, hb, hl, hm, hmm, hx, hi⟩
  · simp only [List.cons.injEq, Value.slice.injEq, and_true] at h1
    obtain ⟨rfl, rfl, rfl⟩ := h1
    exact ⟨fun _ _ => 0, ⟨none, 0, rfl, fun h => absurd rfl h⟩, fun i hi => by omega, by unfold maxLen; omega⟩
  · simp only [List.cons.injEq, Value.slice.injEq, and_true] at hcs
    obtain ⟨rfl, rfl, rfl⟩ := hcs
    have hml : len ≤ m := by rw [hmm]; split <;> omega
    have key : ∀ i, i < len → ∀ j, j < nf → ∃ z, w.cell? (a'.add (i * nf + j)) = some (.int (kd j) z) ∧ (Lit.int (kd j) z).wf = true := by
      intro i hil j hj
      obtain ⟨cs', hc, ht'⟩ := hi i (by omega)
      rw [hC] at hc
      obtain ⟨_, hcl, hat⟩ := World.cells?_some hc
      obtain ⟨z, hz, hwf⟩ := trod_kind 8 e j (kd j) _ _ _ (hk j hj) ht'
      refine ⟨z, ?_, hwf⟩
      rw [← Go.Deep.add_add, hat j hj, hz]
    obtain ⟨f, hf⟩ := choice2 (p := fun i j => i < len ∧ j < nf) (q := fun i j z => w.cell? (a'.add (i * nf + j)) = some (.int (kd j) z) ∧ (Lit.int (kd j) z).wf = true) (fun i j hp => key i hp.1 j hp.2)
    refine ⟨f, ⟨some a', cap, rfl, fun hn => ?_⟩, fun i hi j hj => (hf i j ⟨hi, hj⟩).2, by omega⟩
    have hz1 := (hf 0 0 ⟨by omega, h0⟩).1
    rw [Nat.zero_mul] at hz1
    obtain ⟨e1, e2⟩ := add_zero_spot (cell_spot0 hz1)
    refine ⟨a'.block, a'.off, by rw [← e1], fun i hi j hj => ?_⟩
    rw [← e2]
    exact (hf i j ⟨hi, hj⟩).1
end
/-- the kinds of an act on a group: two integers and an entry -/
def kdA (j : Nat) : IntKind := if j < 2 then .i64 else .u64
theorem kdA_ok : ∀ j, j < 5 → kindAt Tryd.prog 8 77 j = some (kdA j) := by
  intro j hj
  obtain rfl | rfl | rfl | rfl | rfl : j = 0 ∨ j = 1 ∨ j = 2 ∨ j = 3 ∨ j = 4 := by omega
  all_goals kernel_rfl
end Go.Proofs.YtcmjddkljmfklaaDoor
