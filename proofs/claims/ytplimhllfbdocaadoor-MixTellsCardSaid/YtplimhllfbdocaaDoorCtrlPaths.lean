/- The walk of CtrlPaths. Condition: the errors. -/
import Derived.Test.YtplimhllfbdocaaDoorCtrlSets
import Derived.Test.YtplimhllfbdocaaDoorRows2
namespace Go.Proofs.YtplimhllfbdocaaDoor
set_option linter.unusedVariables false
set_option linter.unusedSimpArgs false
open Go.RowKit Go.Proofs

/-- bytes that are control bytes -/
def Good (l : Nat → Nat) : Prop := ∀ j, j < 8 → l j < 256 ∧ ctrlB (l j) = true
theorem Good.set {l : Nat → Nat} (h : Good l) (i b : Nat) (hb : b < 256) (hc : ctrlB b = true) : Good (fun j => if j = i then b else l j) := fun j hj => by
  dsimp only
  split
  · exact ⟨hb, hc⟩
  · exact h j hj
theorem setL_ofL (l : Nat → Nat) (i b : Nat) (hl : ∀ j, j < 8 → l j < 256) : setL (ofL l) i b = ofL (fun j => if j = i then b else l j) := by
  unfold setL
  refine ofL_congr fun k hk => ?_
  rw [ln_ofL l hl k hk]
theorem textW_ofL (l : Nat → Nat) (hl : ∀ j, j < 8 → l j < 256) (i : Nat) (hi : i < 8) (h : i < (textW (ofL l)).size) : ((textW (ofL l))[i]'h).toNat = sgn (l i) := by
  have hd : (textW (ofL l)).data = ((List.range 8).map fun i => signK (kindN (ln (ofL l) i))).toArray := rfl
  have : (textW (ofL l))[i]'h = signK (kindN (ln (ofL l) i)) := by
    show (textW (ofL l)).data[i]'h = _
    simp [hd]
  rw [this, ln_ofL l hl i hi]
  rfl
theorem RowsAt.cell1 {w : World} {v : Value} {n : Nat} {kd : IntKind} {f : Nat → Nat → Int} (h : RowsAt w v n 1 kd f) : ∃ a cap, v = .slice a n cap ∧ (n ≠ 0 → ∃ b off, a = some ⟨b, off, none⟩ ∧ b < w.heap.size ∧ ∀ w', Below w.heap.size w w' → ∀ i, i < n → w'.cell? ⟨b, off + i, none⟩ = some (.int kd (f i 0))) := by
  obtain ⟨⟨a, cap, rfl, hx⟩, hwf, hm⟩ := h
  refine ⟨a, cap, rfl, fun hn => ?_⟩
  obtain ⟨b, off, rfl, hc⟩ := hx hn
  exact ⟨b, off, rfl, World.block_lt_of_cell? _ _ (hc 0 (by omega) 0 (by omega)), fun w' hb i hi => by
    have := hc i hi 0 (by decide)
    rw [Nat.mul_one, Nat.add_zero] at this
    exact (hb.cell (World.block_lt_of_cell? _ _ this)).trans this⟩
end Go.Proofs.YtplimhllfbdocaaDoor
