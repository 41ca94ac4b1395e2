/- Rows of words as natural numbers. No condition. -/
import Derived.Test.YtcmjddkljmfklaaDoorRows2
import Derived.Test.YtcmjddkljmfklaaDoorU64
namespace Go.Proofs.YtcmjddkljmfklaaDoor
set_option linter.unusedVariables false
set_option linter.unusedSimpArgs false
open Go.RowKit Go.Proofs

theorem rowsNat {w : World} {v : Value} {n nf : Nat} {f : Nat → Nat → Int} (h : RowsAt w v n nf .u64 f) : ∃ g : Nat → Nat → Nat, (∀ i j, g i j < 18446744073709551616) ∧ RowsAt w v n nf .u64 (fun i j => (g i j : Int)) := by
  have key : ∀ i, i < n → ∀ j, j < nf → ((if i < n ∧ j < nf then (f i j).toNat else 0 : Nat) : Int) = f i j ∧ (if i < n ∧ j < nf then (f i j).toNat else 0) < 18446744073709551616 := fun i hi j hj => by
    rw [if_pos ⟨hi, hj⟩]
    obtain ⟨m, hm, e⟩ := u64_of (h.2.1 i hi j hj)
    rw [e, Int.toNat_natCast]; exact ⟨rfl, hm⟩
  refine ⟨fun i j => if i < n ∧ j < nf then (f i j).toNat else 0, fun i j => ?_, ?_⟩
  · by_cases c : i < n ∧ j < nf
    · exact (key i c.1 j c.2).2
    · dsimp only; rw [if_neg c]; decide
  · obtain ⟨⟨a, cap, rfl, hx⟩, hwf, hm⟩ := h
    refine ⟨⟨a, cap, rfl, fun hn => ?_⟩, fun i hi j hj => ?_, hm⟩
    · obtain ⟨b, off, rfl, hc⟩ := hx hn
      exact ⟨b, off, rfl, fun i hi j hj => by dsimp only; rw [(key i hi j hj).1]; exact hc i hi j hj⟩
    · dsimp only; rw [(key i hi j hj).1]; exact hwf i hi j hj
end Go.Proofs.YtcmjddkljmfklaaDoor
