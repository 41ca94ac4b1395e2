/- Spread, the document's Spread, and the walk of MixSpreads. Condition: the errors and the table of words. -/
import Derived.Test.YtplimhllfbdocaaDoorMixSpread
import Derived.Test.YtplimhllfbdocaaDoorRefMix
import Derived.Test.YtplimhllfbdocaaDoorMixBack
namespace Go.Proofs.YtplimhllfbdocaaDoor
set_option linter.unusedVariables false
set_option linter.unusedSimpArgs false
open Go.RowKit Go.Proofs

theorem RowsAt.keys {w : World} {v : Value} {n : Nat} {f : Nat → Nat → Int} (h : RowsAt w v n 1 .u64 f) : ∃ (a : Option Addr) (cap : Nat) (key : Nat → Nat), v = .slice a n cap ∧ (∀ i, key i < 18446744073709551616) ∧ KeysAt w a n key := by
  have hwf := h.2.1
  obtain ⟨a, cap, rfl, hx⟩ := h.cell1
  refine ⟨a, cap, fun i => if i < n then (f i 0).toNat else 0, rfl, fun i => ?_, fun hn => ?_⟩
  · dsimp only
    split
    · rename_i hi
      have := hwf i hi 0 (by decide)
      have h' : 0 ≤ f i 0 ∧ f i 0 ≤ 18446744073709551615 := by simpa [Lit.wf, IntKind.has, IntKind.min, IntKind.max, IntKind.signed, IntKind.bits] using this
      omega
    · decide
  · obtain ⟨b, off, rfl, hb, hc⟩ := hx hn
    refine ⟨b, off, rfl, hb, fun w' hB i hi => ?_⟩
    have := hwf i hi 0 (by decide)
    have h' : 0 ≤ f i 0 ∧ f i 0 ≤ 18446744073709551615 := by simpa [Lit.wf, IntKind.has, IntKind.min, IntKind.max, IntKind.signed, IntKind.bits] using this
    rw [hc w' hB i hi]
    dsimp only
    rw [if_pos hi, Int.toNat_of_nonneg h'.1]
theorem KeysAt.below {w w' : World} {a : Option Addr} {n : Nat} {key : Nat → Nat} (h : KeysAt w a n key) (hb : Below w.heap.size w w') : KeysAt w' a n key := fun hn => by
  obtain ⟨b, off, rfl, hl, hc⟩ := h hn
  exact ⟨b, off, rfl, Nat.lt_of_lt_of_le hl hb.size, fun w2 h2 => hc w2 (hb.trans (h2.mono hb.size))⟩
end Go.Proofs.YtplimhllfbdocaaDoor
