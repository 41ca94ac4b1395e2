/- What a function gives in each later world. No condition. -/
import Derived.Test.YtplimhllfbdocaaDoorProg
import Derived.Test.YtplimhllfbdocaaDoorChg
import Derived.Deep.QuietTactic
namespace Go.Proofs.YtplimhllfbdocaaDoor
set_option linter.unusedVariables false
set_option linter.unusedSimpArgs false
open Go.RowKit Go.Proofs

/-- what a function gives in each later world -/
def CGives (w0 : World) (f : Nat) (args : Array Value) (v : Value) : Prop := ∀ w, Below w0.heap.size w0 w → Calls Tryd.prog f args w fun e w' => e = .returned v ∧ Below w.heap.size w w'
theorem CGives.of_same {w0 : World} {f : Nat} {args : Array Value} {v : Value} (h : ∀ w, Below w0.heap.size w0 w → Calls Tryd.prog f args w fun e w' => e = .returned v ∧ w = w') : CGives w0 f args v :=
  fun w hb => (h w hb).mono (by rintro e w' ⟨rfl, rfl⟩; exact ⟨rfl, Below.refl _ _⟩)
theorem CGives.of_draws {w0 : World} {f : Nat} {args : Array Value} {v : Value} (h : ∀ w, Below w0.heap.size w0 w → Calls Tryd.prog f args w fun e w' => e = .returned v ∧ ∃ m, w' = w.drewN m) : CGives w0 f args v :=
  fun w hb => (h w hb).mono (by rintro e w' ⟨rfl, m, rfl⟩; exact ⟨rfl, below_drewN (Below.refl _ _) m⟩)
end Go.Proofs.YtplimhllfbdocaaDoor
