/- What amblerlaw05's act comes to, kind by kind. Condition: the errors. -/
import Derived.Test.YtdlfkjpnbgobhaaDoorTrap
import Derived.Deep.DeepMakePanics
namespace Go.Proofs.YtdlfkjpnbgobhaaDoor
set_option linter.unusedVariables false
set_option linter.unusedSimpArgs false
open Go.RowKit Go.Proofs

set_option maxRecDepth 100000







/-- what comes of a call: it comes back (0), raises error k, or panics in another way (10) -/
def Fate (g : Nat) (args : Array Value) (w : World) (E : Nat → Addr) (k : Nat) (Q : World → Prop) : Prop :=
  (k = 0 ∧ Calls Tryd.prog g args w fun e w' => e = .returned (.tuple #[]) ∧ Q w') ∨
  (1 ≤ k ∧ k ≤ 16 ∧ Calls Tryd.prog g args w fun e w' => e = .panicked [{ v := raisedV (errAt E k), recovered := false }] ∧ Q w') ∨
  (k = 10 ∧ Calls Tryd.prog g args w fun e w' => Broke e ∧ Q w')
/-- kind k at n -/
def ofK (k : Nat) (n : Int) : Nat := if k = 0 ∨ k = 2 then 0 else if k = 1 then (if n < 1 ∨ 16 < n then 0 else n.toNat) else 10
theorem need_no (E : Nat → Addr) (w : World) (h : w.cell? ⟨14, 0, none⟩ = some (errAt E 10)) : Calls Tryd.prog 119 #[.bool false] w fun e w' => e = .panicked [{ v := raisedV (errAt E 10), recovered := false }] ∧ w = w' := by
  go_enter Tryd.func119, Tryd.ntmps119
  go_wp2_with (go_at_call 118; refine (raise_err E 10 _).mono ?_; rintro e w' ⟨rfl, rfl⟩)
  exact ⟨rfl, rfl, rfl⟩
theorem ofK_le (k : Nat) (n : Int) : ofK k n ≤ 16 := by
  unfold ofK; split
  · omega
  split
  · split <;> omega
  · omega
end Go.Proofs.YtdlfkjpnbgobhaaDoor
