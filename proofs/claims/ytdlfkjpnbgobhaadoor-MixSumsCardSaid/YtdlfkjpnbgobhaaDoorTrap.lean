/- Package trap: Catch, whatever the function that it calls does; Raise, Need. Condition: the errors' cells. -/
import Derived.Test.YtdlfkjpnbgobhaaDoorErrCells
import Derived.Test.YtdlfkjpnbgobhaaDoorChg
import Derived.Test.YtdlfkjpnbgobhaaDoorMem
import Derived.Defers
import Derived.Recover
import Derived.WalkLawsBesides
namespace Go.Proofs.YtdlfkjpnbgobhaaDoor
set_option linter.unusedVariables false
set_option linter.unusedSimpArgs false
open Go.RowKit Go.Proofs

/-- what Raise panics with -/
def raisedV (v : Value) : Value := .iface 170 (.agg #[v])
theorem assert_raised (x : Value) (w : World) : (Instr.typeAssert (.iface 170 x) 20 170 true).run Tryd.prog w = .ok (.tuple #[x, .bool true]) w := by kernel_rfl
theorem assert_other (u : TypeId) (x : Value) (hu : u ≠ 170) (w : World) : (Instr.typeAssert (.iface u x) 20 170 true).run Tryd.prog w = .ok (.tuple #[.agg #[.nilIface], .bool false]) w := by
  have hz : (zeroValue 170).run Tryd.prog w = .ok (.agg #[.nilIface]) w := by kernel_rfl
  unfold Instr.typeAssert
  rw [Sem.run_bind, run_underlying Tryd.underlying170 w]
  simp [Result.andThen, hu, Sem.run_bind, hz]

theorem raise_nil (w : World) : Calls Tryd.prog 118 #[.nilIface] w fun e w' => e = .returned (.tuple #[]) ∧ w = w' := by
  go_enter Tryd.func118, Tryd.ntmps118
  go_wp2
  go_end0
  exact ⟨rfl, rfl⟩
set_option maxRecDepth 100000 in
theorem raise_err (E : Nat → Addr) (k : Nat) (w : World) : Calls Tryd.prog 118 #[errAt E k] w fun e w' => e = .panicked [{ v := raisedV (errAt E k), recovered := false }] ∧ w = w' := by
  unfold errAt raisedV
  go_enter Tryd.func118, Tryd.ntmps118
  go_wp2
  exact ⟨rfl, rfl, rfl⟩
theorem need_yes (w : World) : Calls Tryd.prog 119 #[.bool true] w fun e w' => e = .returned (.tuple #[]) ∧ w = w' := by
  go_enter Tryd.func119, Tryd.ntmps119
  go_wp2
  go_end0
  exact ⟨rfl, rfl⟩

/-- it panics with something that is no raised error -/
def Broke (e : Ending) : Prop := ∃ u y, u ≠ 170 ∧ e = .panicked [{ v := .iface u y, recovered := false }]
/-- what Catch is asked: the function that it calls -/
def Enters (g : Nat) : Prop := ∀ args w, (callFunc g args).run Tryd.prog w = .ok (.enter g args) w
end Go.Proofs.YtdlfkjpnbgobhaaDoor
