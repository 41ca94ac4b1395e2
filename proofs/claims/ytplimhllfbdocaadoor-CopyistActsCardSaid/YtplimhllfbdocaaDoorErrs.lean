/- The sixteen errors of package api, as the cards' lists lay them; errors.Is on them; amblernum.Num. Condition: the list. -/
import Derived.Test.YtplimhllfbdocaaDoorProg
import Derived.Test.YtplimhllfbdocaaDoorLaidErrs
import Derived.LaidEql
import Derived.Stop.Asserts
import Derived.LaidLaws
import Derived.RowKitTokens
import Derived.Handy
import Derived.Lib.Hide
import Derived.WalkSmall
namespace Go.Proofs.YtplimhllfbdocaaDoor
set_option linter.unusedVariables false
set_option linter.unusedSimpArgs false
open Go.RowKit Go.Proofs Go.ChangeShapes Go.WideShapes Go.Stop Go.Extern

/-! ### errors.Is at values of errors.New's make -/
theorem isTypeOf (v : Value) (w : World) : (Extern.ReflectliteType.typeOf #[.iface 243 v]).run Tryd.prog w = .ok (.iface 233 (.agg #[.pointer (some ⟨19, 243, none⟩)])) w := by kernel_rfl
/-- reflectlite's Comparable, as the model has it -/
def cmpM : Array Value → Sem Value := Extern.ReflectliteType.method fun t => do Extern.Rtype.noPackHeld "Comparable" t; pure (.bool (← typeInfo t).comparable)
theorem isComparable (w : World) : (cmpM #[.agg #[.pointer (some ⟨19, 243, none⟩)]]).run Tryd.prog w = .ok (.bool true) w := by kernel_rfl
theorem isMethodComparable (v : Value) (w : World) : (Go.method 379 233 v "Comparable").run Tryd.prog w = .ok (200, v) w := by kernel_rfl
theorem isComp : (Tryd.prog.info? 243).map (·.comparable) = some true := by kernel_rfl
theorem isSize : (Tryd.prog.info? 267).map (·.size) = some 1 := by kernel_rfl
theorem noIsE (v : Value) (xT : TypeId) (w : World) : (Instr.typeAssert (.iface 243 v) xT 235 true).run Tryd.prog w = .ok (.tuple #[.nilIface, .bool false]) w := run_typeAssert_lacksB Tryd.underlying235 (by kernel_rfl) (by kernel_rfl) v xT w
theorem noUnwrapE (v : Value) (xT : TypeId) (w : World) : (Instr.typeAssert (.iface 243 v) xT 238 true).run Tryd.prog w = .ok (.tuple #[.nilIface, .bool false]) w := run_typeAssert_lacksB Tryd.underlying238 (by kernel_rfl) (by kernel_rfl) v xT w
theorem noUnwrapsE (v : Value) (xT : TypeId) (w : World) : (Instr.typeAssert (.iface 243 v) xT 239 true).run Tryd.prog w = .ok (.tuple #[.nilIface, .bool false]) w := run_typeAssert_lacksB Tryd.underlying239 (by kernel_rfl) (by kernel_rfl) v xT w

theorem is_same (a : Addr) (w : World) :
    Calls Tryd.prog 106 #[.iface 243 (.pointer (some a)), .iface 243 (.pointer (some a))] w fun e w' => e = .returned (.bool true) ∧ w = w' := by
  obtain ⟨i, hi, hcmp⟩ := Option.map_eq_some_iff.1 isComp
  obtain ⟨j, hj, hjs⟩ := Option.map_eq_some_iff.1 isSize
  have h8 := @run_callFunc_extern Tryd.prog 151 _ Extern.ReflectliteType.typeOf Tryd.func151 (by kernel_rfl) (by kernel_rfl) (by kernel_rfl) (by kernel_rfl)
  have h32 := @run_callFunc_extern Tryd.prog 200 _ cmpM Tryd.func200 (by kernel_rfl) (by kernel_rfl) (by kernel_rfl) (by kernel_rfl)
  have tT := isTypeOf
  have cT := isComparable
  have mR := isMethodComparable
  have heq := run_eql_iface_ptr_same (P := Tryd.prog) w a Tryd.underlying25 Tryd.underlying243 hi hcmp hj
  go_enter Tryd.func106, Tryd.ntmps106
  go_wp2
  refine wp_loop_rounds 1 ?_
  rw [rounds_succ]
  go_wp2
  go_ret
  exact ⟨rfl, rfl⟩

theorem is_nil (b : Addr) (w : World) :
    Calls Tryd.prog 106 #[.nilIface, .iface 243 (.pointer (some b))] w fun e w' => e = .returned (.bool false) ∧ w = w' := by
  have hn := run_eql_iface_nil_left (P := Tryd.prog) w 243 (.pointer (some b)) Tryd.underlying25
  go_enter Tryd.func106, Tryd.ntmps106
  go_wp2
  go_ret
  exact ⟨rfl, rfl⟩

theorem is_other (a b : Addr) (w : World) (hne : a ≠ b) (ha : ∃ c t, w.heap[a.block]? = some (.cells c t (0, 0))) (hb : ∃ c t, w.heap[b.block]? = some (.cells c t (0, 0))) :
    Calls Tryd.prog 106 #[.iface 243 (.pointer (some a)), .iface 243 (.pointer (some b))] w fun e w' => e = .returned (.bool false) ∧ w = w' := by
  obtain ⟨i, hi, hcmp⟩ := Option.map_eq_some_iff.1 isComp
  obtain ⟨j, hj, hjs⟩ := Option.map_eq_some_iff.1 isSize
  obtain ⟨ca, ta, ha⟩ := ha
  obtain ⟨cb, tb, hb⟩ := hb
  have h8 := @run_callFunc_extern Tryd.prog 151 _ Extern.ReflectliteType.typeOf Tryd.func151 (by kernel_rfl) (by kernel_rfl) (by kernel_rfl) (by kernel_rfl)
  have h32 := @run_callFunc_extern Tryd.prog 200 _ cmpM Tryd.func200 (by kernel_rfl) (by kernel_rfl) (by kernel_rfl) (by kernel_rfl)
  have tT := isTypeOf
  have cT := isComparable
  have mR := isMethodComparable
  have nE := noIsE
  have uE := noUnwrapE
  have vE := noUnwrapsE
  have heq := run_eql_iface_ptr_other (P := Tryd.prog) w Tryd.underlying25 Tryd.underlying243 hi hcmp hj (by rw [hjs]; decide) hne ha hb
  go_enter Tryd.func106, Tryd.ntmps106
  go_wp2
  refine wp_loop_rounds 1 ?_
  rw [rounds_succ]
  go_wp2
  go_ret
  exact ⟨rfl, rfl⟩

end Go.Proofs.YtplimhllfbdocaaDoor
