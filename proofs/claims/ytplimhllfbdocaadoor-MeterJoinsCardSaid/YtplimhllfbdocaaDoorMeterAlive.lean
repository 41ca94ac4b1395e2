/- The chapter's example: one probe and three units. No condition. -/
import Derived.Test.YtplimhllfbdocaaDoorMeter
namespace Go.Proofs.YtplimhllfbdocaaDoor
set_option linter.unusedVariables false
set_option linter.unusedSimpArgs false
open Go.RowKit Go.Proofs

theorem field_units (a b c : Value) (w : World) : (Instr.field 62 (.agg #[a, b, c]) 2).run Tryd.prog w = .ok c w := by kernel_rfl

set_option maxRecDepth 100000 in
set_option maxHeartbeats 1600000 in
theorem alive06_any (w : World) :
    Calls Tryd.prog 41 #[] w fun e w' => e = .returned (.bool true) ∧ Below w.heap.size w w' := by
  have hfu := field_units
  have e0 : ((MeterS.zero.add 1 0 0).add 0 0 3).l0 = 1 := by decide
  have e1 : ((MeterS.zero.add 1 0 0).add 0 0 3).l1 = 0 := by decide
  have e2 : ((MeterS.zero.add 1 0 0).add 0 0 3).l2 = 3 := by decide
  have e3 : ((MeterS.zero.add 1 0 0).add 0 0 3).a2 = 3 := by decide
  go_enter Tryd.func41, Tryd.ntmps41
  go_wp2_with (first
    | (go_at_call 72; refine (probing_any _ _).mono ?_; rintro e w1 ⟨rfl, hb1⟩; have hb0 : Below w.heap.size w w1 := Below.trans (by go_grown) (hb1.mono (by simp)); have m1 : Blk w1 w.heap.size 64 MeterS.zero.cells := (Blk.new _ _ _).below hb1 (by simp); replace m1 := Lib.hid m1)
    | (go_at_call 47; refine (visit_any _ _ _ _ _ 64 _ m1.out).mono ?_; rintro e w2 ⟨rfl, m2, h2⟩; replace m2 := Lib.hid m2)
    | (go_at_call 112; refine (unit_free _ _ (by omega) rfl _ 64 _ m2.out).mono ?_; rintro e w3 ⟨rfl, m3, h3⟩; replace m3 := Lib.hid m3)
    | (go_at_call 46; refine (meterLast_any _ _ 64 _ m3.out).mono ?_; rintro e w4 ⟨rfl, hb4⟩; have m4 := Lib.hid (m3.out.below hb4 m3.out.lt))
    | (go_at_call 45; refine (meterAll_any _ _ 64 _ m4.out).mono ?_; rintro e w5 ⟨rfl, hb5⟩))
  go_ret
  exact ⟨by rfl, (((((Chg.of_below hb0).trans h2).trans h3).thenBelow hb4).thenBelow hb5).below (Nat.le_refl _) (fun k hk e => by omega)⟩
end Go.Proofs.YtplimhllfbdocaaDoor
