/- The walk of probe.Right. No condition. -/
import Derived.Test.YtplimhllfbdocaaDoorProg
import Derived.Test.YtplimhllfbdocaaDoorProbePlain
import Derived.Handy
import Derived.Lib.Hide
namespace Go.Proofs.YtplimhllfbdocaaDoor
set_option linter.unusedVariables false
set_option linter.unusedSimpArgs false
open Go.RowKit Go.Proofs

set_option maxHeartbeats 400000 in
theorem right_any (n : Int) (w : World) :
    Calls Tryd.prog 35 #[.int .i64 n] w fun e w' => e = .returned (.bool (rightB n)) ∧ w = w' := by
  by_cases h1 : 1 ≤ n
  · by_cases h2 : n ≤ 64
    · go_enter Tryd.func35, Tryd.ntmps35
      go_wp2
      go_ret
      refine ⟨?_, rfl⟩
      show Ending.returned (.bool _) = _
      rw [rightB_bits n h1 h2]
    · have hr : rightB n = false := by
        rw [Bool.eq_false_iff, ne_eq, rightB_iff]; omega
      have hr' := Lib.hid hr
      clear hr
      go_enter Tryd.func35, Tryd.ntmps35
      go_wp2
      go_ret
      exact ⟨by rw [hr'.out]; rfl, rfl⟩
  · have hr : rightB n = false := by
      rw [Bool.eq_false_iff, ne_eq, rightB_iff]; omega
    have hr' := Lib.hid hr
    clear hr
    go_enter Tryd.func35, Tryd.ntmps35
    go_wp2
    go_ret
    exact ⟨by rw [hr'.out]; rfl, rfl⟩

end Go.Proofs.YtplimhllfbdocaaDoor
