/- Texts joined: RefRight. No condition but those that stand within. -/
import Derived.Test.YtcbpiecloikkiaaDoorProg
import Derived.Handy
import Derived.Lib.Hide
import Derived.WalkSmall
import Derived.Test.YtcbpiecloikkiaaDoorPkSwar
import Derived.Test.YtcbpiecloikkiaaDoorPkMeter
import Derived.Test.YtcbpiecloikkiaaDoorPkErrs
import Derived.Test.YtcbpiecloikkiaaDoorPkGroup
import Derived.Test.YtcbpiecloikkiaaDoorPkTab
import Derived.Test.YtcbpiecloikkiaaDoorPkTab2
import Derived.Test.YtcbpiecloikkiaaDoorPkTab3
import Derived.Test.YtcbpiecloikkiaaDoorPkTake
import Derived.Test.YtcbpiecloikkiaaDoorPkTabM
import Derived.Test.YtcbpiecloikkiaaDoorPkBuild
import Derived.Test.YtcbpiecloikkiaaDoorPkEvac
set_option linter.unusedVariables false
set_option linter.unusedSimpArgs false
namespace Go.Proofs.YtcbpiecloikkiaaDoor
open Go.RowKit Go.Proofs
set_option maxHeartbeats 1600000 in
theorem refRight_any (g : Int) (w : World) :
    Calls Tryd.prog 32 #[.int .i64 g] w fun e w' => e = .returned (.bool (rightB g)) ∧ w = w' := by
  have HR := Lib.hid (rightB_iff g)
  go_enter Tryd.func32, Tryd.ntmps32
  go_wp2
  go_loop [3] (fun v => (v = .int .i64 1) ∨ (v = .int .i64 2 ∧ g ≠ 1) ∨ (v = .int .i64 4 ∧ g ≠ 1 ∧ g ≠ 2) ∨ (v = .int .i64 8 ∧ g ≠ 1 ∧ g ≠ 2 ∧ g ≠ 4) ∨ (v = .int .i64 16 ∧ g ≠ 1 ∧ g ≠ 2 ∧ g ≠ 4 ∧ g ≠ 8) ∨ (v = .int .i64 32 ∧ g ≠ 1 ∧ g ≠ 2 ∧ g ≠ 4 ∧ g ≠ 8 ∧ g ≠ 16) ∨ (v = .int .i64 64 ∧ g ≠ 1 ∧ g ≠ 2 ∧ g ≠ 4 ∧ g ≠ 8 ∧ g ≠ 16 ∧ g ≠ 32) ∨ (v = .int .i64 128 ∧ g ≠ 1 ∧ g ≠ 2 ∧ g ≠ 4 ∧ g ≠ 8 ∧ g ≠ 16 ∧ g ≠ 32 ∧ g ≠ 64)) (fun v => 128 - (intOf v).toNat)
  case atStart => exact .inl rfl
  case round =>
    rcases hrel with rfl | ⟨rfl, h1⟩ | ⟨rfl, h1, h2⟩ | ⟨rfl, h1, h2, h4⟩ | ⟨rfl, h1, h2, h4, h8⟩ | ⟨rfl, h1, h2, h4, h8, h16⟩ | ⟨rfl, h1, h2, h4, h8, h16, h32⟩ | ⟨rfl, h1, h2, h4, h8, h16, h32, h64⟩
    · by_cases h : g = 1
      · have hb : rightB g = true := HR.out.2 (by omega)
        replace hb := Lib.hid hb
        subst h
        go_wp2
        go_ret
        exact ⟨by rw [hb.out]; rfl, rfl⟩
      · go_wp2
        go_round
        case rel => first | (refine .inr ?_; simp; omega) | (simp; omega)
        case measure => simp [intOf]
    · by_cases h : g = 2
      · have hb : rightB g = true := HR.out.2 (by omega)
        replace hb := Lib.hid hb
        subst h
        go_wp2
        go_ret
        exact ⟨by rw [hb.out]; rfl, rfl⟩
      · go_wp2
        go_round
        case rel => first | (refine .inr ?_; simp; omega) | (simp; omega)
        case measure => simp [intOf]
    · by_cases h : g = 4
      · have hb : rightB g = true := HR.out.2 (by omega)
        replace hb := Lib.hid hb
        subst h
        go_wp2
        go_ret
        exact ⟨by rw [hb.out]; rfl, rfl⟩
      · go_wp2
        go_round
        case rel => first | (refine .inr ?_; simp; omega) | (simp; omega)
        case measure => simp [intOf]
    · by_cases h : g = 8
      · have hb : rightB g = true := HR.out.2 (by omega)
        replace hb := Lib.hid hb
        subst h
        go_wp2
        go_ret
        exact ⟨by rw [hb.out]; rfl, rfl⟩
      · go_wp2
        go_round
        case rel => first | (refine .inr ?_; simp; omega) | (simp; omega)
        case measure => simp [intOf]
    · by_cases h : g = 16
      · have hb : rightB g = true := HR.out.2 (by omega)
        replace hb := Lib.hid hb
        subst h
        go_wp2
        go_ret
        exact ⟨by rw [hb.out]; rfl, rfl⟩
      · go_wp2
        go_round
        case rel => first | (refine .inr ?_; simp; omega) | (simp; omega)
        case measure => simp [intOf]
    · by_cases h : g = 32
      · have hb : rightB g = true := HR.out.2 (by omega)
        replace hb := Lib.hid hb
        subst h
        go_wp2
        go_ret
        exact ⟨by rw [hb.out]; rfl, rfl⟩
      · go_wp2
        go_round
        case rel => first | (refine .inr ?_; simp; omega) | (simp; omega)
        case measure => simp [intOf]
    · by_cases h : g = 64
      · have hb : rightB g = true := HR.out.2 (by omega)
        replace hb := Lib.hid hb
        subst h
        go_wp2
        go_ret
        exact ⟨by rw [hb.out]; rfl, rfl⟩
      · go_wp2
        go_round
        case rel => first | (refine .inr ?_; simp; omega) | (simp; omega)
        case measure => simp [intOf]
    · have hb : rightB g = false := by rw [Bool.eq_false_iff, ne_eq, HR.out]; omega
      replace hb := Lib.hid hb
      go_wp2
      go_ret
      exact ⟨by rw [hb.out]; rfl, rfl⟩
end Go.Proofs.YtcbpiecloikkiaaDoor
