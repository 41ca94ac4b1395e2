/- The document's Which and Double. No condition. -/
import Derived.Test.YtplimhllfbdocaaDoorChoose
import Derived.Test.YtplimhllfbdocaaDoorRefRight
namespace Go.Proofs.YtplimhllfbdocaaDoor
set_option linter.unusedVariables false
set_option linter.unusedSimpArgs false
open Go.RowKit Go.Proofs

theorem run_min2 {P : Program} (w : World) (ts : Array TypeId) (ty : TypeId) (k k' : IntKind) (x y : Int) :
    (Builtin.min_ ts ty #[.int k x, .int k' y]).run P w = .ok (.int k (mn x y)) w := by
  simp [Builtin.min_, Builtin.min2]; rfl
attribute [local go_sem] run_min2
theorem mn_1000 (x : Int) (h : 0 ≤ x) : 0 ≤ mn x 1000 ∧ mn x 1000 ≤ 1000 ∧ mn x 1000 ≤ x ∧ (x ≤ 1000 → mn x 1000 = x) ∧ (1000 ≤ x → mn x 1000 = 1000) := by unfold mn; split <;> omega

set_option maxHeartbeats 1600000 in
theorem refWhich_any (l t g lo gl : Int) (w : World) :
    Calls Tryd.prog 26 #[.int .i64 l, .int .i64 t, .int .i64 g, .int .i64 lo, .int .i64 gl] w fun e w' => e = .returned (.int .i64 (whichF l t g lo gl)) ∧ w = w' := by
  by_cases h1 : 0 ≤ l
  · by_cases h2 : 0 ≤ t
    · by_cases h3 : 0 ≤ lo
      · by_cases h4 : 0 ≤ gl
        · by_cases hr : rightB g = true
          · have hg := right_bd' hr
            have hf : fineB l t g lo gl = true := (fineB_iff _ _ _ _ _).2 ⟨hr, h1, h2, h3, h4⟩
            have m1 := mn_1000 l h1
            have m2 := mn_1000 t h2
            by_cases hn : needsB l t g = true
            · have hw := whichF_val ⟨hf, hn⟩
              have hn' := (needsB_iff _ _ _).1 hn
              have hs : 4 * g ≤ mn l 1000 + mn t 1000 := by omega
              have HW := Lib.hid hw
              clear hf hn hw hn'
              go_enter Tryd.func26, Tryd.ntmps26
              go_wp2_with (go_at_call 36; refine (refRight_any _ _).mono ?_; rintro e w' ⟨rfl, rfl⟩; simp only [hr])
              all_goals go_ret
              all_goals refine ⟨?_, rfl⟩
              all_goals rw [HW.out]
              all_goals (show Ending.returned (.int .i64 _) = _; congr 2; (repeat split) <;> omega)
            · have hw : whichF l t g lo gl = 0 := by unfold whichF; rw [if_neg (fun h => hn h.2)]
              have hn' : ¬ (4 * g ≤ l ∨ 4 * g - l ≤ t) := fun h => hn ((needsB_iff _ _ _).2 h)
              have hs : mn l 1000 + mn t 1000 < 4 * g := by omega
              have HW := Lib.hid hw
              clear hf hn hw hn'
              go_enter Tryd.func26, Tryd.ntmps26
              go_wp2_with (go_at_call 36; refine (refRight_any _ _).mono ?_; rintro e w' ⟨rfl, rfl⟩; simp only [hr])
              go_ret
              exact ⟨by rw [HW.out]; rfl, rfl⟩
          · have hw : whichF l t g lo gl = 0 := which_zero fun h => hr h.1
            replace hr : rightB g = false := by simpa using hr
            have HW := Lib.hid hw
            clear hw
            go_enter Tryd.func26, Tryd.ntmps26
            go_wp2_with (go_at_call 36; refine (refRight_any _ _).mono ?_; rintro e w' ⟨rfl, rfl⟩; simp only [hr])
            go_ret
            exact ⟨by rw [HW.out]; rfl, rfl⟩
        · have HW := Lib.hid (show whichF l t g lo gl = 0 from which_zero fun h => h4 h.2.2.2.2)
          go_enter Tryd.func26, Tryd.ntmps26
          go_wp2
          go_ret
          exact ⟨by rw [HW.out]; rfl, rfl⟩
      · have HW := Lib.hid (show whichF l t g lo gl = 0 from which_zero fun h => h3 h.2.2.2.1)
        go_enter Tryd.func26, Tryd.ntmps26
        go_wp2
        go_ret
        exact ⟨by rw [HW.out]; rfl, rfl⟩
    · have HW := Lib.hid (show whichF l t g lo gl = 0 from which_zero fun h => h2 h.2.2.1)
      go_enter Tryd.func26, Tryd.ntmps26
      go_wp2
      go_ret
      exact ⟨by rw [HW.out]; rfl, rfl⟩
  · have HW := Lib.hid (show whichF l t g lo gl = 0 from which_zero fun h => h1 h.2.1)
    go_enter Tryd.func26, Tryd.ntmps26
    go_wp2
    go_ret
    exact ⟨by rw [HW.out]; rfl, rfl⟩

set_option maxHeartbeats 1600000 in
theorem refDouble_any (l t g lo gl : Int) (w : World) :
    Calls Tryd.prog 28 #[.int .i64 l, .int .i64 t, .int .i64 g, .int .i64 lo, .int .i64 gl] w fun e w' => e = .returned (.bool (doubleB l t g lo gl)) ∧ w = w' := by
  by_cases hz : whichF l t g lo gl = 0
  · have HD := Lib.hid (show doubleB l t g lo gl = false by
      rw [Bool.eq_false_iff]; intro h; exact (doubleB_bd h).1 hz)
    replace hz := Lib.hid hz
    go_enter Tryd.func28, Tryd.ntmps28
    go_wp2_with (go_at_call 26; refine (refWhich_any _ _ _ _ _ _).mono ?_; rintro e w' ⟨rfl, rfl⟩; rw [hz.out])
    go_ret
    exact ⟨by rw [HD.out]; rfl, rfl⟩
  · have hb := whichF_bd hz
    have hw : doubleB l t g lo gl = decide (2 * g < l ∧ 8 ≤ g ∧ lo = gl ∧ gl < 5) := by
      unfold doubleB; rw [Bool.eq_iff_iff, decide_eq_true_iff, decide_eq_true_iff]; exact ⟨fun h => h.2.2, fun h => ⟨hb.1.1, hb.1.2, h⟩⟩
    have HW := Lib.hid hw
    have hg := hb.2.2
    have h0 := ((fineB_iff _ _ _ _ _).1 hb.1.1).2.1
    obtain ⟨k, hk⟩ : ∃ k, whichF l t g lo gl = k := ⟨_, rfl⟩
    rw [hk] at hz
    replace hk := Lib.hid hk
    clear hb hw
    go_enter Tryd.func28, Tryd.ntmps28
    go_wp2_with (go_at_call 26; refine (refWhich_any _ _ _ _ _ _).mono ?_; rintro e w' ⟨rfl, rfl⟩; rw [hk.out])
    all_goals go_ret
    all_goals refine ⟨?_, rfl⟩
    all_goals rw [HW.out]
    all_goals (show Ending.returned (.bool _) = _; congr 2; first | (rw [Bool.eq_iff_iff]; simp; done) | (rw [Bool.eq_iff_iff]; simp; omega))
end Go.Proofs.YtplimhllfbdocaaDoor
