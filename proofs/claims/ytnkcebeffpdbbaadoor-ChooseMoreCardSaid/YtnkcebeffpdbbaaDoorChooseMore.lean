/- The walk of ChooseMore. Condition: the texts of Word. -/
import Derived.Test.YtnkcebeffpdbbaaDoorChoose
import Derived.Deep.QuietTactic
import Derived.BigQuiet
import Derived.IntWalk
import Derived.WalkSmall
namespace Go.Proofs.YtnkcebeffpdbbaaDoor
set_option linter.unusedVariables false
set_option linter.unusedSimpArgs false
open Go.RowKit Go.Proofs

theorem mod500 (x : Int) : ∃ A, 0 ≤ A ∧ A < 500 ∧ wrap64 ((IntKind.u64.wrap x).tmod 500) = A := by
  have h0 : 0 ≤ IntKind.u64.wrap x := by rw [IntKind.wrap_u64]; omega
  have h1 := Int.emod_nonneg (IntKind.u64.wrap x) (show (500 : Int) ≠ 0 by decide)
  have h2 := Int.emod_lt_of_pos (IntKind.u64.wrap x) (show (0 : Int) < 500 by decide)
  refine ⟨(IntKind.u64.wrap x) % 500, h1, h2, ?_⟩
  rw [Int.tmod_eq_emod_of_nonneg h0]
  exact IntWalk.wrap64_in _ (by omega)

set_option maxHeartbeats 4000000 in
theorem chooseMore_any (l t g lo gl x y : Int) (w : World) (hw : Words w) :
    Calls Tryd.prog 3 #[.agg #[.int .i64 l, .int .i64 t, .int .i64 g, .int .i64 lo, .int .i64 gl], .agg #[.int .i64 x, .int .i64 y]] w fun e w' => e = .returned (.bool true) ∧ Below w.heap.size w w' := by
  have HW := Lib.hid hw
  clear hw
  by_cases g1 : 0 ≤ l
  · by_cases g2 : 0 ≤ t
    · by_cases g3 : l ≤ 600
      · by_cases g4 : t ≤ 600
        · have F1 := fun (a b : Int) (ha : 0 ≤ a) (hb : 0 ≤ b) => whichF_more (l := l) (t := t) (g := g) (lo := lo) (gl := gl) ha hb
          have F3 := whichF_grown (l := l) (t := t) (g := g) (lo := lo) (gl := gl)
          have FB := fun h => (whichF_bd (l := l) (t := t) (g := g) (lo := lo) (gl := gl) h).2.2
          obtain ⟨A, hA1, hA2, eA⟩ := mod500 x
          obtain ⟨B, hB1, hB2, eB⟩ := mod500 y
          have F4 := F1 A B hA1 hB1
          clear F1
          have K3 : ∃ z, whichF l 0 (2 * g) lo gl = z ∧ (whichF l t g lo gl = 2 → l + t < 8 * g → z = 0) := ⟨_, rfl, F3⟩
          obtain ⟨z, K3, hz⟩ := K3
          obtain ⟨v, K2⟩ : ∃ v, whichF (l + A) (t + B) g lo gl = v := ⟨_, rfl⟩
          rw [K2] at F4
          replace K2 := Lib.hid K2
          replace K3 := Lib.hid K3
          clear F3
          have KO := whichF_or l t g lo gl
          by_cases D : doubleB l t g lo gl = true
          · obtain ⟨D1, D2, D3, D4, D5, D6⟩ := doubleB_bd D
            subst D4
            have DD := Lib.hid D
            clear D
            rcases KO with K | K | K | K
            · omega
            · have hv := F4 (by omega)
              have hg := FB (by omega)
              clear F4 FB hz
              replace K := Lib.hid K
              go_enter Tryd.func3, Tryd.ntmps3
              go_wp2_with (first | (go_at_call 6; refine (alive14 _ (HW.out.below (by go_grown))).mono ?_; rintro e w' ⟨rfl, rfl⟩) | (go_at_call 7; refine (which_any _ _ _ _ _ _).mono ?_; rintro e w' ⟨rfl, rfl⟩; simp only [K.out, K2.out, K3.out]) | (go_at_call 8; refine (double_any _ _ _ _ _ _).mono ?_; rintro e w' ⟨rfl, rfl⟩; rw [DD.out]))
              go_quiet (fail)
              simp only [eA, eB]
              go_wp2_with (first | (go_at_call 6; refine (alive14 _ (HW.out.below (by go_grown))).mono ?_; rintro e w' ⟨rfl, rfl⟩) | (go_at_call 7; refine (which_any _ _ _ _ _ _).mono ?_; rintro e w' ⟨rfl, rfl⟩; simp only [K.out, K2.out, K3.out]) | (go_at_call 8; refine (double_any _ _ _ _ _ _).mono ?_; rintro e w' ⟨rfl, rfl⟩; rw [DD.out]))
              all_goals go_ret
              all_goals exact ⟨by rfl, below_drewN (by go_grown) _⟩
            · have hv := F4 (by omega)
              have hg := FB (by omega)
              have hz' := hz K
              clear F4 FB hz
              replace K := Lib.hid K
              by_cases hs : l + t < 8 * g
              · obtain rfl := hz' hs
                go_enter Tryd.func3, Tryd.ntmps3
                go_wp2_with (first | (go_at_call 6; refine (alive14 _ (HW.out.below (by go_grown))).mono ?_; rintro e w' ⟨rfl, rfl⟩) | (go_at_call 7; refine (which_any _ _ _ _ _ _).mono ?_; rintro e w' ⟨rfl, rfl⟩; simp only [K.out, K2.out, K3.out]) | (go_at_call 8; refine (double_any _ _ _ _ _ _).mono ?_; rintro e w' ⟨rfl, rfl⟩; rw [DD.out]))
                go_quiet (fail)
                simp only [eA, eB]
                go_wp2_with (first | (go_at_call 6; refine (alive14 _ (HW.out.below (by go_grown))).mono ?_; rintro e w' ⟨rfl, rfl⟩) | (go_at_call 7; refine (which_any _ _ _ _ _ _).mono ?_; rintro e w' ⟨rfl, rfl⟩; simp only [K.out, K2.out, K3.out]) | (go_at_call 8; refine (double_any _ _ _ _ _ _).mono ?_; rintro e w' ⟨rfl, rfl⟩; rw [DD.out]))
                all_goals go_ret
                all_goals exact ⟨by rfl, below_drewN (by go_grown) _⟩
              · clear hz'
                go_enter Tryd.func3, Tryd.ntmps3
                go_wp2_with (first | (go_at_call 6; refine (alive14 _ (HW.out.below (by go_grown))).mono ?_; rintro e w' ⟨rfl, rfl⟩) | (go_at_call 7; refine (which_any _ _ _ _ _ _).mono ?_; rintro e w' ⟨rfl, rfl⟩; simp only [K.out, K2.out, K3.out]) | (go_at_call 8; refine (double_any _ _ _ _ _ _).mono ?_; rintro e w' ⟨rfl, rfl⟩; rw [DD.out]))
                go_quiet (fail)
                simp only [eA, eB]
                go_wp2_with (first | (go_at_call 6; refine (alive14 _ (HW.out.below (by go_grown))).mono ?_; rintro e w' ⟨rfl, rfl⟩) | (go_at_call 7; refine (which_any _ _ _ _ _ _).mono ?_; rintro e w' ⟨rfl, rfl⟩; simp only [K.out, K2.out, K3.out]) | (go_at_call 8; refine (double_any _ _ _ _ _ _).mono ?_; rintro e w' ⟨rfl, rfl⟩; rw [DD.out]))
                all_goals go_ret
                all_goals exact ⟨by rfl, below_drewN (by go_grown) _⟩
            · omega
          · have DD := Lib.hid (show doubleB l t g lo gl = false by simpa using D)
            clear D
            rcases KO with K | K | K | K
            · clear F4 FB hz
              replace K := Lib.hid K
              go_enter Tryd.func3, Tryd.ntmps3
              go_wp2_with (first | (go_at_call 6; refine (alive14 _ (HW.out.below (by go_grown))).mono ?_; rintro e w' ⟨rfl, rfl⟩) | (go_at_call 7; refine (which_any _ _ _ _ _ _).mono ?_; rintro e w' ⟨rfl, rfl⟩; simp only [K.out, K2.out, K3.out]) | (go_at_call 8; refine (double_any _ _ _ _ _ _).mono ?_; rintro e w' ⟨rfl, rfl⟩; rw [DD.out]))
              go_quiet (fail)
              simp only [eA, eB]
              go_wp2_with (first | (go_at_call 6; refine (alive14 _ (HW.out.below (by go_grown))).mono ?_; rintro e w' ⟨rfl, rfl⟩) | (go_at_call 7; refine (which_any _ _ _ _ _ _).mono ?_; rintro e w' ⟨rfl, rfl⟩; simp only [K.out, K2.out, K3.out]) | (go_at_call 8; refine (double_any _ _ _ _ _ _).mono ?_; rintro e w' ⟨rfl, rfl⟩; rw [DD.out]))
              all_goals go_ret
              all_goals exact ⟨by rfl, below_drewN (by go_grown) _⟩
            · have hv := F4 (by omega)
              have hg := FB (by omega)
              clear F4 FB hz
              replace K := Lib.hid K
              go_enter Tryd.func3, Tryd.ntmps3
              go_wp2_with (first | (go_at_call 6; refine (alive14 _ (HW.out.below (by go_grown))).mono ?_; rintro e w' ⟨rfl, rfl⟩) | (go_at_call 7; refine (which_any _ _ _ _ _ _).mono ?_; rintro e w' ⟨rfl, rfl⟩; simp only [K.out, K2.out, K3.out]) | (go_at_call 8; refine (double_any _ _ _ _ _ _).mono ?_; rintro e w' ⟨rfl, rfl⟩; rw [DD.out]))
              go_quiet (fail)
              simp only [eA, eB]
              go_wp2_with (first | (go_at_call 6; refine (alive14 _ (HW.out.below (by go_grown))).mono ?_; rintro e w' ⟨rfl, rfl⟩) | (go_at_call 7; refine (which_any _ _ _ _ _ _).mono ?_; rintro e w' ⟨rfl, rfl⟩; simp only [K.out, K2.out, K3.out]) | (go_at_call 8; refine (double_any _ _ _ _ _ _).mono ?_; rintro e w' ⟨rfl, rfl⟩; rw [DD.out]))
              all_goals go_ret
              all_goals exact ⟨by rfl, below_drewN (by go_grown) _⟩
            · have hv := F4 (by omega)
              have hg := FB (by omega)
              have hz' := hz K
              clear F4 FB hz
              replace K := Lib.hid K
              by_cases hs : l + t < 8 * g
              · obtain rfl := hz' hs
                go_enter Tryd.func3, Tryd.ntmps3
                go_wp2_with (first | (go_at_call 6; refine (alive14 _ (HW.out.below (by go_grown))).mono ?_; rintro e w' ⟨rfl, rfl⟩) | (go_at_call 7; refine (which_any _ _ _ _ _ _).mono ?_; rintro e w' ⟨rfl, rfl⟩; simp only [K.out, K2.out, K3.out]) | (go_at_call 8; refine (double_any _ _ _ _ _ _).mono ?_; rintro e w' ⟨rfl, rfl⟩; rw [DD.out]))
                go_quiet (fail)
                simp only [eA, eB]
                go_wp2_with (first | (go_at_call 6; refine (alive14 _ (HW.out.below (by go_grown))).mono ?_; rintro e w' ⟨rfl, rfl⟩) | (go_at_call 7; refine (which_any _ _ _ _ _ _).mono ?_; rintro e w' ⟨rfl, rfl⟩; simp only [K.out, K2.out, K3.out]) | (go_at_call 8; refine (double_any _ _ _ _ _ _).mono ?_; rintro e w' ⟨rfl, rfl⟩; rw [DD.out]))
                all_goals go_ret
                all_goals exact ⟨by rfl, below_drewN (by go_grown) _⟩
              · clear hz'
                go_enter Tryd.func3, Tryd.ntmps3
                go_wp2_with (first | (go_at_call 6; refine (alive14 _ (HW.out.below (by go_grown))).mono ?_; rintro e w' ⟨rfl, rfl⟩) | (go_at_call 7; refine (which_any _ _ _ _ _ _).mono ?_; rintro e w' ⟨rfl, rfl⟩; simp only [K.out, K2.out, K3.out]) | (go_at_call 8; refine (double_any _ _ _ _ _ _).mono ?_; rintro e w' ⟨rfl, rfl⟩; rw [DD.out]))
                go_quiet (fail)
                simp only [eA, eB]
                go_wp2_with (first | (go_at_call 6; refine (alive14 _ (HW.out.below (by go_grown))).mono ?_; rintro e w' ⟨rfl, rfl⟩) | (go_at_call 7; refine (which_any _ _ _ _ _ _).mono ?_; rintro e w' ⟨rfl, rfl⟩; simp only [K.out, K2.out, K3.out]) | (go_at_call 8; refine (double_any _ _ _ _ _ _).mono ?_; rintro e w' ⟨rfl, rfl⟩; rw [DD.out]))
                all_goals go_ret
                all_goals exact ⟨by rfl, below_drewN (by go_grown) _⟩
            · have hv := F4 (by omega)
              have hg := FB (by omega)
              clear F4 FB hz
              replace K := Lib.hid K
              go_enter Tryd.func3, Tryd.ntmps3
              go_wp2_with (first | (go_at_call 6; refine (alive14 _ (HW.out.below (by go_grown))).mono ?_; rintro e w' ⟨rfl, rfl⟩) | (go_at_call 7; refine (which_any _ _ _ _ _ _).mono ?_; rintro e w' ⟨rfl, rfl⟩; simp only [K.out, K2.out, K3.out]) | (go_at_call 8; refine (double_any _ _ _ _ _ _).mono ?_; rintro e w' ⟨rfl, rfl⟩; rw [DD.out]))
              go_quiet (fail)
              simp only [eA, eB]
              go_wp2_with (first | (go_at_call 6; refine (alive14 _ (HW.out.below (by go_grown))).mono ?_; rintro e w' ⟨rfl, rfl⟩) | (go_at_call 7; refine (which_any _ _ _ _ _ _).mono ?_; rintro e w' ⟨rfl, rfl⟩; simp only [K.out, K2.out, K3.out]) | (go_at_call 8; refine (double_any _ _ _ _ _ _).mono ?_; rintro e w' ⟨rfl, rfl⟩; rw [DD.out]))
              all_goals go_ret
              all_goals exact ⟨by rfl, below_drewN (by go_grown) _⟩
        · go_enter Tryd.func3, Tryd.ntmps3
          go_wp2_with (go_at_call 6; refine (alive14 _ (HW.out.below (by go_grown))).mono ?_; rintro e w' ⟨rfl, rfl⟩)
          go_ret
          exact ⟨rfl, by go_grown⟩
      · go_enter Tryd.func3, Tryd.ntmps3
        go_wp2_with (go_at_call 6; refine (alive14 _ (HW.out.below (by go_grown))).mono ?_; rintro e w' ⟨rfl, rfl⟩)
        go_ret
        exact ⟨rfl, by go_grown⟩
    · go_enter Tryd.func3, Tryd.ntmps3
      go_wp2_with (go_at_call 6; refine (alive14 _ (HW.out.below (by go_grown))).mono ?_; rintro e w' ⟨rfl, rfl⟩)
      go_ret
      exact ⟨rfl, by go_grown⟩
  · go_enter Tryd.func3, Tryd.ntmps3
    go_wp2_with (go_at_call 6; refine (alive14 _ (HW.out.below (by go_grown))).mono ?_; rintro e w' ⟨rfl, rfl⟩)
    go_ret
    exact ⟨rfl, by go_grown⟩
end Go.Proofs.YtnkcebeffpdbbaaDoor
