/- The walk of ChooseRoom. Condition: the texts of Word, the two errors' cells. -/
import Derived.Test.YtnkcebeffpdbbaaDoorChooseRoom
import Derived.WalkSmall
import Derived.IntWalk
namespace Go.Proofs.YtnkcebeffpdbbaaDoor
set_option linter.unusedVariables false
set_option linter.unusedSimpArgs false
open Go.RowKit Go.Proofs

theorem cell_keep {w w' : World} {a : Addr} {v : Value} (h : w.cell? a = some v) (hb : Below w.heap.size w w') : w'.cell? a = some v := (hb.cell (World.block_lt_of_cell? _ _ h)).trans h

theorem quiet_of' {P : Program} {f : FuncId} {args : Array Value} {w : World} {c n : Nat} {v : Value}
    (h : Calls P f args (w.drewN (c + n)) fun e w' => e = .returned v ∧ ∃ m, w' = (w.drewN (c + n)).drewN m) : Calls P f args (w.drewN (c + n)) fun e w'' => e = .returned v ∧ ∃ m, w'' = w.drewN (c + m) :=
  h.mono fun _ _ ⟨he, m, hm⟩ => ⟨he, n + m, by rw [hm, World.drewN_drewN, Nat.add_assoc]⟩
theorem neq_nil (w : World) : (binOp .neq 31 .nilIface .nilIface).run Tryd.prog w = .ok (.bool false) w := run_neq_nil_nil _ _ (by kernel_rfl)
attribute [local go_sem] neq_nil

set_option maxRecDepth 100000 in
set_option maxHeartbeats 4000000 in
theorem chooseRoom_any (l t g lo gl : Int) (E : Nat → Addr) (w : World) (hw : Words w) (h1 : w.cell? ⟨1, 0, none⟩ = some (.iface 62 (.pointer (some (E 1))))) (h14 : w.cell? ⟨0, 0, none⟩ = some (.iface 62 (.pointer (some (E 14))))) :
    Calls Tryd.prog 4 #[.agg #[.int .i64 l, .int .i64 t, .int .i64 g, .int .i64 lo, .int .i64 gl]] w fun e w' => e = .returned (.bool true) ∧ Below w.heap.size w w' := by
  have HW := Lib.hid hw
  have H1 := Lib.hid h1
  have H14 := Lib.hid h14
  clear hw h1 h14
  by_cases g0 : 0 ≤ l
  · by_cases g1 : 0 ≤ t
    · by_cases g2 : l ≤ 1000
      · by_cases g3 : t ≤ 1000
        · by_cases g4 : 0 ≤ lo
          · by_cases g5 : 0 ≤ gl
            · by_cases hr : rightB g = true
              · have hg := right_bd' hr
                have G1 := Lib.hid ((groupsV_ok (E := E) (badF_of (k := 1) (by omega) hr (by omega))).trans (show _ = Value.tuple #[.int .i64 g, .int .i64 1, .nilIface] from rfl))
                rcases whichF_or l t g lo gl with K | K | K | K
                · have hl := which_free K hr ⟨g0, g1, g4, g5⟩
                  have hl2 : 3 * g < 7 * g - l - t := by omega
                  replace K := Lib.hid K
                  have G2 := Lib.hid (groupsV_bad (E := E) (k := 0) (g := g) (n := 14) (by unfold badF; rw [if_neg (by omega)]) (by decide))
                  have U := G2
                  go_enter Tryd.func4, Tryd.ntmps4
                  go_wp2_with (first | (go_at_call 6; refine (alive14 _ (HW.out.below (by repeat (first | exact Below.refl _ _ | refine below_drewN ?_ _ | refine Below.alloc ?_ (by simp) _)))).mono ?_; rintro e w' ⟨rfl, rfl⟩) | (go_at_call 7; refine (which_any _ _ _ _ _ _).mono ?_; rintro e w' ⟨rfl, rfl⟩; simp only [K.out]) | (go_at_call 9; refine (groups_any _ _ E _ (cell_keep H1.out (by repeat (first | exact Below.refl _ _ | refine below_drewN ?_ _ | refine Below.alloc ?_ (by simp) _))) (cell_keep H14.out (by repeat (first | exact Below.refl _ _ | refine below_drewN ?_ _ | refine Below.alloc ?_ (by simp) _)))).mono ?_; rintro e w' ⟨rfl, m, rfl⟩; simp only [G1.out, G2.out]) | (go_at_call 10; refine (units_any _ _ E _ (cell_keep H1.out (by repeat (first | exact Below.refl _ _ | refine below_drewN ?_ _ | refine Below.alloc ?_ (by simp) _))) (cell_keep H14.out (by repeat (first | exact Below.refl _ _ | refine below_drewN ?_ _ | refine Below.alloc ?_ (by simp) _)))).mono ?_; rintro e w' ⟨rfl, m, rfl⟩; simp only [U.out]))
                  all_goals go_ret
                  all_goals exact ⟨by rfl, (by repeat (first | exact Below.refl _ _ | refine below_drewN ?_ _ | refine Below.alloc ?_ (by simp) _))⟩
                · have hn := which_need (l := l) (t := t) (g := g) (lo := lo) (gl := gl) (by omega)
                  have hl2 : 7 * g - l - t ≤ 3 * g := by omega
                  have hd1 : decide (3 * g < 7 * g - l - t) = false := by simpa using hl2
                  have q1 : IntKind.i64.wrap (3 * g) = 3 * g := IntWalk.i64_in _ (by omega)
                  have q2 : wrap64 (3 * g) = 3 * g := IntWalk.wrap64_in _ (by omega)
                  have h11 := which_one K
                  replace K := Lib.hid K
                  have G2 := Lib.hid ((groupsV_ok (E := E) (badF_of (k := 1) (by omega) hr (by omega))).trans (show _ = Value.tuple #[.int .i64 (g), .int .i64 1, .nilIface] from rfl))
                  have U := Lib.hid (show unitsF 1 g = (g) * 1 + g by unfold unitsF; rw [if_pos (badF_of (k := 1) (by omega) hr (by omega))]; rfl)
                  by_cases c1 : l ≤ 2 * g
                  · go_enter Tryd.func4, Tryd.ntmps4
                    go_wp2_with (first | (go_at_call 6; refine (alive14 _ (HW.out.below (by repeat (first | exact Below.refl _ _ | refine below_drewN ?_ _ | refine Below.alloc ?_ (by simp) _)))).mono ?_; rintro e w' ⟨rfl, rfl⟩) | (go_at_call 7; refine (which_any _ _ _ _ _ _).mono ?_; rintro e w' ⟨rfl, rfl⟩; simp only [K.out]) | (go_at_call 9; refine (groups_any _ _ E _ (cell_keep H1.out (by repeat (first | exact Below.refl _ _ | refine below_drewN ?_ _ | refine Below.alloc ?_ (by simp) _))) (cell_keep H14.out (by repeat (first | exact Below.refl _ _ | refine below_drewN ?_ _ | refine Below.alloc ?_ (by simp) _)))).mono ?_; rintro e w' ⟨rfl, m, rfl⟩; simp only [G1.out, G2.out]) | (go_at_call 10; refine (units_any _ _ E _ (cell_keep H1.out (by repeat (first | exact Below.refl _ _ | refine below_drewN ?_ _ | refine Below.alloc ?_ (by simp) _))) (cell_keep H14.out (by repeat (first | exact Below.refl _ _ | refine below_drewN ?_ _ | refine Below.alloc ?_ (by simp) _)))).mono ?_; rintro e w' ⟨rfl, m, rfl⟩; simp only [U.out]))
                    have hu := fun w' c1 c14 => units_any 1 g E w' c1 c14
                    simp only [U.out] at hu
                    go_quiet ((go_at_call 10; (exact quiet_of' (hu _ (cell_keep H1.out (by repeat (first | exact Below.refl _ _ | refine below_drewN ?_ _ | refine Below.alloc ?_ (by simp) _))) (cell_keep H14.out (by repeat (first | exact Below.refl _ _ | refine below_drewN ?_ _ | refine Below.alloc ?_ (by simp) _)))))))
                    go_wp2
                    all_goals go_ret
                    all_goals exact ⟨by rfl, (by repeat (first | exact Below.refl _ _ | refine below_drewN ?_ _ | refine Below.alloc ?_ (by simp) _))⟩
                  · have c2 : g = 64 := by omega
                    have c3 : (g == 64) = true := by rw [c2]; rfl
                    clear c2
                    clear h11
                    go_enter Tryd.func4, Tryd.ntmps4
                    go_wp2_with (first | (go_at_call 6; refine (alive14 _ (HW.out.below (by repeat (first | exact Below.refl _ _ | refine below_drewN ?_ _ | refine Below.alloc ?_ (by simp) _)))).mono ?_; rintro e w' ⟨rfl, rfl⟩) | (go_at_call 7; refine (which_any _ _ _ _ _ _).mono ?_; rintro e w' ⟨rfl, rfl⟩; simp only [K.out]) | (go_at_call 9; refine (groups_any _ _ E _ (cell_keep H1.out (by repeat (first | exact Below.refl _ _ | refine below_drewN ?_ _ | refine Below.alloc ?_ (by simp) _))) (cell_keep H14.out (by repeat (first | exact Below.refl _ _ | refine below_drewN ?_ _ | refine Below.alloc ?_ (by simp) _)))).mono ?_; rintro e w' ⟨rfl, m, rfl⟩; simp only [G1.out, G2.out]) | (go_at_call 10; refine (units_any _ _ E _ (cell_keep H1.out (by repeat (first | exact Below.refl _ _ | refine below_drewN ?_ _ | refine Below.alloc ?_ (by simp) _))) (cell_keep H14.out (by repeat (first | exact Below.refl _ _ | refine below_drewN ?_ _ | refine Below.alloc ?_ (by simp) _)))).mono ?_; rintro e w' ⟨rfl, m, rfl⟩; simp only [U.out]))
                    have hu := fun w' c1 c14 => units_any 1 g E w' c1 c14
                    simp only [U.out] at hu
                    go_quiet ((go_at_call 10; (exact quiet_of' (hu _ (cell_keep H1.out (by repeat (first | exact Below.refl _ _ | refine below_drewN ?_ _ | refine Below.alloc ?_ (by simp) _))) (cell_keep H14.out (by repeat (first | exact Below.refl _ _ | refine below_drewN ?_ _ | refine Below.alloc ?_ (by simp) _)))))))
                    go_wp2
                    all_goals go_ret
                    all_goals exact ⟨by rfl, (by repeat (first | exact Below.refl _ _ | refine below_drewN ?_ _ | refine Below.alloc ?_ (by simp) _))⟩
                · have hn := which_need (l := l) (t := t) (g := g) (lo := lo) (gl := gl) (by omega)
                  have hl2 : 7 * g - l - t ≤ 3 * g := by omega
                  have hd1 : decide (3 * g < 7 * g - l - t) = false := by simpa using hl2
                  have q1 : IntKind.i64.wrap (3 * g) = 3 * g := IntWalk.i64_in _ (by omega)
                  have q2 : wrap64 (3 * g) = 3 * g := IntWalk.wrap64_in _ (by omega)
                  have h64 := which_two K
                  replace K := Lib.hid K
                  have G2 := Lib.hid ((groupsV_ok (E := E) (badF_of (k := 2) (by omega) hr (by omega))).trans (show _ = Value.tuple #[.int .i64 (2 * g), .int .i64 1, .nilIface] from rfl))
                  have U := Lib.hid (show unitsF 2 g = (2 * g) * 1 + g by unfold unitsF; rw [if_pos (badF_of (k := 2) (by omega) hr (by omega))]; rfl)
                  go_enter Tryd.func4, Tryd.ntmps4
                  go_wp2_with (first | (go_at_call 6; refine (alive14 _ (HW.out.below (by repeat (first | exact Below.refl _ _ | refine below_drewN ?_ _ | refine Below.alloc ?_ (by simp) _)))).mono ?_; rintro e w' ⟨rfl, rfl⟩) | (go_at_call 7; refine (which_any _ _ _ _ _ _).mono ?_; rintro e w' ⟨rfl, rfl⟩; simp only [K.out]) | (go_at_call 9; refine (groups_any _ _ E _ (cell_keep H1.out (by repeat (first | exact Below.refl _ _ | refine below_drewN ?_ _ | refine Below.alloc ?_ (by simp) _))) (cell_keep H14.out (by repeat (first | exact Below.refl _ _ | refine below_drewN ?_ _ | refine Below.alloc ?_ (by simp) _)))).mono ?_; rintro e w' ⟨rfl, m, rfl⟩; simp only [G1.out, G2.out]) | (go_at_call 10; refine (units_any _ _ E _ (cell_keep H1.out (by repeat (first | exact Below.refl _ _ | refine below_drewN ?_ _ | refine Below.alloc ?_ (by simp) _))) (cell_keep H14.out (by repeat (first | exact Below.refl _ _ | refine below_drewN ?_ _ | refine Below.alloc ?_ (by simp) _)))).mono ?_; rintro e w' ⟨rfl, m, rfl⟩; simp only [U.out]))
                  have hu := fun w' c1 c14 => units_any 2 g E w' c1 c14
                  simp only [U.out] at hu
                  go_quiet ((go_at_call 10; (exact quiet_of' (hu _ (cell_keep H1.out (by repeat (first | exact Below.refl _ _ | refine below_drewN ?_ _ | refine Below.alloc ?_ (by simp) _))) (cell_keep H14.out (by repeat (first | exact Below.refl _ _ | refine below_drewN ?_ _ | refine Below.alloc ?_ (by simp) _)))))))
                  go_wp2
                  all_goals go_ret
                  all_goals exact ⟨by rfl, (by repeat (first | exact Below.refl _ _ | refine below_drewN ?_ _ | refine Below.alloc ?_ (by simp) _))⟩
                · have hn := which_need (l := l) (t := t) (g := g) (lo := lo) (gl := gl) (by omega)
                  have hl2 : 7 * g - l - t ≤ 3 * g := by omega
                  have hd1 : decide (3 * g < 7 * g - l - t) = false := by simpa using hl2
                  have q1 : IntKind.i64.wrap (3 * g) = 3 * g := IntWalk.i64_in _ (by omega)
                  have q2 : wrap64 (3 * g) = 3 * g := IntWalk.wrap64_in _ (by omega)
                  obtain ⟨hlo, h8⟩ := which_three K
                  replace K := Lib.hid K
                  have G2 := Lib.hid ((groupsV_ok (E := E) (badF_of (k := 3) (by omega) hr (by omega))).trans (show _ = Value.tuple #[.int .i64 (g), .int .i64 2, .nilIface] from rfl))
                  have U := Lib.hid (show unitsF 3 g = (g) * 2 + g by unfold unitsF; rw [if_pos (badF_of (k := 3) (by omega) hr (by omega))]; rfl)
                  go_enter Tryd.func4, Tryd.ntmps4
                  go_wp2_with (first | (go_at_call 6; refine (alive14 _ (HW.out.below (by repeat (first | exact Below.refl _ _ | refine below_drewN ?_ _ | refine Below.alloc ?_ (by simp) _)))).mono ?_; rintro e w' ⟨rfl, rfl⟩) | (go_at_call 7; refine (which_any _ _ _ _ _ _).mono ?_; rintro e w' ⟨rfl, rfl⟩; simp only [K.out]) | (go_at_call 9; refine (groups_any _ _ E _ (cell_keep H1.out (by repeat (first | exact Below.refl _ _ | refine below_drewN ?_ _ | refine Below.alloc ?_ (by simp) _))) (cell_keep H14.out (by repeat (first | exact Below.refl _ _ | refine below_drewN ?_ _ | refine Below.alloc ?_ (by simp) _)))).mono ?_; rintro e w' ⟨rfl, m, rfl⟩; simp only [G1.out, G2.out]) | (go_at_call 10; refine (units_any _ _ E _ (cell_keep H1.out (by repeat (first | exact Below.refl _ _ | refine below_drewN ?_ _ | refine Below.alloc ?_ (by simp) _))) (cell_keep H14.out (by repeat (first | exact Below.refl _ _ | refine below_drewN ?_ _ | refine Below.alloc ?_ (by simp) _)))).mono ?_; rintro e w' ⟨rfl, m, rfl⟩; simp only [U.out]))
                  have hu := fun w' c1 c14 => units_any 3 g E w' c1 c14
                  simp only [U.out] at hu
                  go_quiet ((go_at_call 10; (exact quiet_of' (hu _ (cell_keep H1.out (by repeat (first | exact Below.refl _ _ | refine below_drewN ?_ _ | refine Below.alloc ?_ (by simp) _))) (cell_keep H14.out (by repeat (first | exact Below.refl _ _ | refine below_drewN ?_ _ | refine Below.alloc ?_ (by simp) _)))))))
                  go_wp2
                  all_goals go_ret
                  all_goals exact ⟨by rfl, (by repeat (first | exact Below.refl _ _ | refine below_drewN ?_ _ | refine Below.alloc ?_ (by simp) _))⟩
              · replace hr : rightB g = false := by simpa using hr
                have K := which_wrong (l := l) (t := t) (lo := lo) (gl := gl) hr
                replace K := Lib.hid K
                have G1 := Lib.hid (groupsV_bad (E := E) (k := 1) (g := g) (n := 1) (by unfold badF; rw [if_pos (by omega), if_neg (fun h => by rw [hr] at h; exact absurd h.1 (by decide))]) (by decide))
                have G2 := Lib.hid (groupsV_bad (E := E) (k := 0) (g := g) (n := 14) (by unfold badF; rw [if_neg (by omega)]) (by decide))
                have U := G2
                go_enter Tryd.func4, Tryd.ntmps4
                go_wp2_with (first | (go_at_call 6; refine (alive14 _ (HW.out.below (by repeat (first | exact Below.refl _ _ | refine below_drewN ?_ _ | refine Below.alloc ?_ (by simp) _)))).mono ?_; rintro e w' ⟨rfl, rfl⟩) | (go_at_call 7; refine (which_any _ _ _ _ _ _).mono ?_; rintro e w' ⟨rfl, rfl⟩; simp only [K.out]) | (go_at_call 9; refine (groups_any _ _ E _ (cell_keep H1.out (by repeat (first | exact Below.refl _ _ | refine below_drewN ?_ _ | refine Below.alloc ?_ (by simp) _))) (cell_keep H14.out (by repeat (first | exact Below.refl _ _ | refine below_drewN ?_ _ | refine Below.alloc ?_ (by simp) _)))).mono ?_; rintro e w' ⟨rfl, m, rfl⟩; simp only [G1.out, G2.out]) | (go_at_call 10; refine (units_any _ _ E _ (cell_keep H1.out (by repeat (first | exact Below.refl _ _ | refine below_drewN ?_ _ | refine Below.alloc ?_ (by simp) _))) (cell_keep H14.out (by repeat (first | exact Below.refl _ _ | refine below_drewN ?_ _ | refine Below.alloc ?_ (by simp) _)))).mono ?_; rintro e w' ⟨rfl, m, rfl⟩; simp only [U.out]))
                all_goals go_ret
                all_goals exact ⟨by rfl, (by repeat (first | exact Below.refl _ _ | refine below_drewN ?_ _ | refine Below.alloc ?_ (by simp) _))⟩
            · go_enter Tryd.func4, Tryd.ntmps4
              go_wp2_with (go_at_call 6; refine (alive14 _ (HW.out.below (by repeat (first | exact Below.refl _ _ | refine below_drewN ?_ _ | refine Below.alloc ?_ (by simp) _)))).mono ?_; rintro e w' ⟨rfl, rfl⟩)
              go_ret
              exact ⟨rfl, (by repeat (first | exact Below.refl _ _ | refine below_drewN ?_ _ | refine Below.alloc ?_ (by simp) _))⟩
          · go_enter Tryd.func4, Tryd.ntmps4
            go_wp2_with (go_at_call 6; refine (alive14 _ (HW.out.below (by repeat (first | exact Below.refl _ _ | refine below_drewN ?_ _ | refine Below.alloc ?_ (by simp) _)))).mono ?_; rintro e w' ⟨rfl, rfl⟩)
            go_ret
            exact ⟨rfl, (by repeat (first | exact Below.refl _ _ | refine below_drewN ?_ _ | refine Below.alloc ?_ (by simp) _))⟩
        · go_enter Tryd.func4, Tryd.ntmps4
          go_wp2_with (go_at_call 6; refine (alive14 _ (HW.out.below (by repeat (first | exact Below.refl _ _ | refine below_drewN ?_ _ | refine Below.alloc ?_ (by simp) _)))).mono ?_; rintro e w' ⟨rfl, rfl⟩)
          go_ret
          exact ⟨rfl, (by repeat (first | exact Below.refl _ _ | refine below_drewN ?_ _ | refine Below.alloc ?_ (by simp) _))⟩
      · go_enter Tryd.func4, Tryd.ntmps4
        go_wp2_with (go_at_call 6; refine (alive14 _ (HW.out.below (by repeat (first | exact Below.refl _ _ | refine below_drewN ?_ _ | refine Below.alloc ?_ (by simp) _)))).mono ?_; rintro e w' ⟨rfl, rfl⟩)
        go_ret
        exact ⟨rfl, (by repeat (first | exact Below.refl _ _ | refine below_drewN ?_ _ | refine Below.alloc ?_ (by simp) _))⟩
    · go_enter Tryd.func4, Tryd.ntmps4
      go_wp2_with (go_at_call 6; refine (alive14 _ (HW.out.below (by repeat (first | exact Below.refl _ _ | refine below_drewN ?_ _ | refine Below.alloc ?_ (by simp) _)))).mono ?_; rintro e w' ⟨rfl, rfl⟩)
      go_ret
      exact ⟨rfl, (by repeat (first | exact Below.refl _ _ | refine below_drewN ?_ _ | refine Below.alloc ?_ (by simp) _))⟩
  · go_enter Tryd.func4, Tryd.ntmps4
    go_wp2_with (go_at_call 6; refine (alive14 _ (HW.out.below (by repeat (first | exact Below.refl _ _ | refine below_drewN ?_ _ | refine Below.alloc ?_ (by simp) _)))).mono ?_; rintro e w' ⟨rfl, rfl⟩)
    go_ret
    exact ⟨rfl, (by repeat (first | exact Below.refl _ _ | refine below_drewN ?_ _ | refine Below.alloc ?_ (by simp) _))⟩
end Go.Proofs.YtnkcebeffpdbbaaDoor
