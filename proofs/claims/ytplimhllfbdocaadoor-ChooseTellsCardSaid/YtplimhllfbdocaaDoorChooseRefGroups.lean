/- The document's Groups. No condition. -/
import Derived.Test.YtplimhllfbdocaaDoorChooseRoomPlain
import Derived.Test.YtplimhllfbdocaaDoorChoose
import Derived.Test.YtplimhllfbdocaaDoorRefRight
import Derived.OwnWalk
import Derived.BigRegion
namespace Go.Proofs.YtplimhllfbdocaaDoor
set_option linter.unusedVariables false
set_option linter.unusedSimpArgs false
open Go.RowKit Go.Proofs

/-- the document's answer of Groups -/
def refGroupsV (k g : Int) : Value := .tuple #[.int .i64 (if badF k g = 0 then eachF k g else 0), .int .i64 (if badF k g = 0 then manyF k else 0), .int .i64 (badF k g : Int)]
theorem refGroupsV_ok {k g : Int} (h : badF k g = 0) : refGroupsV k g = .tuple #[.int .i64 (eachF k g), .int .i64 (manyF k), .int .i64 0] := by
  unfold refGroupsV; rw [h]; rfl
theorem refGroupsV_bad {k g : Int} {n : Nat} (h : badF k g = n) (hn : n ≠ 0) : refGroupsV k g = .tuple #[.int .i64 0, .int .i64 0, .int .i64 (n : Int)] := by
  unfold refGroupsV; rw [h, if_neg hn, if_neg hn]

set_option maxHeartbeats 4000000 in
theorem refGroups_any (k g : Int) (w : World) :
    Calls Tryd.prog 24 #[.int .i64 k, .int .i64 g] w fun e w' => e = .returned (refGroupsV k g) ∧ Below w.heap.size w w' := by
  by_cases k1 : k = 1
  · subst k1
    by_cases hr : rightB g = true
    · have hgb := right_bd' hr
      have HV := Lib.hid ((refGroupsV_ok (badF_of (k := 1) (by omega) hr (by omega))).trans (show _ = Value.tuple #[.int .i64 (g), .int .i64 1, .int .i64 0] from rfl))
      go_enter Tryd.func24, Tryd.ntmps24
      go_wp2_with (go_at_call 36; refine (refRight_any _ _).mono ?_; rintro e w' ⟨rfl, rfl⟩; simp only [hr])
      go_region
      all_goals go_wp2
      all_goals go_ret3
      all_goals exact ⟨by rw [HV.out]; rfl, (by repeat (first | exact Below.refl _ _ | refine below_drewN ?_ _ | refine Below.drew ?_ | refine Below.alloc ?_ (by simp) _))⟩
    · have hb : badF 1 g = 1 := by unfold badF; rw [if_pos (by omega), if_neg (fun h => hr h.1)]
      replace hr : rightB g = false := by simpa using hr
      have HV := Lib.hid (refGroupsV_bad (k := 1) (g := g) (n := 1) hb (by decide))
      go_enter Tryd.func24, Tryd.ntmps24
      go_wp2_with (go_at_call 36; refine (refRight_any _ _).mono ?_; rintro e w' ⟨rfl, rfl⟩; simp only [hr])
      go_ret3
      exact ⟨by rw [HV.out]; rfl, (by repeat (first | exact Below.refl _ _ | refine below_drewN ?_ _ | refine Below.drew ?_ | refine Below.alloc ?_ (by simp) _))⟩
  · by_cases k2 : k = 2
    · subst k2
      by_cases hr : rightB g = true
      · have hgb := right_bd' hr
        by_cases h64 : g < 64
        · clear k1
          have HV := Lib.hid ((refGroupsV_ok (badF_of (k := 2) (by omega) hr (fun _ => h64))).trans (show _ = Value.tuple #[.int .i64 (2 * g), .int .i64 1, .int .i64 0] from rfl))
          go_enter Tryd.func24, Tryd.ntmps24
          go_wp2_with (go_at_call 36; refine (refRight_any _ _).mono ?_; rintro e w' ⟨rfl, rfl⟩; simp only [hr])
          go_region
          all_goals go_wp2
          all_goals go_ret3
          all_goals exact ⟨by rw [HV.out]; rfl, (by repeat (first | exact Below.refl _ _ | refine below_drewN ?_ _ | refine Below.drew ?_ | refine Below.alloc ?_ (by simp) _))⟩
        · have hq : rightB (2 * g) = false := by rw [Bool.eq_false_iff, ne_eq, rightB_iff]; omega
          have h65 : g = 64 := by omega
          subst h65
          have HV := Lib.hid (refGroupsV_bad (k := 2) (g := 64) (n := 1) (by unfold badF eachF; rw [if_pos (by omega), if_neg (fun h => by rw [if_pos rfl, hq] at h; exact absurd h.2 (by decide))]) (by decide))
          clear hq
          go_enter Tryd.func24, Tryd.ntmps24
          go_wp2_with (go_at_call 36; refine (refRight_any _ _).mono ?_; rintro e w' ⟨rfl, rfl⟩; simp only [hr])
          go_ret3
          exact ⟨by rw [HV.out]; rfl, (by repeat (first | exact Below.refl _ _ | refine below_drewN ?_ _ | refine Below.drew ?_ | refine Below.alloc ?_ (by simp) _))⟩
      · have hb : badF 2 g = 1 := by unfold badF; rw [if_pos (by omega), if_neg (fun h => hr h.1)]
        replace hr : rightB g = false := by simpa using hr
        have HV := Lib.hid (refGroupsV_bad (k := 2) (g := g) (n := 1) hb (by decide))
        go_enter Tryd.func24, Tryd.ntmps24
        go_wp2_with (go_at_call 36; refine (refRight_any _ _).mono ?_; rintro e w' ⟨rfl, rfl⟩; simp only [hr])
        go_ret3
        exact ⟨by rw [HV.out]; rfl, (by repeat (first | exact Below.refl _ _ | refine below_drewN ?_ _ | refine Below.drew ?_ | refine Below.alloc ?_ (by simp) _))⟩
    · by_cases k3 : k = 3
      · subst k3
        by_cases hr : rightB g = true
        · have hgb := right_bd' hr
          have HV := Lib.hid ((refGroupsV_ok (badF_of (k := 3) (by omega) hr (by omega))).trans (show _ = Value.tuple #[.int .i64 (g), .int .i64 2, .int .i64 0] from rfl))
          go_enter Tryd.func24, Tryd.ntmps24
          go_wp2_with (go_at_call 36; refine (refRight_any _ _).mono ?_; rintro e w' ⟨rfl, rfl⟩; simp only [hr])
          go_region
          all_goals go_wp2
          all_goals go_ret3
          all_goals exact ⟨by rw [HV.out]; rfl, (by repeat (first | exact Below.refl _ _ | refine below_drewN ?_ _ | refine Below.drew ?_ | refine Below.alloc ?_ (by simp) _))⟩
        · have hb : badF 3 g = 1 := by unfold badF; rw [if_pos (by omega), if_neg (fun h => hr h.1)]
          replace hr : rightB g = false := by simpa using hr
          have HV := Lib.hid (refGroupsV_bad (k := 3) (g := g) (n := 1) hb (by decide))
          go_enter Tryd.func24, Tryd.ntmps24
          go_wp2_with (go_at_call 36; refine (refRight_any _ _).mono ?_; rintro e w' ⟨rfl, rfl⟩; simp only [hr])
          go_ret3
          exact ⟨by rw [HV.out]; rfl, (by repeat (first | exact Below.refl _ _ | refine below_drewN ?_ _ | refine Below.drew ?_ | refine Below.alloc ?_ (by simp) _))⟩
      · have HV := Lib.hid (refGroupsV_bad (k := k) (g := g) (n := 14) (by unfold badF; rw [if_neg (by omega)]) (by decide))
        by_cases k0 : k < 1
        · have kx := k0
          go_enter Tryd.func24, Tryd.ntmps24
          go_wp2
          go_ret3
          exact ⟨by rw [HV.out]; rfl, (by repeat (first | exact Below.refl _ _ | refine below_drewN ?_ _ | refine Below.drew ?_ | refine Below.alloc ?_ (by simp) _))⟩
        · have kx : 3 < k := by omega
          go_enter Tryd.func24, Tryd.ntmps24
          go_wp2
          go_ret3
          exact ⟨by rw [HV.out]; rfl, (by repeat (first | exact Below.refl _ _ | refine below_drewN ?_ _ | refine Below.drew ?_ | refine Below.alloc ?_ (by simp) _))⟩
end Go.Proofs.YtplimhllfbdocaaDoor
