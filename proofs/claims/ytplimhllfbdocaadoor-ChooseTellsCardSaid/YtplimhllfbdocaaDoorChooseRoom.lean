/- The walks of Groups, Units. Condition: the two errors' cells. -/
import Derived.Test.YtplimhllfbdocaaDoorChoose
import Derived.Test.YtplimhllfbdocaaDoorChooseRoomPlain
import Derived.Deep.QuietTactic
import Derived.BigQuiet
import Derived.OwnWalk
namespace Go.Proofs.YtplimhllfbdocaaDoor
set_option linter.unusedVariables false
set_option linter.unusedSimpArgs false
open Go.RowKit Go.Proofs

/-- an error by its number -/
def errV (E : Nat → Addr) (n : Nat) : Value := if n = 0 then .nilIface else .iface 243 (.pointer (some (E n)))

/-- Groups' answer -/
def groupsV (E : Nat → Addr) (k g : Int) : Value := .tuple #[.int .i64 (if badF k g = 0 then eachF k g else 0), .int .i64 (if badF k g = 0 then manyF k else 0), errV E (badF k g)]
theorem groupsV_ok {E : Nat → Addr} {k g : Int} (h : badF k g = 0) : groupsV E k g = .tuple #[.int .i64 (eachF k g), .int .i64 (manyF k), .nilIface] := by
  unfold groupsV; rw [h]; rfl
theorem groupsV_bad {E : Nat → Addr} {k g : Int} {n : Nat} (h : badF k g = n) (hn : n ≠ 0) : groupsV E k g = .tuple #[.int .i64 0, .int .i64 0, .iface 243 (.pointer (some (E n)))] := by
  unfold groupsV errV; rw [h, if_neg hn, if_neg hn, if_neg hn]

set_option maxHeartbeats 1600000 in
theorem groups_any (k g : Int) (E : Nat → Addr) (w : World) (h1 : w.cell? ⟨3, 0, none⟩ = some (.iface 243 (.pointer (some (E 1))))) (h14 : w.cell? ⟨0, 0, none⟩ = some (.iface 243 (.pointer (some (E 14))))) :
    Calls Tryd.prog 23 #[.int .i64 k, .int .i64 g] w fun e w' => e = .returned (groupsV E k g) ∧ ∃ m, w' = w.drewN m := by
  by_cases k1 : k = 1
  · subst k1
    by_cases hr : rightB g = true
    · have HV := Lib.hid ((groupsV_ok (E := E) (badF_of (k := 1) (by omega) hr (by omega))).trans (show _ = Value.tuple #[.int .i64 (g), .int .i64 1, .nilIface] from rfl))
      have hq := hr
      go_enter Tryd.func23, Tryd.ntmps23
      go_wp2_with (go_at_call 35; refine (right_any _ _).mono ?_; rintro e w' ⟨rfl, rfl⟩; simp only [hr, hq])
      go_ret3
      exact ⟨by rw [HV.out]; rfl, 0, rfl⟩
    · have HV := Lib.hid (groupsV_bad (E := E) (k := 1) (g := g) (n := 1) (by unfold badF; rw [if_pos (by omega), if_neg (fun h => hr h.1)]) (by decide))
      replace hr : rightB g = false := by simpa using hr
      have hq := hr
      go_enter Tryd.func23, Tryd.ntmps23
      go_wp2_with (go_at_call 35; refine (right_any _ _).mono ?_; rintro e w' ⟨rfl, rfl⟩; simp only [hr, hq])
      go_quiet (fail)
      go_wp2
      go_ret3
      exact ⟨by rw [HV.out]; rfl, nq, rfl⟩
  · by_cases k2 : k = 2
    · subst k2
      by_cases hr : rightB g = true
      · have hgb := right_bd' hr
        by_cases h64 : g < 64
        · have HV := Lib.hid ((groupsV_ok (E := E) (badF_of (k := 2) (by omega) hr (fun _ => h64))).trans (show _ = Value.tuple #[.int .i64 (2 * g), .int .i64 1, .nilIface] from rfl))
          have hq := right_twice hr h64
          go_enter Tryd.func23, Tryd.ntmps23
          go_wp2_with (go_at_call 35; refine (right_any _ _).mono ?_; rintro e w' ⟨rfl, rfl⟩; simp only [hr, hq])
          go_ret3
          exact ⟨by rw [HV.out]; rfl, 0, rfl⟩
        · have hq : rightB (2 * g) = false := by rw [Bool.eq_false_iff, ne_eq, rightB_iff]; omega
          have HV := Lib.hid (groupsV_bad (E := E) (k := 2) (g := g) (n := 1) (by unfold badF eachF; rw [if_pos (by omega), if_neg (fun h => by rw [if_pos rfl, hq] at h; exact absurd h.2 (by decide))]) (by decide))
          go_enter Tryd.func23, Tryd.ntmps23
          go_wp2_with (go_at_call 35; refine (right_any _ _).mono ?_; rintro e w' ⟨rfl, rfl⟩; simp only [hr, hq])
          go_quiet (fail)
          go_wp2
          go_ret3
          exact ⟨by rw [HV.out]; rfl, nq, rfl⟩
      · have HV := Lib.hid (groupsV_bad (E := E) (k := 2) (g := g) (n := 1) (by unfold badF; rw [if_pos (by omega), if_neg (fun h => hr h.1)]) (by decide))
        replace hr : rightB g = false := by simpa using hr
        have hq := hr
        have hwr := IntWalk.i64_left (2 * g)
        go_enter Tryd.func23, Tryd.ntmps23
        go_wp2_with (go_at_call 35; refine (right_any _ _).mono ?_; rintro e w' ⟨rfl, rfl⟩; simp only [hr, hq])
        go_quiet (fail)
        go_wp2
        go_ret3
        exact ⟨by rw [HV.out]; rfl, nq, rfl⟩
    · by_cases k3 : k = 3
      · subst k3
        by_cases hr : rightB g = true
        · have HV := Lib.hid ((groupsV_ok (E := E) (badF_of (k := 3) (by omega) hr (by omega))).trans (show _ = Value.tuple #[.int .i64 (g), .int .i64 2, .nilIface] from rfl))
          have hq := hr
          go_enter Tryd.func23, Tryd.ntmps23
          go_wp2_with (go_at_call 35; refine (right_any _ _).mono ?_; rintro e w' ⟨rfl, rfl⟩; simp only [hr, hq])
          go_ret3
          exact ⟨by rw [HV.out]; rfl, 0, rfl⟩
        · have HV := Lib.hid (groupsV_bad (E := E) (k := 3) (g := g) (n := 1) (by unfold badF; rw [if_pos (by omega), if_neg (fun h => hr h.1)]) (by decide))
          replace hr : rightB g = false := by simpa using hr
          have hq := hr
          go_enter Tryd.func23, Tryd.ntmps23
          go_wp2_with (go_at_call 35; refine (right_any _ _).mono ?_; rintro e w' ⟨rfl, rfl⟩; simp only [hr, hq])
          go_quiet (fail)
          go_wp2
          go_ret3
          exact ⟨by rw [HV.out]; rfl, nq, rfl⟩
      · have HV := Lib.hid (groupsV_bad (E := E) (k := k) (g := g) (n := 14) (by unfold badF; rw [if_neg (by omega)]) (by decide))
        have hr : (1 : Nat) = 1 := rfl
        have hq := hr
        go_enter Tryd.func23, Tryd.ntmps23
        go_wp2
        go_quiet (fail)
        go_wp2
        go_ret3
        exact ⟨by rw [HV.out]; rfl, nq, rfl⟩

set_option maxHeartbeats 1600000 in
theorem units_any (k g : Int) (E : Nat → Addr) (w : World) (h1 : w.cell? ⟨3, 0, none⟩ = some (.iface 243 (.pointer (some (E 1))))) (h14 : w.cell? ⟨0, 0, none⟩ = some (.iface 243 (.pointer (some (E 14))))) :
    Calls Tryd.prog 29 #[.int .i64 k, .int .i64 g] w fun e w' => e = .returned (.int .i64 (unitsF k g)) ∧ ∃ m, w' = w.drewN m := by
  have gr := groups_any k g E w h1 h14
  rcases badF_or k g with hb | hb | hb
  · have hz := badF_zero hb
    have hg := right_bd' hz.2.1
    rw [groupsV_ok hb] at gr
    have HU := Lib.hid (show unitsF k g = eachF k g * manyF k + g by unfold unitsF; rw [if_pos hb])
    obtain ⟨hk, _, _⟩ := hz
    clear hb
    rcases hk with rfl | rfl | rfl
    · rw [show eachF 1 g = g from rfl, show manyF 1 = 1 from rfl] at gr HU
      go_enter Tryd.func29, Tryd.ntmps29
      go_wp2_with (go_at_call 23; refine gr.mono ?_; rintro e w' ⟨rfl, m, rfl⟩)
      go_ret
      exact ⟨by rw [HU.out]; simp, _, rfl⟩
    · rw [show eachF 2 g = 2 * g from rfl, show manyF 2 = 1 from rfl] at gr HU
      go_enter Tryd.func29, Tryd.ntmps29
      go_wp2_with (go_at_call 23; refine gr.mono ?_; rintro e w' ⟨rfl, m, rfl⟩)
      go_ret
      exact ⟨by rw [HU.out]; simp, _, rfl⟩
    · rw [show eachF 3 g = g from rfl, show manyF 3 = 2 from rfl] at gr HU
      go_enter Tryd.func29, Tryd.ntmps29
      go_wp2_with (go_at_call 23; refine gr.mono ?_; rintro e w' ⟨rfl, m, rfl⟩)
      go_ret
      exact ⟨by rw [HU.out]; simp, _, rfl⟩
  · rw [groupsV_bad hb (by decide)] at gr
    have HU := Lib.hid (show unitsF k g = 0 by unfold unitsF; rw [hb]; rfl)
    clear hb
    go_enter Tryd.func29, Tryd.ntmps29
    go_wp2_with (go_at_call 23; refine gr.mono ?_; rintro e w' ⟨rfl, m, rfl⟩)
    go_ret
    exact ⟨by rw [HU.out]; rfl, _, rfl⟩
  · rw [groupsV_bad hb (by decide)] at gr
    have HU := Lib.hid (show unitsF k g = 0 by unfold unitsF; rw [hb]; rfl)
    clear hb
    go_enter Tryd.func29, Tryd.ntmps29
    go_wp2_with (go_at_call 23; refine gr.mono ?_; rintro e w' ⟨rfl, m, rfl⟩)
    go_ret
    exact ⟨by rw [HU.out]; rfl, _, rfl⟩

end Go.Proofs.YtplimhllfbdocaaDoor
