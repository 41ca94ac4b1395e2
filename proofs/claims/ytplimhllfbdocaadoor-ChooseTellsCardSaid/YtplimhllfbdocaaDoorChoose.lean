/- The walks of package choose. No condition but the texts of Word. -/
import Derived.Test.YtplimhllfbdocaaDoorProg
import Derived.Test.YtplimhllfbdocaaDoorChoosePlain
import Derived.Test.YtplimhllfbdocaaDoorProbeRight
namespace Go.Proofs.YtplimhllfbdocaaDoor
set_option linter.unusedVariables false
set_option linter.unusedSimpArgs false
open Go.RowKit Go.Proofs

/-- the least of two, kept from the walk's splitting -/
def mn (x y : Int) : Int := if y < x then y else x
theorem mn_nonneg (x y : Int) : 0 ≤ mn x y ↔ 0 ≤ x ∧ 0 ≤ y := by unfold mn; split <;> omega
theorem run_min4 {P : Program} (w : World) (ts : Array TypeId) (ty : TypeId) (k k' k'' k3 : IntKind) (x y z u : Int) :
    (Builtin.min_ ts ty #[.int k x, .int k' y, .int k'' z, .int k3 u]).run P w = .ok (.int k (mn (mn (mn x y) z) u)) w := by
  simp [Builtin.min_, Builtin.min2]; rfl
attribute [local go_sem] run_min4

set_option maxHeartbeats 800000 in
theorem fine_any (l t g lo gl : Int) (w : World) :
    Calls Tryd.prog 107 #[.int .i64 l, .int .i64 t, .int .i64 g, .int .i64 lo, .int .i64 gl] w fun e w' => e = .returned (.bool (fineB l t g lo gl)) ∧ w = w' := by
  by_cases hr : rightB g = true
  · by_cases hn : 0 ≤ l ∧ 0 ≤ t ∧ 0 ≤ lo ∧ 0 ≤ gl
    · have hf : fineB l t g lo gl = true := by rw [fineB_iff]; exact ⟨hr, hn⟩
      have HF := Lib.hid hf
      clear hf
      have hm : 0 ≤ mn (mn (mn l t) lo) gl := by simp only [mn_nonneg]; omega
      clear hn
      go_enter Tryd.func107, Tryd.ntmps107
      go_wp2_with (go_at_call 35; refine (right_any _ _).mono ?_; rintro e w' ⟨rfl, rfl⟩)
      go_ret
      exact ⟨by rw [HF.out]; simp <;> omega, rfl⟩
    · have hf : fineB l t g lo gl = false := by rw [Bool.eq_false_iff, ne_eq, fineB_iff]; exact fun h => hn h.2
      have HF := Lib.hid hf
      have hm : ¬ 0 ≤ mn (mn (mn l t) lo) gl := by simp only [mn_nonneg]; omega
      clear hf hn
      go_enter Tryd.func107, Tryd.ntmps107
      go_wp2_with (go_at_call 35; refine (right_any _ _).mono ?_; rintro e w' ⟨rfl, rfl⟩)
      go_ret
      exact ⟨by rw [HF.out]; simp <;> omega, rfl⟩
  · have hf : fineB l t g lo gl = false := by rw [Bool.eq_false_iff, ne_eq, fineB_iff]; exact fun h => hr h.1
    have HF := Lib.hid hf
    have hr' : rightB g = false := by simpa using hr
    clear hf
    go_enter Tryd.func107, Tryd.ntmps107
    go_wp2_with (go_at_call 35; refine (right_any _ _).mono ?_; rintro e w' ⟨rfl, rfl⟩)
    go_ret
    exact ⟨by rw [HF.out]; rfl, rfl⟩

set_option maxHeartbeats 400000 in
theorem needs_any (l t g : Int) (hg : 1 ≤ g ∧ g ≤ 64) (h0 : 0 ≤ l) (w : World) :
    Calls Tryd.prog 108 #[.int .i64 l, .int .i64 t, .int .i64 g] w fun e w' => e = .returned (.bool (needsB l t g)) ∧ w = w' := by
  by_cases h1 : 4 * g ≤ l
  · have hf : needsB l t g = true := by rw [needsB_iff]; exact .inl h1
    have HF := Lib.hid hf
    clear hf
    go_enter Tryd.func108, Tryd.ntmps108
    go_wp2
    go_ret
    exact ⟨by rw [HF.out]; simp <;> omega, rfl⟩
  · have hf : needsB l t g = decide (4 * g - l ≤ t) := by rw [Bool.eq_iff_iff, needsB_iff, decide_eq_true_iff]; omega
    have HF := Lib.hid hf
    clear hf
    go_enter Tryd.func108, Tryd.ntmps108
    go_wp2
    go_ret
    exact ⟨by rw [HF.out]; rfl, rfl⟩
theorem right_bd' {g : Int} (h : rightB g = true) : 1 ≤ g ∧ g ≤ 64 := by rw [rightB_iff] at h; omega

set_option maxHeartbeats 1600000 in
theorem which_any (l t g lo gl : Int) (w : World) :
    Calls Tryd.prog 25 #[.int .i64 l, .int .i64 t, .int .i64 g, .int .i64 lo, .int .i64 gl] w fun e w' => e = .returned (.int .i64 (whichF l t g lo gl)) ∧ w = w' := by
  have cf := fun w => fine_any l t g lo gl w
  by_cases hf : fineB l t g lo gl = true
  · have hF := (fineB_iff l t g lo gl).1 hf
    have hg := right_bd' hF.1
    have cn := fun w => needs_any l t g hg hF.2.1 w
    simp only [hf] at cf
    by_cases hn : needsB l t g = true
    · simp only [hn] at cn
      have hw : whichF l t g lo gl = (if l ≤ 2 * g then 1 else if 8 ≤ g ∧ lo < gl then 3 else if g < 64 then 2 else 1) := by unfold whichF; rw [if_pos ⟨hf, hn⟩]
      have h0 := hF.2.1
      have HW := Lib.hid hw
      clear hF hf hn hw
      go_enter Tryd.func25, Tryd.ntmps25
      go_wp2_with (first | (go_at_call 107; refine (cf _).mono ?_; rintro e w' ⟨rfl, rfl⟩) | (go_at_call 108; refine (cn _).mono ?_; rintro e w' ⟨rfl, rfl⟩))
      all_goals go_ret
      all_goals refine ⟨?_, rfl⟩
      all_goals rw [HW.out]
      all_goals (show Ending.returned (.int .i64 _) = _; congr 2; (repeat split) <;> omega)
    · have hn' : needsB l t g = false := by simpa using hn
      simp only [hn'] at cn
      have hw : whichF l t g lo gl = 0 := by unfold whichF; rw [if_neg (fun h => hn h.2)]
      have HW := Lib.hid hw
      clear hw hf hn hF
      go_enter Tryd.func25, Tryd.ntmps25
      go_wp2_with (first | (go_at_call 107; refine (cf _).mono ?_; rintro e w' ⟨rfl, rfl⟩) | (go_at_call 108; refine (cn _).mono ?_; rintro e w' ⟨rfl, rfl⟩))
      go_ret
      exact ⟨by rw [HW.out]; rfl, rfl⟩
  · have hf' : fineB l t g lo gl = false := by simpa using hf
    simp only [hf'] at cf
    have hw : whichF l t g lo gl = 0 := by unfold whichF; rw [if_neg (fun h => hf h.1)]
    have HW := Lib.hid hw
    clear hw hf
    go_enter Tryd.func25, Tryd.ntmps25
    go_wp2_with (go_at_call 107; refine (cf _).mono ?_; rintro e w' ⟨rfl, rfl⟩)
    go_ret
    exact ⟨by rw [HW.out]; rfl, rfl⟩

set_option maxHeartbeats 1600000 in
theorem double_any (l t g lo gl : Int) (w : World) :
    Calls Tryd.prog 27 #[.int .i64 l, .int .i64 t, .int .i64 g, .int .i64 lo, .int .i64 gl] w fun e w' => e = .returned (.bool (doubleB l t g lo gl)) ∧ w = w' := by
  have cf := fun w => fine_any l t g lo gl w
  by_cases hf : fineB l t g lo gl = true
  · have hF := (fineB_iff l t g lo gl).1 hf
    have hg := right_bd' hF.1
    have cn := fun w => needs_any l t g hg hF.2.1 w
    simp only [hf] at cf
    by_cases hn : needsB l t g = true
    · simp only [hn] at cn
      have hw : doubleB l t g lo gl = decide (2 * g < l ∧ 8 ≤ g ∧ lo = gl ∧ gl < 5) := by
        unfold doubleB; rw [Bool.eq_iff_iff, decide_eq_true_iff, decide_eq_true_iff]; exact ⟨fun h => h.2.2, fun h => ⟨hf, hn, h⟩⟩
      have h0 := hF.2.1
      have HW := Lib.hid hw
      clear hF hf hn hw
      go_enter Tryd.func27, Tryd.ntmps27
      go_wp2_with (first | (go_at_call 107; refine (cf _).mono ?_; rintro e w' ⟨rfl, rfl⟩) | (go_at_call 108; refine (cn _).mono ?_; rintro e w' ⟨rfl, rfl⟩))
      all_goals go_ret
      all_goals refine ⟨?_, rfl⟩
      all_goals rw [HW.out]
      all_goals (show Ending.returned (.bool _) = _; congr 2; first | (rw [Bool.eq_iff_iff]; simp; done) | (rw [Bool.eq_iff_iff]; simp; omega))
    · have hn' : needsB l t g = false := by simpa using hn
      simp only [hn'] at cn
      have hw : doubleB l t g lo gl = false := by unfold doubleB; exact decide_eq_false (fun h => hn h.2.1)
      have HW := Lib.hid hw
      clear hw hf hn hF
      go_enter Tryd.func27, Tryd.ntmps27
      go_wp2_with (first | (go_at_call 107; refine (cf _).mono ?_; rintro e w' ⟨rfl, rfl⟩) | (go_at_call 108; refine (cn _).mono ?_; rintro e w' ⟨rfl, rfl⟩))
      go_ret
      exact ⟨by rw [HW.out]; rfl, rfl⟩
  · have hf' : fineB l t g lo gl = false := by simpa using hf
    simp only [hf'] at cf
    have hw : doubleB l t g lo gl = false := by unfold doubleB; exact decide_eq_false (fun h => hf h.1)
    have HW := Lib.hid hw
    clear hw hf
    go_enter Tryd.func27, Tryd.ntmps27
    go_wp2_with (go_at_call 107; refine (cf _).mono ?_; rintro e w' ⟨rfl, rfl⟩)
    go_ret
    exact ⟨by rw [HW.out]; rfl, rfl⟩
/-- the words -/
def wordAt (i : Nat) : ByteArray := match i with | 0 => ⟨#[110, 111, 110, 101]⟩ | 1 => ⟨#[115, 119, 101, 101, 112]⟩ | 2 => ⟨#[103, 114, 111, 119]⟩ | _ => ⟨#[115, 112, 108, 105, 116]⟩
def Words (w : World) : Prop := ∀ i : Nat, i < 4 → w.cell? ⟨4, i, none⟩ = some (.string (wordAt i))

theorem Words.below {w w' : World} (h : Words w) (hb : Below w.heap.size w w') : Words w' := by
  intro i hi
  have c := h i hi
  have hlt : 4 < w.heap.size := World.block_lt_of_cell? _ _ c
  rw [hb.cell (p := ⟨4, i, none⟩) hlt]
  exact c

theorem word_in (k : Nat) (hk : k < 4) (w : World) (hw : Words w) :
    Calls Tryd.prog 30 #[.int .i64 (k : Int)] w fun e w' => e = .returned (.string (wordAt k)) ∧ w = w' := by
  have c := hw k hk
  have hk0 : (0 : Int) ≤ (k : Int) := by omega
  have hk3 : (k : Int) ≤ 3 := by omega
  go_enter Tryd.func30, Tryd.ntmps30
  go_wp2
  go_ret
  exact ⟨rfl, rfl⟩
theorem word_out (k : Int) (hk : k < 0 ∨ 3 < k) (w : World) :
    Calls Tryd.prog 30 #[.int .i64 k] w fun e w' => e = .returned (.string ByteArray.empty) ∧ w = w' := by
  go_enter Tryd.func30, Tryd.ntmps30
  go_wp2
  all_goals go_ret
  all_goals first | exact ⟨rfl, rfl⟩ | (exfalso; omega)

set_option maxHeartbeats 1600000 in
theorem alive14 (w : World) (hw : Words w) :
    Calls Tryd.prog 22 #[] w fun e w' => e = .returned (.bool true) ∧ w = w' := by
  have c1 : whichF 4 0 1 0 0 = 2 := by decide
  have c2 : whichF 2 2 1 0 0 = 1 := by decide
  have c3 := word_in 3 (by decide) w hw
  go_enter Tryd.func22, Tryd.ntmps22
  go_wp2_with (first | (go_at_call 25; refine (which_any _ _ _ _ _ _).mono ?_; rintro e w' ⟨rfl, rfl⟩; simp only [c1, c2]) | (go_at_call 30; refine c3.mono ?_; rintro e w' ⟨rfl, rfl⟩))
  go_ret
  exact ⟨by show Ending.returned (.bool ((wordAt 3).toList == [115, 112, 108, 105, 116])) = _; rw [show ((wordAt 3).toList == [115, 112, 108, 105, 116]) = true from by decide +kernel], rfl⟩
end Go.Proofs.YtplimhllfbdocaaDoor
