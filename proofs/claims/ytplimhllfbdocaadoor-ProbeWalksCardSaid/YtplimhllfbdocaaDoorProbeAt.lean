/- probe.At, Home, and the document's At and Order. Condition: the error ErrRange. -/
import Derived.Test.YtplimhllfbdocaaDoorProbeOrder
import Derived.Test.YtplimhllfbdocaaDoorRefRight
import Derived.Test.YtplimhllfbdocaaDoorOwn
import Derived.Test.YtplimhllfbdocaaDoorErrCells
import Derived.Test.YtplimhllfbdocaaDoorSeq
namespace Go.Proofs.YtplimhllfbdocaaDoor
set_option linter.unusedVariables false
set_option linter.unusedSimpArgs false
open Go.RowKit Go.Proofs

/-- the sum of the numbers below k -/
def triT : Nat → Nat
  | 0 => 0
  | k + 1 => triT k + k
theorem triT_two (k : Nat) : 2 * triT k = k * (k - 1) := by
  induction k with
  | zero => rfl
  | succ k ih =>
    have h : triT (k + 1) = triT k + k := rfl
    rw [h, Nat.mul_add, ih]
    cases k with
    | zero => rfl
    | succ j => simp only [Nat.add_sub_cancel, Nat.add_mul, Nat.mul_add]; omega
theorem triT_half (i : Nat) : triT (i + 1) = i * (i + 1) / 2 := by
  have h := triT_two (i + 1)
  rw [Nat.add_sub_cancel, Nat.mul_comm (i + 1) i] at h
  omega
theorem triT_le (k : Nat) (h : k ≤ 65) : triT k ≤ 65 * k := by
  induction k with
  | zero => exact Nat.le_refl _
  | succ k ih => have := ih (by omega); show triT k + k ≤ 65 * (k + 1); omega

set_option maxHeartbeats 1000000 in
theorem at_ok (h g i : Nat) (hr : rightB (g : Int) = true) (hh : h < 18446744073709551616) (hi : i < g) (w : World) :
    Calls Tryd.prog 32 #[.int .u64 (h : Int), .int .i64 (g : Int), .int .i64 (i : Int)] w fun e w' => e = .returned (.tuple #[.int .i64 ((walkAt h g i : Nat) : Int), .nilIface]) ∧ w = w' := by
  have hgb := right_bd hr
  have HM := home_any h g hr hh
  have hX : h % g < g := Nat.mod_lt _ (by omega)
  have hle : i * (i + 1) ≤ 63 * 64 := Nat.mul_le_mul (by omega) (by omega)
  have hmul : (i : Int) * ((i : Int) + 1) = ((i * (i + 1) : Nat) : Int) := by push_cast; rfl
  have hmask := mask_i64 (h % g + i * (i + 1) / 2) g hr (by omega)
  have hval : (h % g + i * (i + 1) / 2) % g = walkAt h g i := by unfold walkAt; rw [Nat.mod_add_mod]
  rw [hval] at hmask
  generalize walkAt h g i = y at *
  generalize i * (i + 1) = M at *
  generalize h % g = X at *
  have hmask' : bits .and .i64 ((X : Int) + (M : Int) / 2) ((g : Int) - 1) = (y : Int) := by rw [← hmask]; congr 1
  replace HM := Lib.hid HM
  have HR := Lib.hid hr
  have RT := fun w => right_any (g : Int) w
  rw [hr] at RT
  replace RT := Lib.hid RT
  clear hr hmask hval
  go_enter Tryd.func32, Tryd.ntmps32
  go_wp2_with (first
    | (go_at_call 35; refine (RT.out _).mono ?_; rintro e w' ⟨rfl, rfl⟩)
    | (go_at_call 109; refine (HM.out _).mono ?_; rintro e w' ⟨rfl, rfl⟩))
  go_ret2
  exact ⟨rfl, rfl⟩
set_option maxHeartbeats 1000000 in
theorem at_bad (h n i : Int) (hb : rightB n = false ∨ i < 0 ∨ n ≤ i) (w : World) (E : Nat → Addr) (he : EC w E [1]) :
    Calls Tryd.prog 32 #[.int .u64 h, .int .i64 n, .int .i64 i] w fun e w' => e = .returned (.tuple #[.int .i64 0, errAt E 1]) ∧ Below w.heap.size w w' := by
  have hc : w.cell? ⟨3, 0, none⟩ = some (errAt E 1) := he 1 (by decide)
  unfold errAt at *
  clear he
  have RT := fun w => right_any n w
  by_cases hr : rightB n = true
  · rw [hr] at RT hb
    replace RT := Lib.hid RT
    clear hr
    by_cases h0 : i < 0
    · have d0 : decide (i < 0) = true := by simpa using h0
      clear hb
      go_enter Tryd.func32, Tryd.ntmps32
      go_wp2_with (first | (go_at_call 35; refine (RT.out _).mono ?_; rintro e w' ⟨rfl, rfl⟩))
      refine wp_region_seq (fun _ => False) #[⟨0, 0, 1048576, 0, 1⟩, ⟨0, 0, 64, 0, 0⟩, ⟨3, 3, 128, 1048576, 0⟩] 1 [(0, 1), (1, 0), (2, 0)] (by kernel_rfl) (by kernel_rfl) (by kernel_rfl) (by kernel_rfl) (by kernel_rfl) (by kernel_rfl) (fun c a d v w h => by cases d <;> exact h) ?_
      refine seq_load1 (by simp only [List.getElem?_toArray, List.getElem?_cons_succ, List.getElem?_cons_zero]; rfl) (by rfl) rfl rfl Tryd.underlying25 rfl (by go_simp <;> with_reducible rfl) (by first | exact id | assumption | (simp; done) | (simp; omega)) ?_
      try simp only [Act.put, List.setIfInBounds_toArray, List.set_cons_zero, List.set_cons_succ]
      refine seq_calc (by simp only [List.getElem?_toArray, List.getElem?_cons_succ, List.getElem?_cons_zero]; rfl) (by rfl) (fun u => by go_simp <;> with_reducible rfl) ?_
      try simp only [Act.put, List.setIfInBounds_toArray, List.set_cons_zero, List.set_cons_succ]
      refine seq_calc (by simp only [List.getElem?_toArray, List.getElem?_cons_succ, List.getElem?_cons_zero]; rfl) (by rfl) (fun u => by go_simp <;> with_reducible rfl) ?_
      try simp only [Act.put, List.setIfInBounds_toArray, List.set_cons_zero, List.set_cons_succ]
      refine seq_nil ?_
      go_wp2
      go_ret2
      exact ⟨rfl, by go_grown⟩
    · have d0 : decide (i < 0) = false := by simpa using h0
      have d1 : n ≤ i := by rcases hb with hb | hb | hb; cases hb; omega; exact hb
      have d2 : decide (i ≥ n) = true := by simpa using d1
      clear hb
      go_enter Tryd.func32, Tryd.ntmps32
      go_wp2_with (first | (go_at_call 35; refine (RT.out _).mono ?_; rintro e w' ⟨rfl, rfl⟩))
      refine wp_region_seq (fun _ => False) #[⟨0, 0, 1048576, 0, 1⟩, ⟨0, 0, 64, 0, 0⟩, ⟨3, 3, 128, 1048576, 0⟩] 1 [(0, 1), (1, 0), (2, 0)] (by kernel_rfl) (by kernel_rfl) (by kernel_rfl) (by kernel_rfl) (by kernel_rfl) (by kernel_rfl) (fun c a d v w h => by cases d <;> exact h) ?_
      refine seq_load1 (by simp only [List.getElem?_toArray, List.getElem?_cons_succ, List.getElem?_cons_zero]; rfl) (by rfl) rfl rfl Tryd.underlying25 rfl (by go_simp <;> with_reducible rfl) (by first | exact id | assumption | (simp; done) | (simp; omega)) ?_
      try simp only [Act.put, List.setIfInBounds_toArray, List.set_cons_zero, List.set_cons_succ]
      refine seq_calc (by simp only [List.getElem?_toArray, List.getElem?_cons_succ, List.getElem?_cons_zero]; rfl) (by rfl) (fun u => by go_simp <;> with_reducible rfl) ?_
      try simp only [Act.put, List.setIfInBounds_toArray, List.set_cons_zero, List.set_cons_succ]
      refine seq_calc (by simp only [List.getElem?_toArray, List.getElem?_cons_succ, List.getElem?_cons_zero]; rfl) (by rfl) (fun u => by go_simp <;> with_reducible rfl) ?_
      try simp only [Act.put, List.setIfInBounds_toArray, List.set_cons_zero, List.set_cons_succ]
      refine seq_nil ?_
      go_wp2
      go_ret2
      exact ⟨rfl, by go_grown⟩
  · rw [show rightB n = false by simpa using hr] at RT
    replace RT := Lib.hid RT
    clear hr hb
    go_enter Tryd.func32, Tryd.ntmps32
    go_wp2_with (first | (go_at_call 35; refine (RT.out _).mono ?_; rintro e w' ⟨rfl, rfl⟩))
    refine wp_region_seq (fun _ => False) #[⟨0, 0, 1048576, 0, 1⟩, ⟨0, 0, 64, 0, 0⟩, ⟨3, 3, 128, 1048576, 0⟩] 1 [(0, 1), (1, 0), (2, 0)] (by kernel_rfl) (by kernel_rfl) (by kernel_rfl) (by kernel_rfl) (by kernel_rfl) (by kernel_rfl) (fun c a d v w h => by cases d <;> exact h) ?_
    refine seq_load1 (by simp only [List.getElem?_toArray, List.getElem?_cons_succ, List.getElem?_cons_zero]; rfl) (by rfl) rfl rfl Tryd.underlying25 rfl (by go_simp <;> with_reducible rfl) (by first | exact id | assumption | (simp; done) | (simp; omega)) ?_
    try simp only [Act.put, List.setIfInBounds_toArray, List.set_cons_zero, List.set_cons_succ]
    refine seq_calc (by simp only [List.getElem?_toArray, List.getElem?_cons_succ, List.getElem?_cons_zero]; rfl) (by rfl) (fun u => by go_simp <;> with_reducible rfl) ?_
    try simp only [Act.put, List.setIfInBounds_toArray, List.set_cons_zero, List.set_cons_succ]
    refine seq_calc (by simp only [List.getElem?_toArray, List.getElem?_cons_succ, List.getElem?_cons_zero]; rfl) (by rfl) (fun u => by go_simp <;> with_reducible rfl) ?_
    try simp only [Act.put, List.setIfInBounds_toArray, List.set_cons_zero, List.set_cons_succ]
    refine seq_nil ?_
    go_wp2
    go_ret2
    exact ⟨rfl, by go_grown⟩
set_option maxHeartbeats 1000000 in
theorem homeE_ok (h g : Nat) (hr : rightB (g : Int) = true) (hh : h < 18446744073709551616) (w : World) :
    Calls Tryd.prog 34 #[.int .u64 (h : Int), .int .i64 (g : Int)] w fun e w' => e = .returned (.tuple #[.int .i64 ((walkAt h g 0 : Nat) : Int), .nilIface]) ∧ w = w' := by
  have HM := home_any h g hr hh
  rw [walkAt_zero]
  generalize h % g = X at *
  replace HM := Lib.hid HM
  have RT := fun w => right_any (g : Int) w
  rw [hr] at RT
  replace RT := Lib.hid RT
  clear hr
  go_enter Tryd.func34, Tryd.ntmps34
  go_wp2_with (first
    | (go_at_call 35; refine (RT.out _).mono ?_; rintro e w' ⟨rfl, rfl⟩)
    | (go_at_call 109; refine (HM.out _).mono ?_; rintro e w' ⟨rfl, rfl⟩))
  go_ret2
  exact ⟨rfl, rfl⟩
set_option maxHeartbeats 1000000 in
theorem homeE_bad (h n : Int) (hr : rightB n = false) (w : World) (E : Nat → Addr) (he : EC w E [1]) :
    Calls Tryd.prog 34 #[.int .u64 h, .int .i64 n] w fun e w' => e = .returned (.tuple #[.int .i64 0, errAt E 1]) ∧ Below w.heap.size w w' := by
  have hc : w.cell? ⟨3, 0, none⟩ = some (errAt E 1) := he 1 (by decide)
  unfold errAt at *
  clear he
  have RT := fun w => right_any n w
  rw [hr] at RT
  replace RT := Lib.hid RT
  clear hr
  go_enter Tryd.func34, Tryd.ntmps34
  go_wp2_with (first | (go_at_call 35; refine (RT.out _).mono ?_; rintro e w' ⟨rfl, rfl⟩))
  refine wp_region_seq (fun _ => False) #[⟨0, 0, 512, 0, 1⟩, ⟨0, 0, 16, 0, 0⟩, ⟨3, 3, 32, 512, 0⟩] 1 [(0, 1), (1, 0), (2, 0)] (by kernel_rfl) (by kernel_rfl) (by kernel_rfl) (by kernel_rfl) (by kernel_rfl) (by kernel_rfl) (fun c a d v w h => by cases d <;> exact h) ?_
  refine seq_load1 (by simp only [List.getElem?_toArray, List.getElem?_cons_succ, List.getElem?_cons_zero]; rfl) (by rfl) rfl rfl Tryd.underlying25 rfl (by go_simp <;> with_reducible rfl) (by first | exact id | assumption | (simp; done) | (simp; omega)) ?_
  try simp only [Act.put, List.setIfInBounds_toArray, List.set_cons_zero, List.set_cons_succ]
  refine seq_calc (by simp only [List.getElem?_toArray, List.getElem?_cons_succ, List.getElem?_cons_zero]; rfl) (by rfl) (fun u => by go_simp <;> with_reducible rfl) ?_
  try simp only [Act.put, List.setIfInBounds_toArray, List.set_cons_zero, List.set_cons_succ]
  refine seq_calc (by simp only [List.getElem?_toArray, List.getElem?_cons_succ, List.getElem?_cons_zero]; rfl) (by rfl) (fun u => by go_simp <;> with_reducible rfl) ?_
  try simp only [Act.put, List.setIfInBounds_toArray, List.set_cons_zero, List.set_cons_succ]
  refine seq_nil ?_
  go_wp2
  go_ret2
  exact ⟨rfl, by go_grown⟩
set_option maxHeartbeats 1000000 in
theorem refAt_ok (h g i : Nat) (hr : rightB (g : Int) = true) (hh : h < 18446744073709551616) (hi : i < g) (w : World) :
    Calls Tryd.prog 33 #[.int .u64 (h : Int), .int .i64 (g : Int), .int .i64 (i : Int)] w fun e w' => e = .returned (.tuple #[.int .i64 ((walkAt h g i : Nat) : Int), .int .i64 0]) ∧ w = w' := by
  have hgb := right_bd hr
  have hX : h % g < g := Nat.mod_lt _ (by omega)
  have hval : (h % g + triT (i + 1)) % g = walkAt h g i := by unfold walkAt; rw [triT_half, Nat.mod_add_mod]
  have hmod : (h : Int) % (g : Int) = ((h % g : Nat) : Int) := by omega
  generalize walkAt h g i = y at *
  generalize h % g = X at *
  have HV := Lib.hid hval
  have RT := fun w => refRight_any (g : Int) w
  rw [hr] at RT
  replace RT := Lib.hid RT
  clear hr hval
  have T0 : (X : Int) = ((X + triT 0 : Nat) : Int) := by simp [triT]
  replace T0 := Lib.hid T0
  go_enter Tryd.func33, Tryd.ntmps33
  go_wp2_with (first | (go_at_call 36; refine (RT.out _).mono ?_; rintro e w' ⟨rfl, rfl⟩))
  go_loop [8, 9] (fun v8 v9 => ∃ k : Nat, k ≤ i + 1 ∧ v9 = .int .i64 (k : Int) ∧ v8 = .int .u64 ((X + triT k : Nat) : Int)) (fun _ v9 => i + 1 - (intOf v9).toNat)
  case atStart => exact ⟨0, by omega, rfl, by rw [← T0.out, hmod]⟩
  case round =>
    obtain ⟨k, hk, rfl, rfl⟩ := hrel
    by_cases hlt : k < i + 1
    · have hle : (k : Int) ≤ (i : Int) := by omega
      have ht := triT_le k (by omega)
      have hs : ((X + triT k : Nat) : Int) + (k : Int) = ((X + triT (k + 1) : Nat) : Int) := by show _ = ((X + (triT k + k) : Nat) : Int); omega
      have HS := Lib.hid hs
      clear hs
      have hS : X + triT k ≤ 65 * 65 + 64 := by omega
      generalize X + triT k = S at *
      go_wp2
      go_round
      case rel => exact ⟨k + 1, by omega, by go_num, by rw [← HS.out]⟩
      case measure => simp [intOf]; omega
    · obtain rfl : k = i + 1 := by omega
      have ht := triT_le (i + 1) (by omega)
      have hv : ((X + triT (i + 1) : Nat) : Int) % (g : Int) = (y : Int) := by rw [← HV.out]; omega
      have hy : y < g := by rw [← HV.out]; exact Nat.mod_lt _ (by omega)
      generalize X + triT (i + 1) = S at *
      go_wp2
      go_ret2
      exact ⟨rfl, rfl⟩
set_option maxHeartbeats 1000000 in
theorem refAt_bad (h n i : Int) (hb : rightB n = false ∨ i < 0 ∨ n ≤ i) (w : World) :
    Calls Tryd.prog 33 #[.int .u64 h, .int .i64 n, .int .i64 i] w fun e w' => e = .returned (.tuple #[.int .i64 0, .int .i64 1]) ∧ w = w' := by
  have RT := fun w => refRight_any n w
  by_cases hr : rightB n = true
  · rw [hr] at RT hb
    replace RT := Lib.hid RT
    clear hr
    by_cases h0 : i < 0
    · have d0 : decide (i < 0) = true := by simpa using h0
      clear hb
      go_enter Tryd.func33, Tryd.ntmps33
      go_wp2_with (first | (go_at_call 36; refine (RT.out _).mono ?_; rintro e w' ⟨rfl, rfl⟩))
      go_ret2
      exact ⟨rfl, rfl⟩
    · have d0 : decide (i < 0) = false := by simpa using h0
      have d1 : n ≤ i := by rcases hb with hb | hb | hb; cases hb; omega; exact hb
      have d2 : decide (i ≥ n) = true := by simpa using d1
      clear hb
      go_enter Tryd.func33, Tryd.ntmps33
      go_wp2_with (first | (go_at_call 36; refine (RT.out _).mono ?_; rintro e w' ⟨rfl, rfl⟩))
      go_ret2
      exact ⟨rfl, rfl⟩
  · rw [show rightB n = false by simpa using hr] at RT
    replace RT := Lib.hid RT
    clear hr hb
    go_enter Tryd.func33, Tryd.ntmps33
    go_wp2_with (first | (go_at_call 36; refine (RT.out _).mono ?_; rintro e w' ⟨rfl, rfl⟩))
    go_ret2
    exact ⟨rfl, rfl⟩
set_option maxRecDepth 100000 in
set_option maxHeartbeats 2000000 in
/-- the document's Order, as what its list reads as -/
theorem refOrder_any (h : Nat) (n : Int) (hh : h < 18446744073709551616) (w : World) :
    Calls Tryd.prog 38 #[.int .u64 (h : Int), .int .i64 n] w fun e w' => ∃ v, e = .returned v ∧ w'.ownsRow w.heap.size 3 1 v (ordN n) ((ordL h n).map (Value.int .i64)) ∧ Below w.heap.size w w' := by
  obtain ⟨i0, hi, hz0, hz1, hz2⟩ := info_parts infoInt
  have RT := fun w => refRight_any n w
  rw [ordL_map]
  by_cases hr : rightB n = true
  · obtain ⟨g, rfl⟩ := Int.eq_ofNat_of_zero_le (show 0 ≤ n by rw [rightB_iff] at hr; omega)
    have hgb := right_bd hr
    have hN : ordN (g : Int) = g := by unfold ordN; rw [if_pos hr]; simp
    rw [hN, Int.toNat_natCast]
    have AT := Lib.hid (fun (i : Nat) (hi : i < g) (w : World) => refAt_ok h g i hr hh hi w)
    rw [hr] at RT
    replace RT := Lib.hid RT
    clear hr hN
    go_enter Tryd.func38, Tryd.ntmps38
    go_wp2
    have hb0 : Below w.heap.size w (w.alloc (.cells #[] 3)) := (Below.refl _ _).alloc (Nat.le_refl _) _
    go_loopw [5, 6, 7, 8] (fun v5 v6 _ _ wr => ∃ (k : Nat), k ≤ g ∧ v6 = .int .i64 (k : Int) ∧ wr.ownsRow w.heap.size 3 1 v5 k ((List.range k).map (encI (fun i => ((walkAt h g i : Nat) : Int)))) ∧ Below w.heap.size w wr) (fun _ v6 _ _ _ => g - (intOf v6).toNat)
    case atStart => exact ⟨0, Nat.zero_le _, rfl, by simpa using ownsRow_empty (Blk.new w _ _), hb0⟩
    case round =>
      obtain ⟨k, hk, rfl, hrow2, hbo⟩ := hrel
      clear hb0
      have HR2 := Lib.hid hrow2
      obtain ⟨a2', c2', rfl⟩ := ownsRow_slice hrow2
      have hzo := hbo.size
      have hsn := Lib.hid (encI_snoc (fun i => ((walkAt h g i : Nat) : Int)) k)
      clear hrow2
      by_cases hlt : k < g
      · have AK := Lib.hid (AT.out k hlt)
        generalize walkAt h g k = y at *
        go_wp2_with (first
          | (go_at_call 36; refine (RT.out _).mono ?_; rintro e w' ⟨rfl, rfl⟩)
          | (go_at_call 33; refine (AK.out _).mono ?_; rintro e w' ⟨rfl, rfl⟩)
          | (at_builtin; refine wpList_append_own _ rfl _ _ 52 rfl w.heap.size 3 i0 (.int .i64 0) 1 8 Tryd.underlying52 hi hz0 hz1 hz2 rfl (by decide) _ _ _ rfl (HR2.out.alloc _) ⟨wr.heap.size, 0, none⟩ 1 1 [.int .i64 (y : Int)] rfl rfl (cell_one_new _ _ _) (by simp [Value.oneCell']) (by unfold maxLen; omega) (by omega) (by simp; omega) ?_; intro v' w4 hown4 hgrow4 _; have hb4 := below_append HR2.out hzo hgrow4; clear hgrow4; replace hown4 := Lib.hid hown4))
        go_roundw
        case rel => exact ⟨k + 1, by omega, by go_num, by rw [hsn.out]; simpa using hown4.out, hbo.trans hb4⟩
        case measure => simp [intOf]; omega
      · obtain rfl : k = g := by omega
        go_wp2_with (first
          | (go_at_call 36; refine (RT.out _).mono ?_; rintro e w' ⟨rfl, rfl⟩))
        go_ret
        exact ⟨_, rfl, HR2.out, hbo⟩
  · have hN : ordN n = 0 := by unfold ordN; rw [if_neg hr]
    rw [hN]
    rw [show rightB n = false by simpa using hr] at RT
    replace RT := Lib.hid RT
    clear hr hN
    go_enter Tryd.func38, Tryd.ntmps38
    go_wp2
    refine wp_loop_rounds 1 ?_
    rw [rounds_succ]
    go_wp2_with (first
      | (go_at_call 36; refine (RT.out _).mono ?_; rintro e w' ⟨rfl, rfl⟩))
    go_ret
    exact ⟨_, rfl, by simpa using ownsRow_empty (Blk.new w _ _), (Below.refl _ _).alloc (Nat.le_refl _) _⟩
end Go.Proofs.YtplimhllfbdocaaDoor
