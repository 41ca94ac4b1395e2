/- Package ctrl. Condition: the errors' cells. -/
import Derived.Test.YtcmjddkljmfklaaDoorCtrlPlain
import Derived.Test.YtcmjddkljmfklaaDoorErrCells
import Derived.Test.YtcmjddkljmfklaaDoorSwarRef2
import Derived.Lib.SlBytesRow
namespace Go.Proofs.YtcmjddkljmfklaaDoor
set_option linter.unusedVariables false
set_option linter.unusedSimpArgs false
open Go.RowKit Go.Proofs

theorem control_any (b : Nat) (hb : b < 256) (w : World) :
    Calls Tryd.prog 129 #[.int .u8 (b : Int)] w fun e w' => e = .returned (.bool (ctrlB b)) ∧ w = w' := by
  by_cases h1 : b ≤ 128
  · have e1 : decide ((b : Int) ≤ 128) = true := by simp; omega
    have : ctrlB b = true := by unfold ctrlB; simp; omega
    rw [this]
    go_enter Tryd.func129, Tryd.ntmps129
    go_wp2
    go_ret
    exact ⟨rfl, rfl⟩
  · have e1 : decide ((b : Int) ≤ 128) = false := by simp; omega
    have : ctrlB b = ((b : Int) == 254) := by unfold ctrlB; rw [Bool.eq_iff_iff]; simp; omega
    rw [this]
    go_enter Tryd.func129, Tryd.ntmps129
    go_wp2
    go_ret
    exact ⟨rfl, rfl⟩
theorem cnew_any (w : World) : Calls Tryd.prog 85 #[] w fun e w' => e = .returned (.int .u64 ((rep 128 : Nat) : Int)) ∧ w = w' := by
  go_enter Tryd.func85, Tryd.ntmps85
  go_wp2_with (go_at_call 113; refine (repeat_any 128 (by decide) _).mono ?_; rintro e w' ⟨rfl, rfl⟩)
  go_ret
  exact ⟨rfl, rfl⟩
theorem cget_in (m i : Nat) (hm : m < 18446744073709551616) (hi : i < 8) (w : World) :
    Calls Tryd.prog 87 #[.int .u64 (m : Int), .int .i64 (i : Int)] w fun e w' => e = .returned (.int .u8 ((ln m i : Nat) : Int)) ∧ w = w' := by
  go_enter Tryd.func87, Tryd.ntmps87
  go_wp2_with (go_at_call 114; refine (lane_in m i hm hi _).mono ?_; rintro e w' ⟨rfl, rfl⟩)
  go_ret
  exact ⟨rfl, rfl⟩
theorem cget_out (m i : Int) (hi : i < 0 ∨ 8 ≤ i) (w : World) :
    Calls Tryd.prog 87 #[.int .u64 m, .int .i64 i] w fun e w' => e = .returned (.int .u8 0) ∧ w = w' := by
  go_enter Tryd.func87, Tryd.ntmps87
  go_wp2_with (go_at_call 114; refine (lane_out m i hi _).mono ?_; rintro e w' ⟨rfl, rfl⟩)
  go_ret
  exact ⟨rfl, rfl⟩
/-- a lane, or 0 -/
def getN (m : Nat) (i : Int) : Nat := if 0 ≤ i ∧ i < 8 then ln m i.toNat else 0
theorem cget_any (m : Nat) (i : Int) (hm : m < 18446744073709551616) (w : World) :
    Calls Tryd.prog 87 #[.int .u64 (m : Int), .int .i64 i] w fun e w' => e = .returned (.int .u8 ((getN m i : Nat) : Int)) ∧ w = w' := by
  unfold getN
  by_cases h : 0 ≤ i ∧ i < 8
  · obtain ⟨k, rfl⟩ : ∃ k : Nat, i = (k : Int) := ⟨i.toNat, by omega⟩
    rw [if_pos h]
    exact cget_in m k hm (by omega) w
  · rw [if_neg h]
    exact cget_out _ _ (by omega) w
theorem cset_ok (m i b : Nat) (hm : m < 18446744073709551616) (hi : i < 8) (hb : b < 256) (hc : ctrlB b = true) (w : World) :
    Calls Tryd.prog 115 #[.int .u64 (m : Int), .int .i64 (i : Int), .int .u8 (b : Int)] w fun e w' => e = .returned (.tuple #[.int .u64 ((setL m i b : Nat) : Int), .nilIface]) ∧ Below w.heap.size w w' := by
  have HC := control_any b hb
  rw [hc] at HC
  replace HC := Lib.hid HC
  have e1 : decide ((i : Int) < 0) = false := by simp
  have e2 : decide ((i : Int) ≥ 8) = false := by simp; omega
  clear hc
  go_enter Tryd.func115, Tryd.ntmps115
  go_wp2_with (first
    | (go_at_call 129; refine (HC.out _).mono ?_; rintro e w' ⟨rfl, rfl⟩)
    | (go_at_call 130; refine (with_in m i b hm hi hb _).mono ?_; rintro e w' ⟨rfl, rfl⟩))
  go_ret2
  exact ⟨rfl, below_drewN (Below.refl _ _) 1⟩
theorem cset_range (m b : Nat) (i : Int) (hi : i < 0 ∨ 8 ≤ i) (E : Nat → Addr) (w : World) (he : EC w E [1]) :
    Calls Tryd.prog 115 #[.int .u64 (m : Int), .int .i64 i, .int .u8 (b : Int)] w fun e w' => e = .returned (.tuple #[.int .u64 0, errAt E 1]) ∧ Below w.heap.size w w' := by
  have hc : w.cell? ⟨0, 0, none⟩ = some (errAt E 1) := he 1 (by decide)
  clear he
  by_cases h1 : i < 0
  · have e1 : decide (i < 0) = true := by simpa using h1
    clear hi h1
    go_enter Tryd.func115, Tryd.ntmps115
    go_wp2
    refine wp_region_seq (fun _ => False) #[⟨0, 0, 32768, 0, 1⟩, ⟨0, 0, 64, 0, 0⟩, ⟨3, 3, 128, 32768, 0⟩] 1 [(0, 1), (1, 0), (2, 0)] (by kernel_rfl) (by kernel_rfl) (by kernel_rfl) (by kernel_rfl) (by kernel_rfl) (by kernel_rfl) (fun c a d v w h => by cases d <;> exact h) ?_
    refine seq_load1 (by simp only [List.getElem?_toArray, List.getElem?_cons_succ, List.getElem?_cons_zero]; rfl) (by rfl) rfl rfl Tryd.underlying25 rfl (by go_simp <;> with_reducible rfl) (by first | exact id | assumption | (simp; done) | (simp; omega)) ?_
    try simp only [Act.put, List.setIfInBounds_toArray, List.set_cons_zero, List.set_cons_succ]
    refine seq_calc (by simp only [List.getElem?_toArray, List.getElem?_cons_succ, List.getElem?_cons_zero]; rfl) (by rfl) (fun u => by go_simp <;> with_reducible rfl) ?_
    try simp only [Act.put, List.setIfInBounds_toArray, List.set_cons_zero, List.set_cons_succ]
    refine seq_calc (by simp only [List.getElem?_toArray, List.getElem?_cons_succ, List.getElem?_cons_zero]; rfl) (by rfl) (fun u => by go_simp <;> with_reducible rfl) ?_
    try simp only [Act.put, List.setIfInBounds_toArray, List.set_cons_zero, List.set_cons_succ]
    refine seq_nil ?_
    go_wp2
    go_ret2
    exact ⟨rfl, (Below.refl _ _).drew⟩
  · have e1 : decide (i < 0) = false := by simpa using h1
    have e2 : decide (i ≥ 8) = true := by simp; omega
    clear hi h1
    go_enter Tryd.func115, Tryd.ntmps115
    go_wp2
    refine wp_region_seq (fun _ => False) #[⟨0, 0, 32768, 0, 1⟩, ⟨0, 0, 64, 0, 0⟩, ⟨3, 3, 128, 32768, 0⟩] 1 [(0, 1), (1, 0), (2, 0)] (by kernel_rfl) (by kernel_rfl) (by kernel_rfl) (by kernel_rfl) (by kernel_rfl) (by kernel_rfl) (fun c a d v w h => by cases d <;> exact h) ?_
    refine seq_load1 (by simp only [List.getElem?_toArray, List.getElem?_cons_succ, List.getElem?_cons_zero]; rfl) (by rfl) rfl rfl Tryd.underlying25 rfl (by go_simp <;> with_reducible rfl) (by first | exact id | assumption | (simp; done) | (simp; omega)) ?_
    try simp only [Act.put, List.setIfInBounds_toArray, List.set_cons_zero, List.set_cons_succ]
    refine seq_calc (by simp only [List.getElem?_toArray, List.getElem?_cons_succ, List.getElem?_cons_zero]; rfl) (by rfl) (fun u => by go_simp <;> with_reducible rfl) ?_
    try simp only [Act.put, List.setIfInBounds_toArray, List.set_cons_zero, List.set_cons_succ]
    refine seq_calc (by simp only [List.getElem?_toArray, List.getElem?_cons_succ, List.getElem?_cons_zero]; rfl) (by rfl) (fun u => by go_simp <;> with_reducible rfl) ?_
    try simp only [Act.put, List.setIfInBounds_toArray, List.set_cons_zero, List.set_cons_succ]
    refine seq_nil ?_
    go_wp2
    go_ret2
    exact ⟨rfl, (Below.refl _ _).drew⟩
theorem cset_form (m b : Nat) (i : Int) (hi : 0 ≤ i) (hi8 : i < 8) (hb : b < 256) (hcb : ctrlB b = false) (E : Nat → Addr) (w : World) (he : EC w E [3]) :
    Calls Tryd.prog 115 #[.int .u64 (m : Int), .int .i64 i, .int .u8 (b : Int)] w fun e w' => e = .returned (.tuple #[.int .u64 0, errAt E 3]) ∧ Below w.heap.size w w' := by
  have hc : w.cell? ⟨2, 0, none⟩ = some (errAt E 3) := he 3 (by decide)
  have HC := control_any b hb
  rw [hcb] at HC
  replace HC := Lib.hid HC
  have e1 : decide (i < 0) = false := by simp; omega
  have e2 : decide (i ≥ 8) = false := by simp; omega
  clear he hcb
  go_enter Tryd.func115, Tryd.ntmps115
  go_wp2_with (go_at_call 129; refine (HC.out _).mono ?_; rintro e w' ⟨rfl, rfl⟩)
  refine wp_region_seq (fun _ => False) #[⟨0, 0, 1048576, 0, 1⟩, ⟨0, 0, 64, 0, 0⟩, ⟨3, 3, 128, 1048576, 0⟩] 1 [(0, 1), (1, 0), (2, 0)] (by kernel_rfl) (by kernel_rfl) (by kernel_rfl) (by kernel_rfl) (by kernel_rfl) (by kernel_rfl) (fun c a d v w h => by cases d <;> exact h) ?_
  refine seq_load1 (by simp only [List.getElem?_toArray, List.getElem?_cons_succ, List.getElem?_cons_zero]; rfl) (by rfl) rfl rfl Tryd.underlying25 rfl (by go_simp <;> with_reducible rfl) (by first | exact id | assumption | (simp; done) | (simp; omega)) ?_
  try simp only [Act.put, List.setIfInBounds_toArray, List.set_cons_zero, List.set_cons_succ]
  refine seq_calc (by simp only [List.getElem?_toArray, List.getElem?_cons_succ, List.getElem?_cons_zero]; rfl) (by rfl) (fun u => by go_simp <;> with_reducible rfl) ?_
  try simp only [Act.put, List.setIfInBounds_toArray, List.set_cons_zero, List.set_cons_succ]
  refine seq_calc (by simp only [List.getElem?_toArray, List.getElem?_cons_succ, List.getElem?_cons_zero]; rfl) (by rfl) (fun u => by go_simp <;> with_reducible rfl) ?_
  try simp only [Act.put, List.setIfInBounds_toArray, List.set_cons_zero, List.set_cons_succ]
  refine seq_nil ?_
  go_wp2
  go_ret2
  exact ⟨rfl, (Below.refl _ _).drew⟩
/-- what a match is -/
def matchN (m h : Nat) : Nat := if h < 128 then maskB (equalB m h) else 0
theorem matchN_lt (m h : Nat) : matchN m h < 18446744073709551616 := by unfold matchN; split; exact maskB_lt _; decide
theorem cmatch_any (m h : Nat) (hm : m < 18446744073709551616) (hh : h < 256) (w : World) :
    Calls Tryd.prog 96 #[.int .u64 (m : Int), .int .u8 (h : Int)] w fun e w' => e = .returned (.int .u64 ((matchN m h : Nat) : Int)) ∧ w = w' := by
  unfold matchN
  by_cases h1 : h < 128
  · have e1 : decide ((h : Int) ≥ 128) = false := by simp; omega
    rw [if_pos h1]
    go_enter Tryd.func96, Tryd.ntmps96
    go_wp2_with (go_at_call 121; refine (equal_any m h hm hh _).mono ?_; rintro e w' ⟨rfl, rfl⟩)
    go_ret
    exact ⟨rfl, rfl⟩
  · have e1 : decide ((h : Int) ≥ 128) = true := by simp; omega
    rw [if_neg h1]
    go_enter Tryd.func96, Tryd.ntmps96
    go_wp2
    go_ret
    exact ⟨rfl, rfl⟩
theorem cempties_any (m : Nat) (hm : m < 18446744073709551616) (w : World) :
    Calls Tryd.prog 95 #[.int .u64 (m : Int)] w fun e w' => e = .returned (.int .u64 ((maskB (equalB m 128) : Nat) : Int)) ∧ w = w' := by
  go_enter Tryd.func95, Tryd.ntmps95
  go_wp2_with (go_at_call 121; refine (equal_any m 128 hm (by decide) _).mono ?_; rintro e w' ⟨rfl, rfl⟩)
  go_ret
  exact ⟨rfl, rfl⟩
theorem cdeleteds_any (m : Nat) (hm : m < 18446744073709551616) (w : World) :
    Calls Tryd.prog 94 #[.int .u64 (m : Int)] w fun e w' => e = .returned (.int .u64 ((maskB (equalB m 254) : Nat) : Int)) ∧ w = w' := by
  go_enter Tryd.func94, Tryd.ntmps94
  go_wp2_with (go_at_call 121; refine (equal_any m 254 hm (by decide) _).mono ?_; rintro e w' ⟨rfl, rfl⟩)
  go_ret
  exact ⟨rfl, rfl⟩
theorem cfrees_any (m : Nat) (hm : m < 18446744073709551616) (w : World) :
    Calls Tryd.prog 98 #[.int .u64 (m : Int)] w fun e w' => e = .returned (.int .u64 ((maskB (highB m) : Nat) : Int)) ∧ w = w' := by
  go_enter Tryd.func98, Tryd.ntmps98
  go_wp2_with (go_at_call 119; refine (high_any m hm _).mono ?_; rintro e w' ⟨rfl, rfl⟩)
  go_ret
  exact ⟨rfl, rfl⟩
theorem cfulls_any (m : Nat) (hm : m < 18446744073709551616) (w : World) :
    Calls Tryd.prog 92 #[.int .u64 (m : Int)] w fun e w' => e = .returned (.int .u64 ((maskB (fullB m) : Nat) : Int)) ∧ w = w' := by
  have H := high_any (18446744073709551615 - m) (by omega)
  rw [fulls_eq m hm] at H
  have hn := bits_not_u64_nat m hm
  generalize 18446744073709551615 - m = q at *
  replace H := Lib.hid H
  go_enter Tryd.func92, Tryd.ntmps92
  go_wp2_with fail
  clear hn
  refine (H.out _).mono ?_
  rintro e w' ⟨rfl, rfl⟩
  go_wp2
  go_ret
  exact ⟨rfl, rfl⟩
theorem sign_any (b : Nat) (hb : b < 256) (w : World) :
    Calls Tryd.prog 117 #[.int .u8 (b : Int)] w fun e w' => e = .returned (.int .u8 (((signK (kindN b)).toNat : Nat) : Int)) ∧ w = w' := by
  by_cases h1 : b = 128
  · subst h1
    go_enter Tryd.func117, Tryd.ntmps117
    go_wp2
    go_ret
    exact ⟨rfl, rfl⟩
  by_cases h2 : b = 254
  · subst h2
    go_enter Tryd.func117, Tryd.ntmps117
    go_wp2
    go_ret
    exact ⟨rfl, rfl⟩
  have e1 : ((b : Int) == 128) = false := by simp; omega
  have e2 : ((b : Int) == 254) = false := by simp; omega
  by_cases h3 : b < 128
  · rw [show kindN b = 3 by unfold kindN; rw [if_neg h1, if_neg h2, if_pos h3]]
    have e3 : decide ((b : Int) < 128) = true := by simp; omega
    clear h1 h2 h3
    go_enter Tryd.func117, Tryd.ntmps117
    go_wp2
    go_ret
    exact ⟨rfl, rfl⟩
  · rw [show kindN b = 0 by unfold kindN; rw [if_neg h1, if_neg h2, if_neg h3]]
    have e3 : decide ((b : Int) < 128) = false := by simp; omega
    clear h1 h2 h3
    go_enter Tryd.func117, Tryd.ntmps117
    go_wp2
    go_ret
    exact ⟨rfl, rfl⟩
end Go.Proofs.YtcmjddkljmfklaaDoor
