/- The walks of CtrlTells, CtrlSets and CtrlApart. Condition: the errors. -/
import Derived.Test.YtdlfkjpnbgobhaaDoorRef02
import Derived.Test.YtdlfkjpnbgobhaaDoorSwarCount
namespace Go.Proofs.YtdlfkjpnbgobhaaDoor
set_option linter.unusedVariables false
set_option linter.unusedSimpArgs false
open Go.RowKit Go.Proofs

theorem alive2_text : textW (setL (rep 128) 2 5) = ⟨#[46, 46, 35, 46, 46, 46, 46, 46]⟩ := by
  have : (textW (setL (rep 128) 2 5)).data = #[46, 46, 35, 46, 46, 46, 46, 46] := by decide +kernel
  exact ByteArray.ext this
theorem alive2_match : matchN (setL (rep 128) 2 5) 5 = 8388608 := by decide +kernel
theorem alive2_right : rightB (setL (rep 128) 2 5) = true := by decide +kernel
set_option maxRecDepth 100000 in
theorem alive02_any (w : World) : Calls Tryd.prog 15 #[] w fun e w' => e = .returned (.bool true) ∧ Below w.heap.size w w' := by
  have S := Lib.hid (fun w => cset_ok (rep 128) 2 5 (by decide) (by decide) (by decide) (by decide) w)
  have hlt : setL (rep 128) 2 5 < 18446744073709551616 := setL_lt _ _ _ (by decide)
  have T := fun w => ctext_any (setL (rep 128) 2 5) hlt w
  have M := fun w => cmatch_any (setL (rep 128) 2 5) 5 hlt (by decide) w
  have R := fun w => cright_any (setL (rep 128) 2 5) hlt w
  rw [alive2_text] at T
  rw [alive2_match] at M
  rw [alive2_right] at R
  generalize setL (rep 128) 2 5 = m at *
  have N := Lib.hid (fun w => cnew_any w)
  generalize rep 128 = r at *
  replace T := Lib.hid T
  replace M := Lib.hid M
  replace R := Lib.hid R
  clear hlt
  go_enter Tryd.func15, Tryd.ntmps15
  go_wp2_with (first
    | (go_at_call 53; refine (N.out _).mono ?_; rintro e w' ⟨rfl, rfl⟩)
    | (go_at_call 51; refine (S.out _).mono ?_; rintro e w1 ⟨rfl, hb1⟩)
    | (go_at_call 28; refine (T.out _).mono ?_; rintro e w2 ⟨rfl, hb2⟩)
    | (go_at_call 19; refine (M.out _).mono ?_; rintro e w' ⟨rfl, rfl⟩)
    | (go_at_call 26; refine (R.out _).mono ?_; rintro e w' ⟨rfl, rfl⟩))
  go_ret
  exact ⟨rfl, hb1.trans (hb2.mono hb1.size)⟩
theorem rofE (m : Nat) (hm : m < 18446744073709551616) (w : World) : Calls Tryd.prog 21 #[.int .u64 (m : Int), .int .i64 1] w fun e w' => e = .returned (.int .u64 ((maskB (equalB m 128) : Nat) : Int)) ∧ Below w.heap.size w w' := by
  have := rof_any m 1 hm w
  rw [show (fun i => decide (kindN (ln m i) = 1)) = equalB m 128 from funext (kind_empty m)] at this
  exact this
theorem rofD (m : Nat) (hm : m < 18446744073709551616) (w : World) : Calls Tryd.prog 21 #[.int .u64 (m : Int), .int .i64 2] w fun e w' => e = .returned (.int .u64 ((maskB (equalB m 254) : Nat) : Int)) ∧ Below w.heap.size w w' := by
  have := rof_any m 2 hm w
  rw [show (fun i => decide (kindN (ln m i) = 2)) = equalB m 254 from funext (kind_deleted m)] at this
  exact this
theorem rofF (m : Nat) (hm : m < 18446744073709551616) (w : World) : Calls Tryd.prog 21 #[.int .u64 (m : Int), .int .i64 3] w fun e w' => e = .returned (.int .u64 ((maskB (fullB m) : Nat) : Int)) ∧ Below w.heap.size w w' := by
  have := rof_any m 3 hm w
  rw [show (fun i => decide (kindN (ln m i) = 3)) = fullB m from funext (kind_full m)] at this
  exact this
set_option maxRecDepth 100000 in
set_option maxHeartbeats 8000000 in
theorem ctrlTells_any (m h : Nat) (i : Int) (hm : m < 18446744073709551616) (hh : h < 256) (w0 : World) :
    Calls Tryd.prog 3 #[.int .u64 (m : Int), .int .u8 (h : Int), .int .i64 i] w0 fun e w' => e = .returned (.bool true) ∧ Below w0.heap.size w0 w' := by
  have AL := Lib.hid alive02_any
  have RE := Lib.hid (fun w => refEqual_any m h hm w)
  have RM := Lib.hid (fun w => refMask_any (equalB m h) w)
  have RL := Lib.hid (fun w => refLanes_any m hm w)
  have MA := cmatch_any m h hm hh
  have ME := cempties_any m hm
  have MD := cdeleteds_any m hm
  have MF := cfulls_any m hm
  have MH := cfrees_any m hm
  have MR := cright_any m hm
  have MT := ctext_any m hm
  have MG := cget_any m i hm
  have R1 := rofE m hm
  have R2 := rofD m hm
  have R3 := rofF m hm
  have RH := Lib.hid (fun w => refHigh_any m hm w)
  have RN := fun w => refMask_any (highB m) w
  have RR := rright_any m hm
  have RT := rtext_any m hm
  generalize rightB m = x1 at *
  generalize textW m = x2 at *
  generalize maskB (highB m) = x3 at *
  generalize maskB (equalB m 128) = x4 at *
  generalize maskB (equalB m 254) = x5 at *
  generalize maskB (fullB m) = x6 at *
  replace ME := Lib.hid ME
  replace MD := Lib.hid MD
  replace MF := Lib.hid MF
  replace MH := Lib.hid MH
  replace MR := Lib.hid MR
  replace MT := Lib.hid MT
  replace R1 := Lib.hid R1
  replace R2 := Lib.hid R2
  replace R3 := Lib.hid R3
  replace RN := Lib.hid RN
  replace RR := Lib.hid RR
  replace RT := Lib.hid RT
  have y1 : (x1 == x1) = true := by cases x1 <;> rfl
  have y2 : (x2.toList == x2.toList) = true := by simp
  have y3 : ((x3 : Int) == (x3 : Int)) = true := by simp
  have y4 : ((x4 : Int) == (x4 : Int)) = true := by simp
  have y5 : ((x5 : Int) == (x5 : Int)) = true := by simp
  have y6 : ((x6 : Int) == (x6 : Int)) = true := by simp
  by_cases hh2 : h < 128
  · have e1 : decide ((h : Int) < 128) = true := by simp; omega
    rw [show matchN m h = maskB (equalB m h) by unfold matchN; rw [if_pos hh2]] at MA
    obtain ⟨x7, hx7⟩ : ∃ x, x = maskB (equalB m h) := ⟨_, rfl⟩
    rw [← hx7] at MA RM
    have y7 : ((x7 : Int) == (x7 : Int)) = true := by simp
    replace MA := Lib.hid MA
    replace hx7 := Lib.hid hx7
    by_cases hi : 0 ≤ i ∧ i < 8
    · obtain ⟨i0, i1⟩ := hi
      obtain ⟨k, rfl⟩ : ∃ k : Nat, i = (k : Int) := ⟨i.toNat, by omega⟩
      have hk : k < 8 := by omega
      have ix := fun w => ix_byte (ln m) k hk w
      rw [show getN m (k : Int) = ln m k by unfold getN; rw [if_pos ⟨i0, i1⟩]; rfl] at MG
      replace MG := Lib.hid MG
      have e3 : decide ((k : Int) ≥ 0) = true := by simp
      have e4 : decide ((k : Int) < 8) = true := by simp; omega
      have y8 : ((ln m k : Int) == (ln m k : Int)) = true := by simp
      go_enter Tryd.func3, Tryd.ntmps3
      go_wp2_with (first
        | (go_at_call 15; refine (AL.out _).mono ?_; rintro e w1 ⟨rfl, hb1⟩)
        | (go_at_call 17; refine (RE.out _).mono ?_; rintro e w2 ⟨rfl, hb2⟩; have hb1 := hb1.trans (hb2.mono hb1.size))
        | (go_at_call 16; with_reducible refine (RM.out _).mono ?_; rintro e w2 ⟨rfl, hb2⟩; have hb1 := hb1.trans (hb2.mono hb1.size))
        | (go_at_call 18; refine (RL.out _).mono ?_; rintro e w2 ⟨rfl, hb2⟩; have hb1 := hb1.trans (hb2.mono hb1.size))
        | (go_at_call 19; refine (MA.out _).mono ?_; rintro e w' ⟨rfl, rfl⟩)
        | (go_at_call 20; refine (ME.out _).mono ?_; rintro e w' ⟨rfl, rfl⟩)
        | (go_at_call 22; refine (MD.out _).mono ?_; rintro e w' ⟨rfl, rfl⟩)
        | (go_at_call 23; refine (MF.out _).mono ?_; rintro e w' ⟨rfl, rfl⟩)
        | (go_at_call 24; refine (MH.out _).mono ?_; rintro e w' ⟨rfl, rfl⟩)
        | (go_at_call 26; refine (MR.out _).mono ?_; rintro e w' ⟨rfl, rfl⟩)
        | (go_at_call 28; refine (MT.out _).mono ?_; rintro e w2 ⟨rfl, hb2⟩; have hb1 := hb1.trans (hb2.mono hb1.size))
        | (go_at_call 30; refine (MG.out _).mono ?_; rintro e w' ⟨rfl, rfl⟩)
        | (go_at_call 21; (first | (with_reducible refine (R1.out _).mono ?_) | (with_reducible refine (R2.out _).mono ?_) | (with_reducible refine (R3.out _).mono ?_)); rintro e w2 ⟨rfl, hb2⟩; have hb1 := hb1.trans (hb2.mono hb1.size))
        | (go_at_call 25; refine (RH.out _).mono ?_; rintro e w2 ⟨rfl, hb2⟩; have hb1 := hb1.trans (hb2.mono hb1.size))
        | (go_at_call 16; refine (RN.out _).mono ?_; rintro e w2 ⟨rfl, hb2⟩; have hb1 := hb1.trans (hb2.mono hb1.size))
        | (go_at_call 27; refine (RR.out _).mono ?_; rintro e w2 ⟨rfl, hb2⟩; have hb1 := hb1.trans (hb2.mono hb1.size))
        | (go_at_call 29; refine (RT.out _).mono ?_; rintro e w2 ⟨rfl, hb2⟩; have hb1 := hb1.trans (hb2.mono hb1.size)))
      go_ret
      exact ⟨rfl, hb1⟩
    · rw [show getN m i = 0 by unfold getN; rw [if_neg hi]] at MG
      replace MG := Lib.hid MG
      by_cases i0 : 0 ≤ i
      · have e3 : decide (i ≥ 0) = true := by simpa using i0
        have e4 : decide (i < 8) = false := by simp; omega
        clear hi
        go_enter Tryd.func3, Tryd.ntmps3
        go_wp2_with (first
          | (go_at_call 15; refine (AL.out _).mono ?_; rintro e w1 ⟨rfl, hb1⟩)
          | (go_at_call 17; refine (RE.out _).mono ?_; rintro e w2 ⟨rfl, hb2⟩; have hb1 := hb1.trans (hb2.mono hb1.size))
          | (go_at_call 16; with_reducible refine (RM.out _).mono ?_; rintro e w2 ⟨rfl, hb2⟩; have hb1 := hb1.trans (hb2.mono hb1.size))
          | (go_at_call 18; refine (RL.out _).mono ?_; rintro e w2 ⟨rfl, hb2⟩; have hb1 := hb1.trans (hb2.mono hb1.size))
          | (go_at_call 19; refine (MA.out _).mono ?_; rintro e w' ⟨rfl, rfl⟩)
          | (go_at_call 20; refine (ME.out _).mono ?_; rintro e w' ⟨rfl, rfl⟩)
          | (go_at_call 22; refine (MD.out _).mono ?_; rintro e w' ⟨rfl, rfl⟩)
          | (go_at_call 23; refine (MF.out _).mono ?_; rintro e w' ⟨rfl, rfl⟩)
          | (go_at_call 24; refine (MH.out _).mono ?_; rintro e w' ⟨rfl, rfl⟩)
          | (go_at_call 26; refine (MR.out _).mono ?_; rintro e w' ⟨rfl, rfl⟩)
          | (go_at_call 28; refine (MT.out _).mono ?_; rintro e w2 ⟨rfl, hb2⟩; have hb1 := hb1.trans (hb2.mono hb1.size))
          | (go_at_call 30; refine (MG.out _).mono ?_; rintro e w' ⟨rfl, rfl⟩)
          | (go_at_call 21; (first | (with_reducible refine (R1.out _).mono ?_) | (with_reducible refine (R2.out _).mono ?_) | (with_reducible refine (R3.out _).mono ?_)); rintro e w2 ⟨rfl, hb2⟩; have hb1 := hb1.trans (hb2.mono hb1.size))
          | (go_at_call 25; refine (RH.out _).mono ?_; rintro e w2 ⟨rfl, hb2⟩; have hb1 := hb1.trans (hb2.mono hb1.size))
          | (go_at_call 16; refine (RN.out _).mono ?_; rintro e w2 ⟨rfl, hb2⟩; have hb1 := hb1.trans (hb2.mono hb1.size))
          | (go_at_call 27; refine (RR.out _).mono ?_; rintro e w2 ⟨rfl, hb2⟩; have hb1 := hb1.trans (hb2.mono hb1.size))
          | (go_at_call 29; refine (RT.out _).mono ?_; rintro e w2 ⟨rfl, hb2⟩; have hb1 := hb1.trans (hb2.mono hb1.size)))
        go_ret
        exact ⟨rfl, hb1⟩
      · have e3 : decide (i ≥ 0) = false := by simpa using i0
        have e5 : decide (0 ≤ i) = false := by simpa using i0
        clear hi
        go_enter Tryd.func3, Tryd.ntmps3
        go_wp2_with (first
          | (go_at_call 15; refine (AL.out _).mono ?_; rintro e w1 ⟨rfl, hb1⟩)
          | (go_at_call 17; refine (RE.out _).mono ?_; rintro e w2 ⟨rfl, hb2⟩; have hb1 := hb1.trans (hb2.mono hb1.size))
          | (go_at_call 16; with_reducible refine (RM.out _).mono ?_; rintro e w2 ⟨rfl, hb2⟩; have hb1 := hb1.trans (hb2.mono hb1.size))
          | (go_at_call 18; refine (RL.out _).mono ?_; rintro e w2 ⟨rfl, hb2⟩; have hb1 := hb1.trans (hb2.mono hb1.size))
          | (go_at_call 19; refine (MA.out _).mono ?_; rintro e w' ⟨rfl, rfl⟩)
          | (go_at_call 20; refine (ME.out _).mono ?_; rintro e w' ⟨rfl, rfl⟩)
          | (go_at_call 22; refine (MD.out _).mono ?_; rintro e w' ⟨rfl, rfl⟩)
          | (go_at_call 23; refine (MF.out _).mono ?_; rintro e w' ⟨rfl, rfl⟩)
          | (go_at_call 24; refine (MH.out _).mono ?_; rintro e w' ⟨rfl, rfl⟩)
          | (go_at_call 26; refine (MR.out _).mono ?_; rintro e w' ⟨rfl, rfl⟩)
          | (go_at_call 28; refine (MT.out _).mono ?_; rintro e w2 ⟨rfl, hb2⟩; have hb1 := hb1.trans (hb2.mono hb1.size))
          | (go_at_call 30; refine (MG.out _).mono ?_; rintro e w' ⟨rfl, rfl⟩)
          | (go_at_call 21; (first | (with_reducible refine (R1.out _).mono ?_) | (with_reducible refine (R2.out _).mono ?_) | (with_reducible refine (R3.out _).mono ?_)); rintro e w2 ⟨rfl, hb2⟩; have hb1 := hb1.trans (hb2.mono hb1.size))
          | (go_at_call 25; refine (RH.out _).mono ?_; rintro e w2 ⟨rfl, hb2⟩; have hb1 := hb1.trans (hb2.mono hb1.size))
          | (go_at_call 16; refine (RN.out _).mono ?_; rintro e w2 ⟨rfl, hb2⟩; have hb1 := hb1.trans (hb2.mono hb1.size))
          | (go_at_call 27; refine (RR.out _).mono ?_; rintro e w2 ⟨rfl, hb2⟩; have hb1 := hb1.trans (hb2.mono hb1.size))
          | (go_at_call 29; refine (RT.out _).mono ?_; rintro e w2 ⟨rfl, hb2⟩; have hb1 := hb1.trans (hb2.mono hb1.size)))
        go_ret
        exact ⟨rfl, hb1⟩
  · have e1 : decide ((h : Int) < 128) = false := by simp; omega
    rw [show matchN m h = 0 by unfold matchN; rw [if_neg hh2]] at MA
    replace MA := Lib.hid MA
    by_cases hi : 0 ≤ i ∧ i < 8
    · obtain ⟨i0, i1⟩ := hi
      obtain ⟨k, rfl⟩ : ∃ k : Nat, i = (k : Int) := ⟨i.toNat, by omega⟩
      have hk : k < 8 := by omega
      have ix := fun w => ix_byte (ln m) k hk w
      rw [show getN m (k : Int) = ln m k by unfold getN; rw [if_pos ⟨i0, i1⟩]; rfl] at MG
      replace MG := Lib.hid MG
      have e3 : decide ((k : Int) ≥ 0) = true := by simp
      have e4 : decide ((k : Int) < 8) = true := by simp; omega
      have y8 : ((ln m k : Int) == (ln m k : Int)) = true := by simp
      go_enter Tryd.func3, Tryd.ntmps3
      go_wp2_with (first
        | (go_at_call 15; refine (AL.out _).mono ?_; rintro e w1 ⟨rfl, hb1⟩)
        | (go_at_call 17; refine (RE.out _).mono ?_; rintro e w2 ⟨rfl, hb2⟩; have hb1 := hb1.trans (hb2.mono hb1.size))
        | (go_at_call 16; with_reducible refine (RM.out _).mono ?_; rintro e w2 ⟨rfl, hb2⟩; have hb1 := hb1.trans (hb2.mono hb1.size))
        | (go_at_call 18; refine (RL.out _).mono ?_; rintro e w2 ⟨rfl, hb2⟩; have hb1 := hb1.trans (hb2.mono hb1.size))
        | (go_at_call 19; refine (MA.out _).mono ?_; rintro e w' ⟨rfl, rfl⟩)
        | (go_at_call 20; refine (ME.out _).mono ?_; rintro e w' ⟨rfl, rfl⟩)
        | (go_at_call 22; refine (MD.out _).mono ?_; rintro e w' ⟨rfl, rfl⟩)
        | (go_at_call 23; refine (MF.out _).mono ?_; rintro e w' ⟨rfl, rfl⟩)
        | (go_at_call 24; refine (MH.out _).mono ?_; rintro e w' ⟨rfl, rfl⟩)
        | (go_at_call 26; refine (MR.out _).mono ?_; rintro e w' ⟨rfl, rfl⟩)
        | (go_at_call 28; refine (MT.out _).mono ?_; rintro e w2 ⟨rfl, hb2⟩; have hb1 := hb1.trans (hb2.mono hb1.size))
        | (go_at_call 30; refine (MG.out _).mono ?_; rintro e w' ⟨rfl, rfl⟩)
        | (go_at_call 21; (first | (with_reducible refine (R1.out _).mono ?_) | (with_reducible refine (R2.out _).mono ?_) | (with_reducible refine (R3.out _).mono ?_)); rintro e w2 ⟨rfl, hb2⟩; have hb1 := hb1.trans (hb2.mono hb1.size))
        | (go_at_call 25; refine (RH.out _).mono ?_; rintro e w2 ⟨rfl, hb2⟩; have hb1 := hb1.trans (hb2.mono hb1.size))
        | (go_at_call 16; refine (RN.out _).mono ?_; rintro e w2 ⟨rfl, hb2⟩; have hb1 := hb1.trans (hb2.mono hb1.size))
        | (go_at_call 27; refine (RR.out _).mono ?_; rintro e w2 ⟨rfl, hb2⟩; have hb1 := hb1.trans (hb2.mono hb1.size))
        | (go_at_call 29; refine (RT.out _).mono ?_; rintro e w2 ⟨rfl, hb2⟩; have hb1 := hb1.trans (hb2.mono hb1.size)))
      go_ret
      exact ⟨rfl, hb1⟩
    · rw [show getN m i = 0 by unfold getN; rw [if_neg hi]] at MG
      replace MG := Lib.hid MG
      by_cases i0 : 0 ≤ i
      · have e3 : decide (i ≥ 0) = true := by simpa using i0
        have e4 : decide (i < 8) = false := by simp; omega
        clear hi
        go_enter Tryd.func3, Tryd.ntmps3
        go_wp2_with (first
          | (go_at_call 15; refine (AL.out _).mono ?_; rintro e w1 ⟨rfl, hb1⟩)
          | (go_at_call 17; refine (RE.out _).mono ?_; rintro e w2 ⟨rfl, hb2⟩; have hb1 := hb1.trans (hb2.mono hb1.size))
          | (go_at_call 16; with_reducible refine (RM.out _).mono ?_; rintro e w2 ⟨rfl, hb2⟩; have hb1 := hb1.trans (hb2.mono hb1.size))
          | (go_at_call 18; refine (RL.out _).mono ?_; rintro e w2 ⟨rfl, hb2⟩; have hb1 := hb1.trans (hb2.mono hb1.size))
          | (go_at_call 19; refine (MA.out _).mono ?_; rintro e w' ⟨rfl, rfl⟩)
          | (go_at_call 20; refine (ME.out _).mono ?_; rintro e w' ⟨rfl, rfl⟩)
          | (go_at_call 22; refine (MD.out _).mono ?_; rintro e w' ⟨rfl, rfl⟩)
          | (go_at_call 23; refine (MF.out _).mono ?_; rintro e w' ⟨rfl, rfl⟩)
          | (go_at_call 24; refine (MH.out _).mono ?_; rintro e w' ⟨rfl, rfl⟩)
          | (go_at_call 26; refine (MR.out _).mono ?_; rintro e w' ⟨rfl, rfl⟩)
          | (go_at_call 28; refine (MT.out _).mono ?_; rintro e w2 ⟨rfl, hb2⟩; have hb1 := hb1.trans (hb2.mono hb1.size))
          | (go_at_call 30; refine (MG.out _).mono ?_; rintro e w' ⟨rfl, rfl⟩)
          | (go_at_call 21; (first | (with_reducible refine (R1.out _).mono ?_) | (with_reducible refine (R2.out _).mono ?_) | (with_reducible refine (R3.out _).mono ?_)); rintro e w2 ⟨rfl, hb2⟩; have hb1 := hb1.trans (hb2.mono hb1.size))
          | (go_at_call 25; refine (RH.out _).mono ?_; rintro e w2 ⟨rfl, hb2⟩; have hb1 := hb1.trans (hb2.mono hb1.size))
          | (go_at_call 16; refine (RN.out _).mono ?_; rintro e w2 ⟨rfl, hb2⟩; have hb1 := hb1.trans (hb2.mono hb1.size))
          | (go_at_call 27; refine (RR.out _).mono ?_; rintro e w2 ⟨rfl, hb2⟩; have hb1 := hb1.trans (hb2.mono hb1.size))
          | (go_at_call 29; refine (RT.out _).mono ?_; rintro e w2 ⟨rfl, hb2⟩; have hb1 := hb1.trans (hb2.mono hb1.size)))
        go_ret
        exact ⟨rfl, hb1⟩
      · have e3 : decide (i ≥ 0) = false := by simpa using i0
        have e5 : decide (0 ≤ i) = false := by simpa using i0
        clear hi
        go_enter Tryd.func3, Tryd.ntmps3
        go_wp2_with (first
          | (go_at_call 15; refine (AL.out _).mono ?_; rintro e w1 ⟨rfl, hb1⟩)
          | (go_at_call 17; refine (RE.out _).mono ?_; rintro e w2 ⟨rfl, hb2⟩; have hb1 := hb1.trans (hb2.mono hb1.size))
          | (go_at_call 16; with_reducible refine (RM.out _).mono ?_; rintro e w2 ⟨rfl, hb2⟩; have hb1 := hb1.trans (hb2.mono hb1.size))
          | (go_at_call 18; refine (RL.out _).mono ?_; rintro e w2 ⟨rfl, hb2⟩; have hb1 := hb1.trans (hb2.mono hb1.size))
          | (go_at_call 19; refine (MA.out _).mono ?_; rintro e w' ⟨rfl, rfl⟩)
          | (go_at_call 20; refine (ME.out _).mono ?_; rintro e w' ⟨rfl, rfl⟩)
          | (go_at_call 22; refine (MD.out _).mono ?_; rintro e w' ⟨rfl, rfl⟩)
          | (go_at_call 23; refine (MF.out _).mono ?_; rintro e w' ⟨rfl, rfl⟩)
          | (go_at_call 24; refine (MH.out _).mono ?_; rintro e w' ⟨rfl, rfl⟩)
          | (go_at_call 26; refine (MR.out _).mono ?_; rintro e w' ⟨rfl, rfl⟩)
          | (go_at_call 28; refine (MT.out _).mono ?_; rintro e w2 ⟨rfl, hb2⟩; have hb1 := hb1.trans (hb2.mono hb1.size))
          | (go_at_call 30; refine (MG.out _).mono ?_; rintro e w' ⟨rfl, rfl⟩)
          | (go_at_call 21; (first | (with_reducible refine (R1.out _).mono ?_) | (with_reducible refine (R2.out _).mono ?_) | (with_reducible refine (R3.out _).mono ?_)); rintro e w2 ⟨rfl, hb2⟩; have hb1 := hb1.trans (hb2.mono hb1.size))
          | (go_at_call 25; refine (RH.out _).mono ?_; rintro e w2 ⟨rfl, hb2⟩; have hb1 := hb1.trans (hb2.mono hb1.size))
          | (go_at_call 16; refine (RN.out _).mono ?_; rintro e w2 ⟨rfl, hb2⟩; have hb1 := hb1.trans (hb2.mono hb1.size))
          | (go_at_call 27; refine (RR.out _).mono ?_; rintro e w2 ⟨rfl, hb2⟩; have hb1 := hb1.trans (hb2.mono hb1.size))
          | (go_at_call 29; refine (RT.out _).mono ?_; rintro e w2 ⟨rfl, hb2⟩; have hb1 := hb1.trans (hb2.mono hb1.size)))
        go_ret
        exact ⟨rfl, hb1⟩
end Go.Proofs.YtdlfkjpnbgobhaaDoor
