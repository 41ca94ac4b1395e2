/- The walk of CtrlApart. Condition: the errors' cells. -/
import Derived.Test.YtdlfkjpnbgobhaaDoorCtrlSets
namespace Go.Proofs.YtdlfkjpnbgobhaaDoor
set_option linter.unusedVariables false
set_option linter.unusedSimpArgs false
open Go.RowKit Go.Proofs

/-- the head's contracts -/
structure ApartC (m : Nat) (x3 x4 x5 x6 n1 n2 n3 : Nat) : Prop where
  ME : ∀ w : World, Calls Tryd.prog 20 #[.int .u64 (m : Int)] w fun e w' => e = .returned (.int .u64 ((x4 : Nat) : Int)) ∧ w = w'
  MD : ∀ w : World, Calls Tryd.prog 22 #[.int .u64 (m : Int)] w fun e w' => e = .returned (.int .u64 ((x5 : Nat) : Int)) ∧ w = w'
  MF : ∀ w : World, Calls Tryd.prog 23 #[.int .u64 (m : Int)] w fun e w' => e = .returned (.int .u64 ((x6 : Nat) : Int)) ∧ w = w'
  MH : ∀ w : World, Calls Tryd.prog 24 #[.int .u64 (m : Int)] w fun e w' => e = .returned (.int .u64 ((x3 : Nat) : Int)) ∧ w = w'
  C1 : ∀ w : World, Calls Tryd.prog 50 #[.int .u64 (x4 : Int)] w fun e w' => e = .returned (.int .i64 (n1 : Int)) ∧ w = w'
  C2 : ∀ w : World, Calls Tryd.prog 50 #[.int .u64 (x5 : Int)] w fun e w' => e = .returned (.int .i64 (n2 : Int)) ∧ w = w'
  C3 : ∀ w : World, Calls Tryd.prog 50 #[.int .u64 (x6 : Int)] w fun e w' => e = .returned (.int .i64 (n3 : Int)) ∧ w = w'
theorem apartC (m : Nat) (hm : m < 18446744073709551616) : ∃ x3 x4 x5 x6 n1 n2 n3 : Nat, ApartC m x3 x4 x5 x6 n1 n2 n3 ∧ (rightB m = true → n1 + n2 + n3 = 8 ∧ bits .or .u64 (x4 : Int) (x5 : Int) = (x3 : Int)) ∧ bits .and .u64 (x6 : Int) (x3 : Int) = 0 :=
  ⟨_, _, _, _, _, _, _, ⟨cempties_any m hm, cdeleteds_any m hm, cfulls_any m hm, cfrees_any m hm, count_any _ (maskB_lt _), count_any _ (maskB_lt _), count_any _ (maskB_lt _)⟩,
    fun h => ⟨apart_cnt m ((rightB_iff m).1 h), by rw [bits_or_u64_nat _ _ (maskB_lt _) (maskB_lt _), apart_or m ((rightB_iff m).1 h)]⟩, by rw [bits_and_u64_nat _ _ (maskB_lt _) (maskB_lt _), apart_and m]; rfl⟩
/-- what Get answers to another lane -/
theorem get_setL (m i b k : Nat) (hb : b < 256) (hk : k < 8) : ln (setL m i b) k = if k = i then b else ln m k := ln_setL _ _ _ _ hb hk
set_option maxRecDepth 100000 in
set_option maxHeartbeats 8000000 in
theorem ctrlApart_any (m b : Nat) (i : Int) (hm : m < 18446744073709551616) (hb : b < 256) (E : Nat → Addr) (w0 : World) (he : EC w0 E [1, 3]) :
    Calls Tryd.prog 8 #[.int .u64 (m : Int), .int .i64 i, .int .u8 (b : Int)] w0 fun e w' => e = .returned (.bool true) ∧ Below w0.heap.size w0 w' := by
  have HE3 := Lib.hid he
  have AL := Lib.hid alive02_any
  obtain ⟨x3, x4, x5, x6, n1, n2, n3, hC, hR, hA⟩ := apartC m hm
  have ME := Lib.hid hC.ME
  have MD := Lib.hid hC.MD
  have MF := Lib.hid hC.MF
  have MH := Lib.hid hC.MH
  have C1 := Lib.hid hC.C1
  have C2 := Lib.hid hC.C2
  have C3 := Lib.hid hC.C3
  have MR := Lib.hid (cright_any m hm)
  have RI := Lib.hid (rightB_iff m)
  have HR := Lib.hid hR
  have HA := Lib.hid hA
  clear he hC hR hA
  by_cases hi : i < 0 ∨ 8 ≤ i ∨ ctrlB b = false
  · have SE : Hid (∃ j : Nat, ∀ w', EC w' E [1, 3] → Calls Tryd.prog 51 #[.int .u64 (m : Int), .int .i64 i, .int .u8 (b : Int)] w' fun e w2 => e = .returned (.tuple #[.int .u64 0, errAt E j]) ∧ Below w'.heap.size w' w2) := by
      refine Lib.hid ?_
      by_cases h1 : i < 0 ∨ 8 ≤ i
      · exact ⟨1, fun w' h => cset_range m b i h1 E w' (h.sub (by decide))⟩
      · exact ⟨3, fun w' h => cset_form m b i (by omega) (by omega) hb (by
          rcases hi with h | h | h
          · exact absurd (.inl h) h1
          · exact absurd (.inr h) h1
          · exact h) E w' (h.sub (by decide))⟩
    clear hi
    obtain ⟨j, hSE⟩ := SE.out
    clear SE
    have SE := Lib.hid hSE
    simp only [errAt] at SE
    clear hSE
    have y0 : ((0 : Int) == 0) = true := by decide
    cases hr : rightB m
    · rw [hr] at MR
      clear hr
      go_enter Tryd.func8, Tryd.ntmps8
      go_upto_region 6 with (first
        | (go_at_call 15; refine (AL.out _).mono ?_; rintro e w1 ⟨rfl, hb1⟩)
        | (go_at_call 26; refine (MR.out _).mono ?_; rintro e w' ⟨rfl, rfl⟩)
        | (go_at_call 20; refine (ME.out _).mono ?_; rintro e w' ⟨rfl, rfl⟩)
        | (go_at_call 22; refine (MD.out _).mono ?_; rintro e w' ⟨rfl, rfl⟩)
        | (go_at_call 23; refine (MF.out _).mono ?_; rintro e w' ⟨rfl, rfl⟩)
        | (go_at_call 24; refine (MH.out _).mono ?_; rintro e w' ⟨rfl, rfl⟩)
        | (go_at_call 50; (first | (with_reducible refine (C1.out _).mono ?_) | (with_reducible refine (C2.out _).mono ?_) | (with_reducible refine (C3.out _).mono ?_)); rintro e w' ⟨rfl, rfl⟩))
      go_wp2_with (go_at_call 51; refine (SE.out _ (HE3.out.below hb1)).mono ?_; rintro e w2 ⟨rfl, hb2⟩; have hb3 := hb1.trans (hb2.mono hb1.size))
      go_ret
      exact ⟨rfl, hb3⟩
    · rw [hr] at MR
      obtain ⟨q1, q2⟩ := HR.out hr
      have q3 := HA.out
      have q4 : (n1 : Int) + (n2 : Int) + (n3 : Int) = 8 := by omega
      have q5 : ((x3 : Int) != (x3 : Int)) = false := by simp
      have q6 : n1 ≤ 8 := by omega
      have q7 : n2 ≤ 8 := by omega
      have q8 : n3 ≤ 8 := by omega
      clear hr q1
      go_enter Tryd.func8, Tryd.ntmps8
      go_upto_region 6 with (first
        | (go_at_call 15; refine (AL.out _).mono ?_; rintro e w1 ⟨rfl, hb1⟩)
        | (go_at_call 26; refine (MR.out _).mono ?_; rintro e w' ⟨rfl, rfl⟩)
        | (go_at_call 20; refine (ME.out _).mono ?_; rintro e w' ⟨rfl, rfl⟩)
        | (go_at_call 22; refine (MD.out _).mono ?_; rintro e w' ⟨rfl, rfl⟩)
        | (go_at_call 23; refine (MF.out _).mono ?_; rintro e w' ⟨rfl, rfl⟩)
        | (go_at_call 24; refine (MH.out _).mono ?_; rintro e w' ⟨rfl, rfl⟩)
        | (go_at_call 50; (first | (with_reducible refine (C1.out _).mono ?_) | (with_reducible refine (C2.out _).mono ?_) | (with_reducible refine (C3.out _).mono ?_)); rintro e w' ⟨rfl, rfl⟩))
      go_wp2_with (go_at_call 51; refine (SE.out _ (HE3.out.below hb1)).mono ?_; rintro e w2 ⟨rfl, hb2⟩; have hb3 := hb1.trans (hb2.mono hb1.size))
      go_ret
      exact ⟨rfl, hb3⟩
  · obtain ⟨k, rfl⟩ : ∃ k : Nat, i = (k : Int) := ⟨i.toNat, by omega⟩
    have hk : k < 8 := by omega
    have hc : ctrlB b = true := by cases h : ctrlB b; exact absurd (.inr (.inr h)) hi; rfl
    clear hi
    have SE := Lib.hid (fun w => cset_ok m k b hm hk hb hc w)
    have hy := setL_lt m k b hb
    have GY := Lib.hid (fun (j : Nat) (hj : j < 8) (w : World) => cget_in (setL m k b) j hy hj w)
    have GV := Lib.hid (fun (j : Nat) (hj : j < 8) => get_setL m k b j hb hj)
    have GX := Lib.hid (fun (j : Nat) (hj : j < 8) (w : World) => cget_in m j hm hj w)
    have YR := cright_any (setL m k b) hy
    have YR2 := right_setL m k b hb hc
    have BK := setL_back m k b hm hk hb
    have ZS := Lib.hid (fun (h : ctrlB (ln m k) = true) w => cset_ok (setL m k b) k (ln m k) hy hk (ln_lt m k) h w)
    have ZB := Lib.hid (fun (h : ctrlB (ln m k) = false) w h1 => cset_form (setL m k b) (ln m k) k (by omega) (by omega) (ln_lt m k) h E w h1)
    rw [BK] at ZS
    generalize setL m k b = y at *
    replace YR := Lib.hid YR
    replace YR2 := Lib.hid YR2
    clear BK hc
    cases hr : rightB m
    · rw [hr] at MR
      clear hr
      go_enter Tryd.func8, Tryd.ntmps8
      go_upto_region 6 with (first
        | (go_at_call 15; refine (AL.out _).mono ?_; rintro e w1 ⟨rfl, hb1⟩)
        | (go_at_call 26; refine (MR.out _).mono ?_; rintro e w' ⟨rfl, rfl⟩)
        | (go_at_call 20; refine (ME.out _).mono ?_; rintro e w' ⟨rfl, rfl⟩)
        | (go_at_call 22; refine (MD.out _).mono ?_; rintro e w' ⟨rfl, rfl⟩)
        | (go_at_call 23; refine (MF.out _).mono ?_; rintro e w' ⟨rfl, rfl⟩)
        | (go_at_call 24; refine (MH.out _).mono ?_; rintro e w' ⟨rfl, rfl⟩)
        | (go_at_call 50; (first | (with_reducible refine (C1.out _).mono ?_) | (with_reducible refine (C2.out _).mono ?_) | (with_reducible refine (C3.out _).mono ?_)); rintro e w' ⟨rfl, rfl⟩))
      go_upto_region 9 with (go_at_call 51; refine (SE.out _).mono ?_; rintro e w2 ⟨rfl, hb2⟩; have hb3 := hb1.trans (hb2.mono hb1.size))
      clear hb2
      go_wp2
      go_loop [10, 60] (fun _ v60 => ∃ j : Nat, j ≤ 8 ∧ v60 = .int .i64 (j : Int)) (fun _ v60 => 8 - (intOf v60).toNat)
      case atStart => exact ⟨0, by omega, rfl⟩
      case round =>
        obtain ⟨j, hj, rfl⟩ := hrel
        by_cases hlt : j < 8
        · have gy := GY.out j hlt
          have gx := GX.out j hlt
          have gv := GV.out j hlt
          by_cases e : j = k
          · subst e
            rw [if_pos rfl] at gv
            rw [gv] at gy
            have e0 : ((j : Int) == (j : Int)) = true := by simp
            have e1 : ((j : Int) != (j : Int)) = false := by simp
            have e2 : ((b : Int) != (b : Int)) = false := by simp
            replace gy := Lib.hid gy
            replace gx := Lib.hid gx
            clear gv
            go_wp2_with (go_at_call 30; refine (gy.out _).mono ?_; rintro e w' ⟨rfl, rfl⟩)
            go_round
            case rel => exact ⟨j + 1, by omega, by go_num⟩
            case measure => simp [intOf]; omega
          · rw [if_neg e] at gv
            rw [gv] at gy
            have e0 : ((j : Int) == (k : Int)) = false := by simp; omega
            have e1 : ((j : Int) != (k : Int)) = true := by simp; omega
            have e2 : ((ln m j : Int) != (ln m j : Int)) = false := by simp
            replace gy := Lib.hid gy
            replace gx := Lib.hid gx
            clear gv e
            go_wp2_with (go_at_call 30; (first | (with_reducible refine (gy.out _).mono ?_) | (with_reducible refine (gx.out _).mono ?_)); rintro e w' ⟨rfl, rfl⟩)
            go_round
            case rel => exact ⟨j + 1, by omega, by go_num⟩
            case measure => simp [intOf]; omega
        · obtain rfl : j = 8 := by omega
          cases hcm : ctrlB (ln m k)
          · have Z := Lib.hid (fun w h1 => ZB.out hcm w h1)
            simp only [errAt] at Z
            clear hcm
            go_wp2_with (first
              | (go_at_call 30; refine (GX.out _ hk _).mono ?_; rintro e w' ⟨rfl, rfl⟩)
              | (go_at_call 51; refine (Z.out _ ((HE3.out.below hb3).sub (by decide))).mono ?_; rintro e w4 ⟨rfl, hb4⟩; have hb5 := hb3.trans (hb4.mono hb3.size))
              | (go_at_call 26; refine (MR.out _).mono ?_; rintro e w' ⟨rfl, rfl⟩))
            go_ret
            exact ⟨rfl, hb5⟩
          · have Z := Lib.hid (fun w => ZS.out hcm w)
            clear hcm
            go_wp2_with (first
              | (go_at_call 30; refine (GX.out _ hk _).mono ?_; rintro e w' ⟨rfl, rfl⟩)
              | (go_at_call 51; refine (Z.out _).mono ?_; rintro e w4 ⟨rfl, hb4⟩; have hb5 := hb3.trans (hb4.mono hb3.size))
              | (go_at_call 26; refine (MR.out _).mono ?_; rintro e w' ⟨rfl, rfl⟩))
            go_ret
            exact ⟨rfl, hb5⟩
    · rw [hr] at MR
      obtain ⟨q1, q2⟩ := HR.out hr
      have q3 := HA.out
      have q4 : (n1 : Int) + (n2 : Int) + (n3 : Int) = 8 := by omega
      have q5 : ((x3 : Int) != (x3 : Int)) = false := by simp
      have q6 : n1 ≤ 8 := by omega
      have q7 : n2 ≤ 8 := by omega
      have q8 : n3 ≤ 8 := by omega
      have hcm := RI.out.1 hr k hk
      have Z := Lib.hid (fun w => ZS.out hcm w)
      have hyr := YR.out
      rw [YR2.out (RI.out.1 hr)] at hyr
      have YT := Lib.hid hyr
      clear hr q1 hcm hyr
      go_enter Tryd.func8, Tryd.ntmps8
      go_upto_region 6 with (first
        | (go_at_call 15; refine (AL.out _).mono ?_; rintro e w1 ⟨rfl, hb1⟩)
        | (go_at_call 26; refine (MR.out _).mono ?_; rintro e w' ⟨rfl, rfl⟩)
        | (go_at_call 20; refine (ME.out _).mono ?_; rintro e w' ⟨rfl, rfl⟩)
        | (go_at_call 22; refine (MD.out _).mono ?_; rintro e w' ⟨rfl, rfl⟩)
        | (go_at_call 23; refine (MF.out _).mono ?_; rintro e w' ⟨rfl, rfl⟩)
        | (go_at_call 24; refine (MH.out _).mono ?_; rintro e w' ⟨rfl, rfl⟩)
        | (go_at_call 50; (first | (with_reducible refine (C1.out _).mono ?_) | (with_reducible refine (C2.out _).mono ?_) | (with_reducible refine (C3.out _).mono ?_)); rintro e w' ⟨rfl, rfl⟩))
      go_upto_region 9 with (go_at_call 51; refine (SE.out _).mono ?_; rintro e w2 ⟨rfl, hb2⟩; have hb3 := hb1.trans (hb2.mono hb1.size))
      clear hb2
      go_wp2
      go_loop [10, 60] (fun _ v60 => ∃ j : Nat, j ≤ 8 ∧ v60 = .int .i64 (j : Int)) (fun _ v60 => 8 - (intOf v60).toNat)
      case atStart => exact ⟨0, by omega, rfl⟩
      case round =>
        obtain ⟨j, hj, rfl⟩ := hrel
        by_cases hlt : j < 8
        · have gy := GY.out j hlt
          have gx := GX.out j hlt
          have gv := GV.out j hlt
          by_cases e : j = k
          · subst e
            rw [if_pos rfl] at gv
            rw [gv] at gy
            have e0 : ((j : Int) == (j : Int)) = true := by simp
            have e1 : ((j : Int) != (j : Int)) = false := by simp
            have e2 : ((b : Int) != (b : Int)) = false := by simp
            replace gy := Lib.hid gy
            replace gx := Lib.hid gx
            clear gv
            go_wp2_with (go_at_call 30; refine (gy.out _).mono ?_; rintro e w' ⟨rfl, rfl⟩)
            go_round
            case rel => exact ⟨j + 1, by omega, by go_num⟩
            case measure => simp [intOf]; omega
          · rw [if_neg e] at gv
            rw [gv] at gy
            have e0 : ((j : Int) == (k : Int)) = false := by simp; omega
            have e1 : ((j : Int) != (k : Int)) = true := by simp; omega
            have e2 : ((ln m j : Int) != (ln m j : Int)) = false := by simp
            replace gy := Lib.hid gy
            replace gx := Lib.hid gx
            clear gv e
            go_wp2_with (go_at_call 30; (first | (with_reducible refine (gy.out _).mono ?_) | (with_reducible refine (gx.out _).mono ?_)); rintro e w' ⟨rfl, rfl⟩)
            go_round
            case rel => exact ⟨j + 1, by omega, by go_num⟩
            case measure => simp [intOf]; omega
        · obtain rfl : j = 8 := by omega
          have mm : ((m : Int) == (m : Int)) = true := by simp
          go_wp2_with (first
            | (go_at_call 30; refine (GX.out _ hk _).mono ?_; rintro e w' ⟨rfl, rfl⟩)
            | (go_at_call 51; refine (Z.out _).mono ?_; rintro e w4 ⟨rfl, hb4⟩; have hb5 := hb3.trans (hb4.mono hb3.size))
            | (go_at_call 26; (first | (with_reducible refine (MR.out _).mono ?_) | (with_reducible refine (YT.out _).mono ?_)); rintro e w' ⟨rfl, rfl⟩))
          go_ret
          exact ⟨rfl, hb5⟩
end Go.Proofs.YtdlfkjpnbgobhaaDoor
