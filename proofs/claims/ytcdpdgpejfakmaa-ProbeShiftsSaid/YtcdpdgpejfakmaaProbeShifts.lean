/- ProbeShifts: its walk: for every input it answers true, and leaves what was there as it was. No condition. -/
import Derived.Test.YtcdpdgpejfakmaaProbeOrder
import Derived.Deep.QuietTactic
import Derived.BigQuiet
namespace Go.Proofs.Ytcdpdgpejfakmaa
set_option linter.unusedVariables false
set_option linter.unusedSimpArgs false
open Go.RowKit Go.Proofs

theorem walkAt_next (h g k : Nat) (hr : rightB (g : Int) = true) : walkAt ((h + 1) % 18446744073709551616) g k = (walkAt h g k + 1) % g := by
  unfold walkAt
  generalize k * (k + 1) / 2 = a
  rw [rightB_iff] at hr
  have : g = 1 ∨ g = 2 ∨ g = 4 ∨ g = 8 ∨ g = 16 ∨ g = 32 ∨ g = 64 := by omega
  rcases this with rfl | rfl | rfl | rfl | rfl | rfl | rfl <;> omega
theorem walkAt_round (h g k : Nat) (hr : rightB (g : Int) = true) : walkAt ((h + g) % 18446744073709551616) g k = walkAt h g k := by
  unfold walkAt
  generalize k * (k + 1) / 2 = a
  rw [rightB_iff] at hr
  have : g = 1 ∨ g = 2 ∨ g = 4 ∨ g = 8 ∨ g = 16 ∨ g = 32 ∨ g = 64 := by omega
  rcases this with rfl | rfl | rfl | rfl | rfl | rfl | rfl <;> omega

set_option maxRecDepth 100000 in
set_option maxHeartbeats 2000000 in
theorem probeShifts_any (h : Nat) (n : Int) (hh : h < 18446744073709551616) (w : World) :
    Calls Try.prog 4 #[.int .u64 (h : Int), .int .i64 n] w fun e w' => e = .returned (.bool true) ∧ Below w.heap.size w w' := by
  by_cases hr : rightB n = true
  · obtain ⟨g, rfl⟩ := Int.eq_ofNat_of_zero_le (show 0 ≤ n by rw [rightB_iff] at hr; omega)
    have hgb := right_bd hr
    have hN : ordN (g : Int) = g := by unfold ordN; rw [if_pos hr]; simp
    have HN := Lib.hid hN
    have hL3 : ordL (((h : Int) + (g : Int)) % 18446744073709551616).toNat (g : Int) = ordL h (g : Int) := by
      unfold ordL
      rw [show (((h : Int) + (g : Int)) % 18446744073709551616).toNat = (h + g) % 18446744073709551616 by omega]
      simp only [walkAt_round h g _ hr, Int.toNat_natCast]
    have HL3 := Lib.hid hL3
    have HR := Lib.hid hr
    clear hN hL3
    go_enter Try.func4, Try.ntmps4
    go_wp2_with (go_at_call 5; refine (alive04_any _).mono ?_; rintro e W1 ⟨rfl, h1⟩)
    refine (order_rd _ _ (by omega) (by omega) _).mono ?_
    rintro e W2 ⟨a1, c1, rfl, r1, h2⟩
    rw [HN.out] at r1 ⊢
    have R1 := Lib.hid r1
    clear r1
    go_wp2_with (go_at_call 7; refine (right_any _ _).mono ?_; rintro e w' ⟨rfl, rfl⟩)
    refine (order_rd _ _ (by rw [IntKind.wrap_u64]; omega) (by rw [IntKind.wrap_u64]; omega) _).mono ?_
    rintro e W3 ⟨a2, c2, rfl, r2, h3⟩
    rw [HN.out, IntKind.wrap_u64] at r2
    rw [HN.out]
    have R2 := Lib.hid r2
    clear r2
    go_wp2_with fail
    refine (order_rd _ _ (by rw [IntKind.wrap_u64]; omega) (by rw [IntKind.wrap_u64]; omega) _).mono ?_
    rintro e W4 ⟨a3, c3, rfl, r3, h4⟩
    rw [HN.out, IntKind.wrap_u64, HL3.out] at r3
    rw [HN.out]
    have r1 := (R1.out.later h3).later h4
    have r2 := R2.out.later h4
    rw [Int.toNat_natCast] at r1
    have eq13 : decide (ordL h (g : Int) = ordL h (g : Int)) = true := by simp
    have hlen : (ordL h (g : Int)).length < 9223372036854775807 := by rw [ordL_length, HN.out]; omega
    have R1' := Lib.hid r1
    have R2' := Lib.hid r2
    have R3' := Lib.hid r3
    have EQ := Lib.hid eq13
    have HLEN := Lib.hid hlen
    clear r1 r2 r3 eq13 hlen R1 R2
    have tg : ((g : Int) != (g : Int)) = false := by simp
    go_wp2_with (go_at_call 9; refine (sameInts_any _ _ _ _ _ R1'.out R3'.out HLEN.out).mono ?_; rw [decide_eq_true (rfl : ordL h (g : Int) = ordL h (g : Int))]; rintro e w' ⟨rfl, rfl⟩)
    have x1 := Lib.hid R1'.out.opened.2
    have x2 := Lib.hid R2'.out.opened.2
    go_loopw [49] (fun v49 wr => ∃ k : Nat, k ≤ g ∧ v49 = .int .i64 (k : Int) ∧ Below W4.heap.size W4 wr) (fun v49 _ => g - (intOf v49).toNat)
    case atStart => exact ⟨0, Nat.zero_le _, rfl, Below.refl _ _⟩
    case round =>
      obtain ⟨k, hk, rfl, hb⟩ := hrel
      by_cases hlt : k < g
      · have hx1 : ordL h (g : Int) ≠ [] := by intro e; have := ordL_length h (g : Int); rw [e, HN.out] at this; simp at this; omega
        have hx2 : ordL (((h : Int) + 1) % 18446744073709551616).toNat (g : Int) ≠ [] := by intro e; have := ordL_length (((h : Int) + 1) % 18446744073709551616).toNat (g : Int); rw [e, HN.out] at this; simp at this; omega
        obtain ⟨B1, o1, rfl, y1⟩ := x1.out hx1
        obtain ⟨B2, o2, rfl, y2⟩ := x2.out hx2
        have z1 := y1 k (by rw [ordL_length, HN.out]; exact hlt)
        have z2 := y2 k (by rw [ordL_length, HN.out]; exact hlt)
        have z3 := y1 (k - 1) (by rw [ordL_length, HN.out]; omega)
        rw [ordL_get, Int.toNat_natCast] at z1 z3
        rw [ordL_get, Int.toNat_natCast, show (((h : Int) + 1) % 18446744073709551616).toNat = (h + 1) % 18446744073709551616 by omega, walkAt_next h g k HR.out] at z2
        have c1 := (hb.cell (p := ⟨B1, o1 + k, none⟩) (World.block_lt_of_cell? _ _ z1)).trans z1
        have c2 := (hb.cell (p := ⟨B2, o2 + k, none⟩) (World.block_lt_of_cell? _ _ z2)).trans z2
        have c3 := (hb.cell (p := ⟨B1, o1 + (k - 1), none⟩) (World.block_lt_of_cell? _ _ z3)).trans z3
        clear hx1 hx2 y1 y2 z1 z2 z3
        have hX := walkAt_lt h g k (by omega)
        have hstep := walkAt_succ h g (k - 1)
        have hY := walkAt_lt h g (k - 1) (by omega)
        obtain ⟨X, eX⟩ : ∃ X, X = walkAt h g k := ⟨_, rfl⟩
        obtain ⟨Y, eY⟩ : ∃ Y, Y = walkAt h g (k - 1) := ⟨_, rfl⟩
        rw [← eX] at c1 c2 hX
        rw [← eY] at c3 hstep hY
        have t2 : ((((X + 1) % g : Nat) : Int) != ((X : Int) + 1) % (g : Int)) = false := by simp
        clear eY
        have HEX := Lib.hid eX
        have HST := Lib.hid hstep
        clear eX hstep
        by_cases hk0 : 0 < k
        · have HK := Lib.hid hk0
          have td : decide ((0 : Int) < (k : Int)) = true := by simpa using hk0
          have t3 : ((X : Int) != ((Y : Int) + (k : Int)) % (g : Int)) = false := by
            have e := HST.out
            rw [show k - 1 + 1 = k by omega, ← HEX.out] at e
            rw [e]; simp
          go_wp2
          go_quiet (fail)
          go_wp2
          go_roundw
          case rel => exact ⟨k + 1, by omega, by go_num, below_drewN hb nq⟩
          case measure => simp [intOf]; omega
        · have td : decide ((0 : Int) < (k : Int)) = false := by simpa using hk0
          go_wp2
          go_quiet (fail)
          go_wp2
          go_roundw
          case rel => exact ⟨k + 1, by omega, by go_num, below_drewN hb nq⟩
          case measure => simp [intOf]; omega
      · obtain rfl : k = g := by omega
        go_wp2
        go_ret
        exact ⟨rfl, ((h1.trans (h2.mono h1.size)).trans (h3.mono (Nat.le_trans h1.size h2.size))).trans ((h4.trans (hb.mono h4.size)).mono (Nat.le_trans (Nat.le_trans h1.size h2.size) h3.size))⟩
  · have hN : ordN n = 0 := by unfold ordN; rw [if_neg hr]
    have HN := Lib.hid hN
    have hr' : rightB n = false := by simpa using hr
    clear hN
    go_enter Try.func4, Try.ntmps4
    go_wp2_with (go_at_call 5; refine (alive04_any _).mono ?_; rintro e W1 ⟨rfl, h1⟩)
    refine (order_rd _ _ (by omega) (by omega) _).mono ?_
    rintro e W2 ⟨a1, c1, rfl, r1, h2⟩
    rw [HN.out] at r1 ⊢
    clear r1
    go_wp2_with (go_at_call 7; refine (right_any _ _).mono ?_; rintro e w' ⟨rfl, rfl⟩)
    go_ret
    exact ⟨rfl, h1.trans (h2.mono h1.size)⟩

end Go.Proofs.Ytcdpdgpejfakmaa
