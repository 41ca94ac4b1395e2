/- Package mix: hashes. Condition: the errors' cells. -/
import Derived.Test.YtplimhllfbdocaaDoorMixPlain
import Derived.Test.YtplimhllfbdocaaDoorSplit
import Derived.Test.YtplimhllfbdocaaDoorSwar
import Derived.Deep.LoopGhost
import Derived.Deep.DeepCutAuto
import Derived.Laws.Bits64
import Derived.Laws.Bits64b
namespace Go.Proofs.YtplimhllfbdocaaDoor
set_option linter.unusedVariables false
set_option linter.unusedSimpArgs false
open Go.RowKit Go.Proofs

theorem stage (s m x : Nat) (hs : s ≤ 64) (hm : m < 2 ^ (64 - s)) (hx : x < 18446744073709551616) :
    bits .or .u64 (bits .and .u64 ((x : Int) / ((2 ^ s : Nat) : Int)) (m : Int)) (IntKind.u64.wrap (bits .and .u64 (x : Int) (m : Int) * ((2 ^ s : Nat) : Int))) = ((swp s m x : Nat) : Int) := by
  have hm64 : m < 18446744073709551616 := Nat.lt_of_lt_of_le hm (Nat.pow_le_pow_right (by decide) (show 64 - s ≤ 64 by omega))
  have hd : x / 2 ^ s < 18446744073709551616 := Nat.lt_of_le_of_lt (Nat.div_le_self _ _) hx
  have h2 : (x &&& m) * 2 ^ s < 18446744073709551616 := by
    have h := Nat.mul_lt_mul_of_pos_right (Nat.lt_of_le_of_lt (Nat.and_le_right (n := x) (m := m)) hm) (Nat.two_pow_pos s)
    rwa [← Nat.pow_add, show 64 - s + s = 64 by omega] at h
  have h3 : (x / 2 ^ s) &&& m < 18446744073709551616 := Nat.lt_of_le_of_lt Nat.and_le_right hm64
  rw [← Int.natCast_ediv, bits_and_u64_nat _ _ hd hm64, bits_and_u64_nat _ _ hx hm64, ← Int.natCast_mul, IntWalk.u64_in _ (by omega), bits_or_u64_nat _ _ h3 h2]
  rfl
theorem stageL (x : Nat) (hx : x < 18446744073709551616) : bits .or .u64 ((x : Int) / 4294967296) (IntKind.u64.wrap ((x : Int) * 4294967296)) = ((swpL x : Nat) : Int) := by
  have hw : IntKind.u64.wrap ((x : Int) * 4294967296) = ((x * 2 ^ 32 % 2 ^ 64 : Nat) : Int) := by
    rw [IntKind.wrap_u64]; omega
  have hd : x / 2 ^ 32 < 18446744073709551616 := Nat.lt_of_le_of_lt (Nat.div_le_self _ _) hx
  rw [hw, show (x : Int) / 4294967296 = ((x / 2 ^ 32 : Nat) : Int) by omega, bits_or_u64_nat _ _ hd (Nat.mod_lt _ (by decide))]
  rfl
theorem stage1 (x : Nat) (hx : x < 18446744073709551616) : bits .or .u64 (bits .and .u64 ((x : Int) / 2) 6148914691236517205) (IntKind.u64.wrap (bits .and .u64 (x : Int) 6148914691236517205 * 2)) = ((swp 1 6148914691236517205 x : Nat) : Int) := by
  have h := stage 1 6148914691236517205 x (by decide) (by decide) hx
  rw [show ((2 ^ 1 : Nat) : Int) = 2 from rfl] at h
  exact h
theorem swlt1 (x : Nat) : swp 1 6148914691236517205 x < 18446744073709551616 := swp_lt (by decide) (by decide)
theorem stage2 (x : Nat) (hx : x < 18446744073709551616) : bits .or .u64 (bits .and .u64 ((x : Int) / 4) 3689348814741910323) (IntKind.u64.wrap (bits .and .u64 (x : Int) 3689348814741910323 * 4)) = ((swp 2 3689348814741910323 x : Nat) : Int) := by
  have h := stage 2 3689348814741910323 x (by decide) (by decide) hx
  rw [show ((2 ^ 2 : Nat) : Int) = 4 from rfl] at h
  exact h
theorem swlt2 (x : Nat) : swp 2 3689348814741910323 x < 18446744073709551616 := swp_lt (by decide) (by decide)
theorem stage4 (x : Nat) (hx : x < 18446744073709551616) : bits .or .u64 (bits .and .u64 ((x : Int) / 16) 1085102592571150095) (IntKind.u64.wrap (bits .and .u64 (x : Int) 1085102592571150095 * 16)) = ((swp 4 1085102592571150095 x : Nat) : Int) := by
  have h := stage 4 1085102592571150095 x (by decide) (by decide) hx
  rw [show ((2 ^ 4 : Nat) : Int) = 16 from rfl] at h
  exact h
theorem swlt4 (x : Nat) : swp 4 1085102592571150095 x < 18446744073709551616 := swp_lt (by decide) (by decide)
theorem stage8 (x : Nat) (hx : x < 18446744073709551616) : bits .or .u64 (bits .and .u64 ((x : Int) / 256) 71777214294589695) (IntKind.u64.wrap (bits .and .u64 (x : Int) 71777214294589695 * 256)) = ((swp 8 71777214294589695 x : Nat) : Int) := by
  have h := stage 8 71777214294589695 x (by decide) (by decide) hx
  rw [show ((2 ^ 8 : Nat) : Int) = 256 from rfl] at h
  exact h
theorem swlt8 (x : Nat) : swp 8 71777214294589695 x < 18446744073709551616 := swp_lt (by decide) (by decide)
theorem stage16 (x : Nat) (hx : x < 18446744073709551616) : bits .or .u64 (bits .and .u64 ((x : Int) / 65536) 281470681808895) (IntKind.u64.wrap (bits .and .u64 (x : Int) 281470681808895 * 65536)) = ((swp 16 281470681808895 x : Nat) : Int) := by
  have h := stage 16 281470681808895 x (by decide) (by decide) hx
  rw [show ((2 ^ 16 : Nat) : Int) = 65536 from rfl] at h
  exact h
theorem swlt16 (x : Nat) : swp 16 281470681808895 x < 18446744073709551616 := swp_lt (by decide) (by decide)
theorem rev8_any (x : Nat) (hx : x < 18446744073709551616) (w : World) :
    Calls Tryd.prog 150 #[.int .u64 (x : Int)] w fun e w' => e = .returned (.int .u64 ((revB x : Nat) : Int)) ∧ w = w' := by
  unfold revB
  have s8 := Lib.hid (stage8 x hx)
  have l8 := swlt8 x
  generalize swp 8 71777214294589695 x = y at *
  have s16 := Lib.hid (stage16 y l8)
  have l16 := swlt16 y
  generalize swp 16 281470681808895 y = z at *
  have s32 := Lib.hid (stageL z l16)
  go_enter Tryd.func150, Tryd.ntmps150
  go_upto_region 2 with (fail)
  rw [s8.out]
  go_upto_region 3 with (fail)
  rw [s16.out]
  go_wp2
  go_ret
  exact ⟨ret_u64 s32.out, rfl⟩
theorem rev64_any (x : Nat) (hx : x < 18446744073709551616) (w : World) :
    Calls Tryd.prog 101 #[.int .u64 (x : Int)] w fun e w' => e = .returned (.int .u64 ((revN x : Nat) : Int)) ∧ w = w' := by
  rw [← rev_eq x hx]
  have s1 := Lib.hid (stage1 x hx)
  have l1 := swlt1 x
  generalize swp 1 6148914691236517205 x = y at *
  have s2 := Lib.hid (stage2 y l1)
  have l2 := swlt2 y
  generalize swp 2 3689348814741910323 y = z at *
  have s4 := Lib.hid (stage4 z l2)
  have l4 := swlt4 z
  generalize swp 4 1085102592571150095 z = u at *
  have R8 := Lib.hid (rev8_any u l4)
  go_enter Tryd.func101, Tryd.ntmps101
  go_upto_region 2 with (fail)
  rw [s1.out]
  go_upto_region 3 with (fail)
  rw [s2.out]
  go_upto_region 4 with (fail)
  rw [s4.out]
  go_wp2_with (go_at_call 150; refine (R8.out _).mono ?_; rintro e w' ⟨rfl, rfl⟩)
  go_ret
  exact ⟨rfl, rfl⟩
theorem fnvH_succ (x n : Nat) : fnvH x (n + 1) = ((fnvH x n ^^^ (x / 256 ^ n % 256)) * 1099511628211) % 18446744073709551616 := rfl
theorem fnv_any (x : Nat) (hx : x < 18446744073709551616) (w : World) :
    Calls Tryd.prog 100 #[.int .u64 (x : Int)] w fun e w' => e = .returned (.int .u64 ((fnvH x 8 : Nat) : Int)) ∧ w = w' := by
  have HL := Lib.hid (fnvH_lt x)
  have HS := Lib.hid (fnvH_succ x)
  go_enter Tryd.func100, Tryd.ntmps100
  go_wp2
  go_loop [0, 3, 4] (fun v0 v3 v4 => ∃ k : Nat, k ≤ 8 ∧ v4 = .int .i64 (k : Int) ∧ v0 = .int .u64 ((x / 256 ^ k : Nat) : Int) ∧ v3 = .int .u64 ((fnvH x k : Nat) : Int)) (fun _ _ v4 => 8 - (intOf v4).toNat)
  case atStart => exact ⟨0, by omega, rfl, by simp, rfl⟩
  case round =>
    obtain ⟨k, hk, rfl, rfl, rfl⟩ := hrel
    by_cases hlt : k < 8
    · have h1 := HL.out k
      have hle : x / 256 ^ k ≤ x := Nat.div_le_self _ _
      have hq : x / 256 ^ k / 256 = x / 256 ^ (k + 1) := by rw [Nat.div_div_eq_div_mul, ← Nat.pow_succ]
      have HQ := Lib.hid hq
      have HS' := Lib.hid (HS.out k)
      clear hq
      generalize x / 256 ^ k = z at *
      generalize fnvH x k = h at *
      have hz : bits .and .u64 (z : Int) 255 = ((z % 256 : Nat) : Int) := by
        have := bits_and_u64_nat z 255 (by omega) (by decide)
        rw [show z &&& 255 = z % 256 from Nat.and_two_pow_sub_one_eq_mod z 8] at this
        exact this
      have hzl : z % 256 < 256 := Nat.mod_lt _ (by decide)
      have hxx := bits_xor_u64_nat h (z % 256) h1 (by omega)
      have hxl : h ^^^ (z % 256) < 18446744073709551616 := Nat.xor_lt_two_pow (n := 64) h1 (by omega)
      generalize z % 256 = y at *
      generalize h ^^^ y = u at *
      go_wp2
      go_round
      case rel => exact ⟨k + 1, by omega, by go_num, by rw [← HQ.out]; simp, by rw [HS'.out, IntKind.wrap_u64]; simp⟩
      case measure => simp [intOf]; omega
    · obtain rfl : k = 8 := by omega
      go_wp2
      go_ret
      exact ⟨rfl, rfl⟩

theorem mix_0 (x : Nat) : ((mixN 0 x : Nat) : Int) = (x : Int) := by rw [mixN_0]
theorem of_0 (x : Nat) (hx : x < 18446744073709551616) (w : World) : Calls Tryd.prog 16 #[.int .i64 0, .int .u64 (x : Int)] w fun e w' => e = .returned (.tuple #[.int .u64 ((mixN 0 x : Nat) : Int), .nilIface]) ∧ w = w' := by
  rw [mix_0]
  go_enter Tryd.func16, Tryd.ntmps16
  go_wp2
  go_ret2
  exact ⟨rfl, rfl⟩
theorem mix_1 (x : Nat) : ((mixN 1 x : Nat) : Int) = 0 := by rw [mixN_1]; rfl
theorem of_1 (x : Nat) (hx : x < 18446744073709551616) (w : World) : Calls Tryd.prog 16 #[.int .i64 1, .int .u64 (x : Int)] w fun e w' => e = .returned (.tuple #[.int .u64 ((mixN 1 x : Nat) : Int), .nilIface]) ∧ w = w' := by
  rw [mix_1]
  go_enter Tryd.func16, Tryd.ntmps16
  go_wp2
  go_ret2
  exact ⟨rfl, rfl⟩
theorem mix_2 (x : Nat) : ((mixN 2 x : Nat) : Int) = IntKind.u64.wrap ((x : Int) * 11400714819323198485) := by rw [IntKind.wrap_u64, mixN_2]; unfold mulF; omega
theorem of_2 (x : Nat) (hx : x < 18446744073709551616) (w : World) : Calls Tryd.prog 16 #[.int .i64 2, .int .u64 (x : Int)] w fun e w' => e = .returned (.tuple #[.int .u64 ((mixN 2 x : Nat) : Int), .nilIface]) ∧ w = w' := by
  rw [mix_2]
  go_enter Tryd.func16, Tryd.ntmps16
  go_wp2
  go_ret2
  exact ⟨rfl, rfl⟩
theorem mix_3 (x : Nat) : ((mixN 3 x : Nat) : Int) = ((fnvH x 8 : Nat) : Int) := by rw [mixN_3]
theorem of_3 (x : Nat) (hx : x < 18446744073709551616) (w : World) : Calls Tryd.prog 16 #[.int .i64 3, .int .u64 (x : Int)] w fun e w' => e = .returned (.tuple #[.int .u64 ((mixN 3 x : Nat) : Int), .nilIface]) ∧ w = w' := by
  rw [mix_3]
  have FN := fnv_any x hx
  generalize fnvH x 8 = y at *
  replace FN := Lib.hid FN
  go_enter Tryd.func16, Tryd.ntmps16
  go_wp2_with (go_at_call 100; refine (FN.out _).mono ?_; rintro e w' ⟨rfl, rfl⟩)
  go_ret2
  exact ⟨rfl, rfl⟩
theorem mix_4 (x : Nat) : ((mixN 4 x : Nat) : Int) = ((revN x : Nat) : Int) := by rw [mixN_4]
theorem of_4 (x : Nat) (hx : x < 18446744073709551616) (w : World) : Calls Tryd.prog 16 #[.int .i64 4, .int .u64 (x : Int)] w fun e w' => e = .returned (.tuple #[.int .u64 ((mixN 4 x : Nat) : Int), .nilIface]) ∧ w = w' := by
  rw [mix_4]
  have RV := rev64_any x hx
  generalize revN x = y at *
  replace RV := Lib.hid RV
  go_enter Tryd.func16, Tryd.ntmps16
  go_wp2_with (go_at_call 101; refine (RV.out _).mono ?_; rintro e w' ⟨rfl, rfl⟩)
  go_ret2
  exact ⟨rfl, rfl⟩
theorem mix_5 (x : Nat) : ((mixN 5 x : Nat) : Int) = IntKind.u64.wrap ((x : Int) * 288230376151711744) := by rw [IntKind.wrap_u64, mixN_5]; unfold shlF; omega
theorem of_5 (x : Nat) (hx : x < 18446744073709551616) (w : World) : Calls Tryd.prog 16 #[.int .i64 5, .int .u64 (x : Int)] w fun e w' => e = .returned (.tuple #[.int .u64 ((mixN 5 x : Nat) : Int), .nilIface]) ∧ w = w' := by
  rw [mix_5]
  go_enter Tryd.func16, Tryd.ntmps16
  go_wp2
  go_ret2
  exact ⟨rfl, rfl⟩
theorem of_ok (k x : Nat) (hk : k ≤ 5) (hx : x < 18446744073709551616) (w : World) : Calls Tryd.prog 16 #[.int .i64 (k : Int), .int .u64 (x : Int)] w fun e w' => e = .returned (.tuple #[.int .u64 ((mixN k x : Nat) : Int), .nilIface]) ∧ w = w' := by
  have h : k = 0 ∨ k = 1 ∨ k = 2 ∨ k = 3 ∨ k = 4 ∨ k = 5 := by omega
  rcases h with rfl | rfl | rfl | rfl | rfl | rfl
  · exact of_0 x hx w
  · exact of_1 x hx w
  · exact of_2 x hx w
  · exact of_3 x hx w
  · exact of_4 x hx w
  · exact of_5 x hx w
theorem of_bad (k : Int) (x : Nat) (hk : k < 0 ∨ 5 < k) (E : Nat → Addr) (w : World) (he : EC w E [14]) : Calls Tryd.prog 16 #[.int .i64 k, .int .u64 (x : Int)] w fun e w' => e = .returned (.tuple #[.int .u64 0, errAt E 14]) ∧ Below w.heap.size w w' := by
  have hc : w.cell? ⟨0, 0, none⟩ = some (errAt E 14) := he 14 (by decide)
  have e0 : (k == 0) = false := by simp; omega
  have e1 : (k == 1) = false := by simp; omega
  have e2 : (k == 2) = false := by simp; omega
  have e3 : (k == 3) = false := by simp; omega
  have e4 : (k == 4) = false := by simp; omega
  have e5 : (k == 5) = false := by simp; omega
  clear he hk
  go_enter Tryd.func16, Tryd.ntmps16
  go_wp2
  refine wp_region_seq (fun _ => False) #[⟨0, 0, 268435456, 0, 1⟩, ⟨0, 0, 16, 0, 0⟩, ⟨3, 3, 32, 268435456, 0⟩] 1 [(0, 1), (1, 0), (2, 0)] (by kernel_rfl) (by kernel_rfl) (by kernel_rfl) (by kernel_rfl) (by kernel_rfl) (by kernel_rfl) (fun c a d v w h => by cases d <;> exact h) ?_
  refine seq_load1 (by simp only [List.getElem?_toArray, List.getElem?_cons_succ, List.getElem?_cons_zero]; rfl) (by rfl) rfl rfl Tryd.underlying25 rfl (by go_simp <;> with_reducible rfl) (by first | exact id | assumption | (simp; done) | (simp; omega)) ?_
  try simp only [Act.put, List.setIfInBounds_toArray, List.set_cons_zero, List.set_cons_succ]
  refine seq_calc (by simp only [List.getElem?_toArray, List.getElem?_cons_succ, List.getElem?_cons_zero]; rfl) (by rfl) (fun u => by go_simp <;> with_reducible rfl) ?_
  try simp only [Act.put, List.setIfInBounds_toArray, List.set_cons_zero, List.set_cons_succ]
  refine seq_calc (by simp only [List.getElem?_toArray, List.getElem?_cons_succ, List.getElem?_cons_zero]; rfl) (by rfl) (fun u => by go_simp <;> with_reducible rfl) ?_
  try simp only [Act.put, List.setIfInBounds_toArray, List.set_cons_zero, List.set_cons_succ]
  refine seq_nil ?_
  go_wp2
  go_ret2
  exact ⟨rfl, (Below.refl _ _).drew⟩
/-- an inverse -/
def InvOf (n : Nat) (w : World) (e : Ending) (w' : World) : Prop := ∃ y : Nat, y < 18446744073709551616 ∧ (n : Int) * (y : Int) % 18446744073709551616 = 1 ∧ e = .returned (.tuple #[.int .u64 (y : Int), .nilIface]) ∧ w = w'
/-- where a round's count stands -/
def InvG (e g : Nat) : Prop := e = 3 ∧ g = 6 ∨ e = 6 ∧ g = 5 ∨ e = 12 ∧ g = 4 ∨ e = 24 ∧ g = 3 ∨ e = 48 ∧ g = 2 ∨ e = 64 ∧ g = 1
theorem inv_round (n x : Nat) (p q : Int) (e g : Nat) (hp : (n : Int) * (x : Int) % 18446744073709551616 = p) (hq : q = (x : Int) * ((2 - p) % 18446744073709551616) % 18446744073709551616) (hi : Inv n x e) (hg : InvG e g) (h1 : (p == 1) = false) :
    ∃ g', g' < g ∧ ∃ e', InvG e' g' ∧ Inv n q e' := by
  have h1' : p ≠ 1 := by simpa using h1
  have hd : (18446744073709551616 : Int) ∣ q - (x : Int) * (2 - (n : Int) * (x : Int)) := by
    rw [hq, ← hp]
    generalize (n : Int) * (x : Int) = z
    have a1 : (18446744073709551616 : Int) ∣ (2 - z % 18446744073709551616) % 18446744073709551616 - (2 - z) := by omega
    obtain ⟨r, hr⟩ := a1
    rw [show (2 - z % 18446744073709551616) % 18446744073709551616 = (2 - z) + 18446744073709551616 * r by omega, Int.mul_add, Int.mul_left_comm]
    generalize (x : Int) * (2 - z) = u
    generalize (x : Int) * r = v
    omega
  have hs := inv_step n x q e (by omega) hi hd
  unfold InvG at hg
  rcases hg with ⟨rfl, rfl⟩ | ⟨rfl, rfl⟩ | ⟨rfl, rfl⟩ | ⟨rfl, rfl⟩ | ⟨rfl, rfl⟩ | ⟨rfl, rfl⟩
  · exact ⟨5, by decide, 6, .inr (.inl ⟨rfl, rfl⟩), hs⟩
  · exact ⟨4, by decide, 12, .inr (.inr (.inl ⟨rfl, rfl⟩)), hs⟩
  · exact ⟨3, by decide, 24, .inr (.inr (.inr (.inl ⟨rfl, rfl⟩))), hs⟩
  · exact ⟨2, by decide, 48, .inr (.inr (.inr (.inr (.inl ⟨rfl, rfl⟩)))), hs⟩
  · exact ⟨1, by decide, 64, .inr (.inr (.inr (.inr (.inr ⟨rfl, rfl⟩)))), hs⟩
  · exact absurd ((inv_end n x hi).symm.trans hp).symm h1'
end Go.Proofs.YtplimhllfbdocaaDoor
