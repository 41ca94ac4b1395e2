/- The walk of MixBack. Condition: the errors. -/
import Derived.Test.YtdlfkjpnbgobhaaDoorMix
namespace Go.Proofs.YtdlfkjpnbgobhaaDoor
set_option linter.unusedVariables false
set_option linter.unusedSimpArgs false
open Go.RowKit Go.Proofs

theorem alive29_any (w : World) : Calls Tryd.prog 31 #[] w fun e w' => e = .returned (.bool true) ∧ w = w' := by
  have A : ∀ w : World, Calls Tryd.prog 43 #[.int .i64 4, .int .u64 1] w fun e w' => e = .returned (.tuple #[.int .u64 9223372036854775808, .nilIface]) ∧ w = w' := fun w => by
    have h := of_4 1 (by decide) w
    rw [mixN_4, show revN 1 = 9223372036854775808 by decide +kernel] at h
    exact h
  have B : ∀ w : World, Calls Tryd.prog 43 #[.int .i64 2, .int .u64 2] w fun e w' => e = .returned (.tuple #[.int .u64 4354685564936845354, .nilIface]) ∧ w = w' := fun w => by
    have h := of_2 2 (by decide) w
    rw [mixN_2, show mulF 2 = 4354685564936845354 by decide +kernel] at h
    exact h
  have C : ∀ w : World, Calls Tryd.prog 43 #[.int .i64 5, .int .u64 33] w fun e w' => e = .returned (.tuple #[.int .u64 9511602413006487552, .nilIface]) ∧ w = w' := fun w => by
    have h := of_5 33 (by decide) w
    rw [mixN_5, show shlF 33 = 9511602413006487552 by decide +kernel] at h
    exact h
  replace A := Lib.hid A
  replace B := Lib.hid B
  replace C := Lib.hid C
  go_enter Tryd.func31, Tryd.ntmps31
  go_wp2_with (go_at_call 43; (first | (with_reducible refine (A.out _).mono ?_) | (with_reducible refine (B.out _).mono ?_) | (with_reducible refine (C.out _).mono ?_)); rintro e w' ⟨rfl, rfl⟩)
  go_ret
  exact ⟨rfl, rfl⟩
/-- a key that comes back -/
def BackOk (k a : Nat) (w : World) (e : Ending) (w' : World) : Prop := ∃ y : Nat, y < 18446744073709551616 ∧ mixN k y = a ∧ e = .returned (.tuple #[.int .u64 (y : Int), .nilIface]) ∧ w = w'
theorem back_0 (a : Nat) (ha : a < 18446744073709551616) (w : World) : Calls Tryd.prog 48 #[.int .i64 0, .int .u64 (a : Int)] w (BackOk 0 a w) := by
  have O := fun w => of_0 a ha w
  rw [mixN_0] at O
  replace O := Lib.hid O
  go_enter Tryd.func48, Tryd.ntmps48
  go_wp2_with (go_at_call 43; refine (O.out _).mono ?_; rintro e w' ⟨rfl, rfl⟩)
  go_ret2
  exact ⟨a, ha, mixN_0 a, rfl, rfl⟩
theorem back_4 (a : Nat) (ha : a < 18446744073709551616) (w : World) : Calls Tryd.prog 48 #[.int .i64 4, .int .u64 (a : Int)] w (BackOk 4 a w) := by
  have O := fun w => of_4 a ha w
  rw [mixN_4] at O
  have hb := Lib.hid (show mixN 4 (revN a) = a by rw [mixN_4, revN_rev a ha])
  have hl := revN_lt a
  generalize revN a = y at *
  replace O := Lib.hid O
  go_enter Tryd.func48, Tryd.ntmps48
  go_wp2_with (go_at_call 43; refine (O.out _).mono ?_; rintro e w' ⟨rfl, rfl⟩)
  go_ret2
  exact ⟨y, hl, hb.out, rfl, rfl⟩
theorem back_eq (M F a y q : Int) (h : F * y % M = 1) (hq : q = a * y % M) (ha : 0 ≤ a) (hb : a < M) : q * F % M = a := by
  rw [hq, Int.mul_emod, Int.emod_emod, ← Int.mul_emod, Int.mul_assoc, Int.mul_comm y, Int.mul_emod, h, Int.mul_one, Int.emod_emod]
  exact Int.emod_eq_of_lt ha hb
theorem mulF_int (q : Int) (h0 : 0 ≤ q) : ((mulF q.toNat : Nat) : Int) = q * 11400714819323198485 % 18446744073709551616 := by unfold mulF; omega
theorem u64_range (q z : Int) (hq : q = z % 18446744073709551616) : 0 ≤ q ∧ q < 18446744073709551616 := by omega
theorem mul_back1 (a y : Nat) (q : Int) (ha : a < 18446744073709551616) (h : (11400714819323198485 : Int) * (y : Int) % 18446744073709551616 = 1) (hq : q = (a : Int) * (y : Int) % 18446744073709551616) : q * 11400714819323198485 % 18446744073709551616 = (a : Int) :=
  back_eq _ _ _ _ _ h hq (Int.natCast_nonneg _) (Int.ofNat_lt.2 ha)
theorem mul_back2 (a : Nat) (q : Int) (h0 : 0 ≤ q) (e : q * 11400714819323198485 % 18446744073709551616 = (a : Int)) : mixN 2 q.toNat = a := (mixN_2 _).trans (Int.ofNat.inj ((mulF_int q h0).trans e))
theorem mul_back (a y : Nat) (ha : a < 18446744073709551616) (h : (11400714819323198485 : Int) * (y : Int) % 18446744073709551616 = 1) (q : Int) (hq : q = (a : Int) * (y : Int) % 18446744073709551616) :
    0 ≤ q ∧ q < 18446744073709551616 ∧ mixN 2 q.toNat = a :=
  ⟨(u64_range q _ hq).1, (u64_range q _ hq).2, mul_back2 a q (u64_range q _ hq).1 (mul_back1 a y q ha h hq)⟩
/-- the factor's inverse -/
def InvF (w : World) (e : Ending) (w' : World) : Prop := ∃ y : Nat, y < 18446744073709551616 ∧ (11400714819323198485 : Int) * (y : Int) % 18446744073709551616 = 1 ∧ e = .returned (.tuple #[.int .u64 (y : Int), .nilIface]) ∧ w = w'
theorem facF (y : Nat) (h : ((11400714819323198485 : Nat) : Int) * (y : Int) % 18446744073709551616 = 1) : (11400714819323198485 : Int) * (y : Int) % 18446744073709551616 = 1 := by omega
theorem inverse_fac (w : World) : Calls Tryd.prog 49 #[.int .u64 11400714819323198485] w (InvF w) :=
  (inverse_odd 11400714819323198485 (by decide) (by decide) w).mono fun e w' ⟨y, hy, h, he, hw⟩ => ⟨y, hy, facF y h, he, hw⟩
theorem back_2 (a : Nat) (ha : a < 18446744073709551616) (w : World) : Calls Tryd.prog 48 #[.int .i64 2, .int .u64 (a : Int)] w (BackOk 2 a w) := by
  have I := Lib.hid inverse_fac
  have MB := Lib.hid (fun y => mul_back a y ha)
  go_enter Tryd.func48, Tryd.ntmps48
  go_wp2_with (go_at_call 49; refine (I.out _).mono ?_; rintro e w' ⟨y, hy, hi, rfl, rfl⟩; obtain ⟨q, hq⟩ : ∃ q, q = IntKind.u64.wrap ((a : Int) * (y : Int)) := ⟨_, rfl⟩; have hq2 := MB.out y hi q (by rw [hq, IntKind.wrap_u64]); replace hq2 := Lib.hid hq2; replace hq := hq.symm; clear hi)
  go_ret2
  obtain ⟨q0, q1, q2⟩ := hq2.out
  exact ⟨q.toNat, by omega, q2, by rw [Int.toNat_of_nonneg q0]; rfl, rfl⟩
theorem back_bad (k : Int) (a : Nat) (hk : k ≠ 0 ∧ k ≠ 2 ∧ k ≠ 4) (E : Nat → Addr) (w : World) (he : EC w E [14]) : Calls Tryd.prog 48 #[.int .i64 k, .int .u64 (a : Int)] w fun e w' => e = .returned (.tuple #[.int .u64 0, errAt E 14]) ∧ Below w.heap.size w w' := by
  have hc : w.cell? ⟨0, 0, none⟩ = some (errAt E 14) := he 14 (by decide)
  obtain ⟨k0, k2, k4⟩ := hk
  have e0 : (k == 0) = false := by simpa using k0
  have e2 : (k == 2) = false := by simpa using k2
  have e4 : (k == 4) = false := by simpa using k4
  clear he k0 k2 k4
  go_enter Tryd.func48, Tryd.ntmps48
  go_wp2
  refine wp_region_seq (fun _ => False) #[⟨0, 0, 134217728, 0, 1⟩, ⟨0, 0, 16, 0, 0⟩, ⟨3, 3, 32, 134217728, 0⟩] 1 [(0, 1), (1, 0), (2, 0)] (by kernel_rfl) (by kernel_rfl) (by kernel_rfl) (by kernel_rfl) (by kernel_rfl) (by kernel_rfl) (fun c a d v w h => by cases d <;> exact h) ?_
  refine seq_load1 (by simp only [List.getElem?_toArray, List.getElem?_cons_succ, List.getElem?_cons_zero]; rfl) (by rfl) rfl rfl Tryd.underlying43 rfl (by go_simp <;> with_reducible rfl) (by first | exact id | assumption | (simp; done) | (simp; omega)) ?_
  try simp only [Act.put, List.setIfInBounds_toArray, List.set_cons_zero, List.set_cons_succ]
  refine seq_calc (by simp only [List.getElem?_toArray, List.getElem?_cons_succ, List.getElem?_cons_zero]; rfl) (by rfl) (fun u => by go_simp <;> with_reducible rfl) ?_
  try simp only [Act.put, List.setIfInBounds_toArray, List.set_cons_zero, List.set_cons_succ]
  refine seq_calc (by simp only [List.getElem?_toArray, List.getElem?_cons_succ, List.getElem?_cons_zero]; rfl) (by rfl) (fun u => by go_simp <;> with_reducible rfl) ?_
  try simp only [Act.put, List.setIfInBounds_toArray, List.set_cons_zero, List.set_cons_succ]
  refine seq_nil ?_
  go_wp2
  go_ret2
  exact ⟨rfl, (Below.refl _ _).drew⟩
theorem mix_inj0 (a b : Nat) : mixN 0 a = mixN 0 b ↔ a = b := by rw [mixN_0, mixN_0]
theorem mix_inj4 (a b : Nat) (ha : a < 18446744073709551616) (hb : b < 18446744073709551616) : mixN 4 a = mixN 4 b ↔ a = b := by
  rw [mixN_4, mixN_4]
  refine ⟨fun h => ?_, fun h => by rw [h]⟩
  have := congrArg revN h
  rwa [revN_rev a ha, revN_rev b hb] at this
theorem inv_exists : ∃ y : Int, (11400714819323198485 : Int) * y % 18446744073709551616 = 1 := ⟨17428512612931826493, by decide +kernel⟩
theorem mulF_nat (a : Nat) : ((mulF a : Nat) : Int) = (a : Int) * 11400714819323198485 % 18446744073709551616 := by unfold mulF; omega
theorem nat_range (a : Nat) (ha : a < 18446744073709551616) : 0 ≤ (a : Int) ∧ (a : Int) < 18446744073709551616 := ⟨Int.natCast_nonneg _, Int.ofNat_lt.2 ha⟩
theorem mulF_inj (a b : Nat) (ha : a < 18446744073709551616) (hb : b < 18446744073709551616) (h : mulF a = mulF b) : a = b := by
  obtain ⟨y, hy⟩ := inv_exists
  exact Int.ofNat.inj (mul_inj _ y a b hy (nat_range a ha) (nat_range b hb) ((mulF_nat a).symm.trans ((congrArg Int.ofNat h).trans (mulF_nat b))))
theorem mix_inj2 (a b : Nat) (ha : a < 18446744073709551616) (hb : b < 18446744073709551616) : mixN 2 a = mixN 2 b ↔ a = b :=
  ⟨fun h => mulF_inj a b ha hb ((mixN_2 a).symm.trans (h.trans (mixN_2 b))), fun h => by rw [h]⟩
theorem beq_of {a b x y : Nat} (h : x = y ↔ a = b) : ((x : Int) == (y : Int)) = ((a : Int) == (b : Int)) := by
  rw [Bool.eq_iff_iff, beq_iff_eq, beq_iff_eq]; omega
theorem wrap_one (b y : Nat) (h : (b : Int) * (y : Int) % 18446744073709551616 = 1) : IntKind.u64.wrap ((y : Int) * (b : Int)) = 1 := by rw [IntKind.wrap_u64, Int.mul_comm]; exact h
set_option maxRecDepth 100000 in
set_option maxHeartbeats 4000000 in
theorem mixBack_any (k : Int) (a b : Nat) (ha : a < 18446744073709551616) (hb : b < 18446744073709551616) (E : Nat → Addr) (w0 : World) (he : ErrsAre w0 E) :
    Calls Tryd.prog 7 #[.int .i64 k, .int .u64 (a : Int), .int .u64 (b : Int)] w0 fun e w' => e = .returned (.bool true) ∧ Below w0.heap.size w0 w' := by
  have HE := Lib.hid he
  have HE3 := Lib.hid (show EC w0 E [13, 14] from he.ec.sub (by decide))
  have AL := Lib.hid alive29_any
  clear he
  by_cases k0 : k = 0
  · subst k0
    have BK := Lib.hid (fun w => back_0 a ha w)
    have OF := fun x hx w => of_0 x hx w
    have bq := beq_of (mix_inj0 a b )
    have O1 := OF a ha
    have O2 := OF b hb
    replace OF := Lib.hid OF
    generalize mixN 0 a = x at *
    generalize mixN 0 b = y at *
    replace O1 := Lib.hid O1
    replace O2 := Lib.hid O2
    have aa : ((a : Int) != (a : Int)) = false := by simp
    have ab : (((a : Int) == (b : Int)) != ((a : Int) == (b : Int))) = false := by simp
    go_enter Tryd.func7, Tryd.ntmps7
    go_upto_region 12 with (first
      | (go_at_call 31; refine (AL.out _).mono ?_; rintro e w' ⟨rfl, rfl⟩)
      | (go_at_call 48; refine (BK.out _).mono ?_; rintro e w' ⟨z, hz, hza, rfl, rfl⟩; have O3 := OF.out z hz; rw [hza] at O3; replace O3 := Lib.hid O3; clear hza)
      | (go_at_call 43; (first | (with_reducible refine (O1.out _).mono ?_) | (with_reducible refine (O2.out _).mono ?_) | (with_reducible refine (O3.out _).mono ?_)); rintro e w' ⟨rfl, rfl⟩))
    clear bq
    have HB : Below w0.heap.size w0 w0 := Below.refl _ _
    by_cases hb2 : b % 2 = 0
    · have IV := Lib.hid (fun w' h => inverse_even b hb2 E w' h)
      have NV := Lib.hid (fun w' h => num_any E 13 (by decide) w' h)
      simp only [errN, errAt] at NV IV
      have q1 : ((b : Int) % 2 == 0) = true := by simp; omega
      have q2 : (b % 2 == 0) = true := by simp; omega
      clear hb2
      go_wp2_with (first
        | (go_at_call 49; refine (IV.out _ ((HE3.out.below HB).sub (by decide))).mono ?_; rintro e w5 ⟨rfl, hb5⟩; have HB5 := HB.trans (hb5.mono HB.size))
        | (go_at_call 40; refine (NV.out _ (HE.out.below HB5)).mono ?_; rintro e w6 ⟨rfl, hb6⟩))
      go_ret
      exact ⟨rfl, HB5.trans (hb6.mono HB5.size)⟩
    · have IV := Lib.hid (fun w' => inverse_odd b hb (by omega) w')
      have WO := Lib.hid (wrap_one b)
      have q1 : ((b : Int) % 2 == 0) = false := by simp; omega
      have q2 : (b % 2 == 0) = false := by simp; omega
      clear hb2
      go_wp2_with (go_at_call 49; refine (IV.out _).mono ?_; rintro e w' ⟨y, hy, hi, rfl, rfl⟩; have hwo := WO.out y hi; clear hi)
      go_ret
      exact ⟨rfl, HB⟩
  by_cases k2 : k = 2
  · subst k2
    clear k0
    have BK := Lib.hid (fun w => back_2 a ha w)
    have OF := fun x hx w => of_2 x hx w
    have bq := beq_of (mix_inj2 a b ha hb)
    have O1 := OF a ha
    have O2 := OF b hb
    replace OF := Lib.hid OF
    generalize mixN 2 a = x at *
    generalize mixN 2 b = y at *
    replace O1 := Lib.hid O1
    replace O2 := Lib.hid O2
    have aa : ((a : Int) != (a : Int)) = false := by simp
    have ab : (((a : Int) == (b : Int)) != ((a : Int) == (b : Int))) = false := by simp
    go_enter Tryd.func7, Tryd.ntmps7
    go_upto_region 12 with (first
      | (go_at_call 31; refine (AL.out _).mono ?_; rintro e w' ⟨rfl, rfl⟩)
      | (go_at_call 48; refine (BK.out _).mono ?_; rintro e w' ⟨z, hz, hza, rfl, rfl⟩; have O3 := OF.out z hz; rw [hza] at O3; replace O3 := Lib.hid O3; clear hza)
      | (go_at_call 43; (first | (with_reducible refine (O1.out _).mono ?_) | (with_reducible refine (O2.out _).mono ?_) | (with_reducible refine (O3.out _).mono ?_)); rintro e w' ⟨rfl, rfl⟩))
    clear bq
    have HB : Below w0.heap.size w0 w0 := Below.refl _ _
    by_cases hb2 : b % 2 = 0
    · have IV := Lib.hid (fun w' h => inverse_even b hb2 E w' h)
      have NV := Lib.hid (fun w' h => num_any E 13 (by decide) w' h)
      simp only [errN, errAt] at NV IV
      have q1 : ((b : Int) % 2 == 0) = true := by simp; omega
      have q2 : (b % 2 == 0) = true := by simp; omega
      clear hb2
      go_wp2_with (first
        | (go_at_call 49; refine (IV.out _ ((HE3.out.below HB).sub (by decide))).mono ?_; rintro e w5 ⟨rfl, hb5⟩; have HB5 := HB.trans (hb5.mono HB.size))
        | (go_at_call 40; refine (NV.out _ (HE.out.below HB5)).mono ?_; rintro e w6 ⟨rfl, hb6⟩))
      go_ret
      exact ⟨rfl, HB5.trans (hb6.mono HB5.size)⟩
    · have IV := Lib.hid (fun w' => inverse_odd b hb (by omega) w')
      have WO := Lib.hid (wrap_one b)
      have q1 : ((b : Int) % 2 == 0) = false := by simp; omega
      have q2 : (b % 2 == 0) = false := by simp; omega
      clear hb2
      go_wp2_with (go_at_call 49; refine (IV.out _).mono ?_; rintro e w' ⟨y, hy, hi, rfl, rfl⟩; have hwo := WO.out y hi; clear hi)
      go_ret
      exact ⟨rfl, HB⟩
  by_cases k4 : k = 4
  · subst k4
    clear k0 k2
    have BK := Lib.hid (fun w => back_4 a ha w)
    have OF := fun x hx w => of_4 x hx w
    have bq := beq_of (mix_inj4 a b ha hb)
    have O1 := OF a ha
    have O2 := OF b hb
    replace OF := Lib.hid OF
    generalize mixN 4 a = x at *
    generalize mixN 4 b = y at *
    replace O1 := Lib.hid O1
    replace O2 := Lib.hid O2
    have aa : ((a : Int) != (a : Int)) = false := by simp
    have ab : (((a : Int) == (b : Int)) != ((a : Int) == (b : Int))) = false := by simp
    go_enter Tryd.func7, Tryd.ntmps7
    go_upto_region 12 with (first
      | (go_at_call 31; refine (AL.out _).mono ?_; rintro e w' ⟨rfl, rfl⟩)
      | (go_at_call 48; refine (BK.out _).mono ?_; rintro e w' ⟨z, hz, hza, rfl, rfl⟩; have O3 := OF.out z hz; rw [hza] at O3; replace O3 := Lib.hid O3; clear hza)
      | (go_at_call 43; (first | (with_reducible refine (O1.out _).mono ?_) | (with_reducible refine (O2.out _).mono ?_) | (with_reducible refine (O3.out _).mono ?_)); rintro e w' ⟨rfl, rfl⟩))
    clear bq
    have HB : Below w0.heap.size w0 w0 := Below.refl _ _
    by_cases hb2 : b % 2 = 0
    · have IV := Lib.hid (fun w' h => inverse_even b hb2 E w' h)
      have NV := Lib.hid (fun w' h => num_any E 13 (by decide) w' h)
      simp only [errN, errAt] at NV IV
      have q1 : ((b : Int) % 2 == 0) = true := by simp; omega
      have q2 : (b % 2 == 0) = true := by simp; omega
      clear hb2
      go_wp2_with (first
        | (go_at_call 49; refine (IV.out _ ((HE3.out.below HB).sub (by decide))).mono ?_; rintro e w5 ⟨rfl, hb5⟩; have HB5 := HB.trans (hb5.mono HB.size))
        | (go_at_call 40; refine (NV.out _ (HE.out.below HB5)).mono ?_; rintro e w6 ⟨rfl, hb6⟩))
      go_ret
      exact ⟨rfl, HB5.trans (hb6.mono HB5.size)⟩
    · have IV := Lib.hid (fun w' => inverse_odd b hb (by omega) w')
      have WO := Lib.hid (wrap_one b)
      have q1 : ((b : Int) % 2 == 0) = false := by simp; omega
      have q2 : (b % 2 == 0) = false := by simp; omega
      clear hb2
      go_wp2_with (go_at_call 49; refine (IV.out _).mono ?_; rintro e w' ⟨y, hy, hi, rfl, rfl⟩; have hwo := WO.out y hi; clear hi)
      go_ret
      exact ⟨rfl, HB⟩
  have BK := Lib.hid (fun w' h => back_bad k a ⟨k0, k2, k4⟩ E w' h)
  have NU := Lib.hid (fun w' h => num_any E 14 (by decide) w' h)
  simp only [errN, errAt] at NU BK
  have e0 : (k != 0) = true := by simpa using k0
  have e2 : (k != 2) = true := by simpa using k2
  have e4 : (k != 4) = true := by simpa using k4
  clear k0 k2 k4
  go_enter Tryd.func7, Tryd.ntmps7
  go_upto_region 12 with (first
    | (go_at_call 31; refine (AL.out _).mono ?_; rintro e w' ⟨rfl, rfl⟩)
    | (go_at_call 48; refine (BK.out _ (HE3.out.sub (by decide))).mono ?_; rintro e w1 ⟨rfl, hb1⟩)
    | (go_at_call 40; refine (NU.out _ (HE.out.below hb1)).mono ?_; rintro e w2 ⟨rfl, hb2⟩))
  have HB := hb1.trans (hb2.mono hb1.size)
  by_cases hb2 : b % 2 = 0
  · have IV := Lib.hid (fun w' h => inverse_even b hb2 E w' h)
    have NV := Lib.hid (fun w' h => num_any E 13 (by decide) w' h)
    simp only [errN, errAt] at NV IV
    have q1 : ((b : Int) % 2 == 0) = true := by simp; omega
    have q2 : (b % 2 == 0) = true := by simp; omega
    clear hb2
    go_wp2_with (first
      | (go_at_call 49; refine (IV.out _ ((HE3.out.below HB).sub (by decide))).mono ?_; rintro e w5 ⟨rfl, hb5⟩; have HB5 := HB.trans (hb5.mono HB.size))
      | (go_at_call 40; refine (NV.out _ (HE.out.below HB5)).mono ?_; rintro e w6 ⟨rfl, hb6⟩))
    go_ret
    exact ⟨rfl, HB5.trans (hb6.mono HB5.size)⟩
  · have IV := Lib.hid (fun w' => inverse_odd b hb (by omega) w')
    have WO := Lib.hid (wrap_one b)
    have q1 : ((b : Int) % 2 == 0) = false := by simp; omega
    have q2 : (b % 2 == 0) = false := by simp; omega
    clear hb2
    go_wp2_with (go_at_call 49; refine (IV.out _).mono ?_; rintro e w' ⟨y, hy, hi, rfl, rfl⟩; have hwo := WO.out y hi; clear hi)
    go_ret
    exact ⟨rfl, HB⟩
end Go.Proofs.YtdlfkjpnbgobhaaDoor
