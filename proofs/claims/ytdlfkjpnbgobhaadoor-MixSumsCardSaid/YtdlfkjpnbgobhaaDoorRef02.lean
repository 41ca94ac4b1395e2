/- The document's slots. No condition. -/
import Derived.Test.YtdlfkjpnbgobhaaDoorCtrlText
namespace Go.Proofs.YtdlfkjpnbgobhaaDoor
set_option linter.unusedVariables false
set_option linter.unusedSimpArgs false
open Go.RowKit Go.Proofs

theorem kind_any (b : Nat) (hb : b < 256) (w : World) :
    Calls Tryd.prog 83 #[.int .u8 (b : Int)] w fun e w' => e = .returned (.int .i64 ((kindN b : Nat) : Int)) ∧ w = w' := by
  by_cases h1 : b = 128
  · subst h1
    go_enter Tryd.func83, Tryd.ntmps83
    go_wp2
    go_ret
    exact ⟨rfl, rfl⟩
  by_cases h2 : b = 254
  · subst h2
    go_enter Tryd.func83, Tryd.ntmps83
    go_wp2
    go_ret
    exact ⟨rfl, rfl⟩
  have e1 : ((b : Int) == 128) = false := by simp; omega
  have e2 : ((b : Int) == 254) = false := by simp; omega
  by_cases h3 : b < 128
  · rw [show kindN b = 3 by unfold kindN; rw [if_neg h1, if_neg h2, if_pos h3]]
    have e3 : decide ((b : Int) < 128) = true := by simp; omega
    clear h1 h2 h3
    go_enter Tryd.func83, Tryd.ntmps83
    go_wp2
    go_ret
    exact ⟨rfl, rfl⟩
  · rw [show kindN b = 0 by unfold kindN; rw [if_neg h1, if_neg h2, if_neg h3]]
    have e3 : decide ((b : Int) < 128) = false := by simp; omega
    clear h1 h2 h3
    go_enter Tryd.func83, Tryd.ntmps83
    go_wp2
    go_ret
    exact ⟨rfl, rfl⟩
set_option maxRecDepth 100000 in
set_option maxHeartbeats 4000000 in
theorem rright_any (m : Nat) (hm : m < 18446744073709551616) (w0 : World) :
    Calls Tryd.prog 27 #[.int .u64 (m : Int)] w0 fun e w' => e = .returned (.bool (rightB m)) ∧ Below w0.heap.size w0 w' := by
  have hl := Lib.hid (refLanes_any m hm)
  have IX := Lib.hid (ix_byte (ln m))
  have KD := Lib.hid (fun (k : Nat) (w : World) => kind_any (ln m k) (ln_lt m k) w)
  go_enter Tryd.func27, Tryd.ntmps27
  go_wp2_with (go_at_call 18; refine (hl.out _).mono ?_; rintro e w1 ⟨rfl, hb1⟩)
  go_loop [4, 7] (fun _ v7 => ∃ k : Nat, k ≤ 8 ∧ v7 = .int .i64 (k : Int) ∧ ∀ j, j < k → ctrlB (ln m j) = true) (fun _ v7 => 8 - (intOf v7).toNat)
  case atStart => exact ⟨0, by omega, rfl, fun j hj => absurd hj (by omega)⟩
  case round =>
    obtain ⟨k, hk, rfl, hj⟩ := hrel
    have HJ := Lib.hid hj
    clear hj
    by_cases hlt : k < 8
    · have ix := IX.out k hlt
      have kd := KD.out k
      cases hc : ctrlB (ln m k)
      · have hz := (kindN_ctrl (ln m k)).2 hc
        rw [hz] at kd
        have hr : rightB m = false := by
          cases h : rightB m
          · rfl
          · exact absurd ((rightB_iff m).1 h k hlt) (by rw [hc]; decide)
        have HR := Lib.hid hr
        clear hz hc hr
        replace kd := Lib.hid kd
        go_wp2_with (go_at_call 83; refine (kd.out _).mono ?_; rintro e w' ⟨rfl, rfl⟩)
        go_ret
        exact ⟨by rw [HR.out]; rfl, hb1⟩
      · have hz : kindN (ln m k) ≠ 0 := fun h => absurd ((kindN_ctrl (ln m k)).1 h) (by rw [hc]; decide)
        replace hc := Lib.hid hc
        replace kd := Lib.hid kd
        generalize kindN (ln m k) = kk at *
        have e1 : ((kk : Int) == 0) = false := by simp; omega
        have e2 : (kk == 0) = false := by simp; omega
        clear hz
        go_wp2_with (go_at_call 83; refine (kd.out _).mono ?_; rintro e w' ⟨rfl, rfl⟩)
        go_round
        case rel => exact ⟨k + 1, by omega, by go_num, fun j hj => by
          by_cases e : j = k
          · subst e; exact hc.out
          · exact HJ.out j (by omega)⟩
        case measure => simp [intOf]; omega
    · obtain rfl : k = 8 := by omega
      go_wp2
      go_ret
      exact ⟨by rw [(rightB_iff m).2 HJ.out]; rfl, hb1⟩
set_option maxRecDepth 100000 in
set_option maxHeartbeats 4000000 in
theorem rset02_ok (m i b : Nat) (hm : m < 18446744073709551616) (hi : i < 8) (hb : b < 256) (hc : ctrlB b = true) (w0 : World) :
    Calls Tryd.prog 52 #[.int .u64 (m : Int), .int .i64 (i : Int), .int .u8 (b : Int)] w0 fun e w' => e = .returned (.tuple #[.int .u64 ((setL m i b : Nat) : Int), .int .i64 0]) ∧ Below w0.heap.size w0 w' := by
  have hl := Lib.hid (refLanes_any m hm)
  have kd := Lib.hid (kind_any b hb)
  have hz : kindN b ≠ 0 := fun h => absurd ((kindN_ctrl b).1 h) (by rw [hc]; decide)
  have WO := Lib.hid (show ∀ w, Calls Tryd.prog 81 #[.agg (byteL (fun k => if k = i then b else ln m k)).toArray] w fun e w' => e = .returned (.int .u64 ((setL m i b : Nat) : Int)) ∧ Below w.heap.size w w' from fun w => word_any _ (setL_bd m i b hb) w)
  have hset := byteL_set (ln m) i b hi
  generalize setL m i b = y at *
  generalize kindN b = kk at *
  have e1 : decide ((i : Int) < 0) = false := by simp
  have e2 : decide ((i : Int) > 7) = false := by simp; omega
  have e3 : ((kk : Int) == 0) = false := by simp; omega
  have e4 : (kk == 0) = false := by simp; omega
  have HS := Lib.hid hset
  clear hz hc hset
  go_enter Tryd.func52, Tryd.ntmps52
  go_wp2_with (first
    | (go_at_call 83; refine (kd.out _).mono ?_; rintro e w' ⟨rfl, rfl⟩)
    | (go_at_call 18; refine (hl.out _).mono ?_; rintro e w1 ⟨rfl, hb1⟩)
    | (refine wpList_value rfl (exec_alloc (t := 28) rfl zv8b) ?_)
    | (refine wpList_unit rfl (exec_storeAll (t := 28) rfl rfl rfl (Blk.new _ _ _) (by rfl) (Tryd.sizeOf28 _) (by exact byteL_one _)) ?_; rw [setRow_new rfl]; have q0 : Blk (w1.alloc (.cells (byteL (ln m)).toArray 28)) w1.heap.size 28 (byteL (ln m)).toArray := Blk.new _ _ _; have hB1 : Below w0.heap.size w0 (w1.alloc (.cells (byteL (ln m)).toArray 28)) := hb1.alloc hb1.size _; have hs := hb1.size; generalize w1.alloc (.cells (byteL (ln m)).toArray 28) = W2 at q0 hB1 ⊢; have c1 := q0.cell i; rw [byteL_get _ i hi] at c1; have f1 := q0.frozen i; have Q1 : Hid (Blk (W2.setCell ⟨w1.heap.size, i, none⟩ (.int .u8 (b : Int))) w1.heap.size 28 (byteL (fun k => if k = i then b else ln m k)).toArray) := Lib.hid (by have := q0.set i (.int .u8 (b : Int)); rw [HS.out] at this; exact this); clear q0)
    | (refine wpList_value rfl (exec_loadAll (t := 28) rfl rfl Tryd.underlying28 rfl Q1.out (Tryd.sizeOf28 _)) ?_)
    | (go_at_call 81; refine (WO.out _).mono ?_; rintro e w3 ⟨rfl, hb3⟩))
  go_ret2
  exact ⟨rfl, (hB1.setCell (by simp; omega) _).trans (hb3.mono (hB1.setCell (by simp; omega) _).size)⟩
theorem rset02_range (m b : Nat) (i : Int) (hi : i < 0 ∨ 8 ≤ i) (w0 : World) :
    Calls Tryd.prog 52 #[.int .u64 (m : Int), .int .i64 i, .int .u8 (b : Int)] w0 fun e w' => e = .returned (.tuple #[.int .u64 0, .int .i64 1]) ∧ w0 = w' := by
  by_cases h1 : i < 0
  · have e1 : decide (i < 0) = true := by simpa using h1
    clear hi h1
    go_enter Tryd.func52, Tryd.ntmps52
    go_wp2
    go_ret2
    exact ⟨rfl, rfl⟩
  · have e1 : decide (i < 0) = false := by simpa using h1
    have e2 : decide (i > 7) = true := by simp; omega
    clear hi h1
    go_enter Tryd.func52, Tryd.ntmps52
    go_wp2
    go_ret2
    exact ⟨rfl, rfl⟩
theorem rset02_form (m b : Nat) (i : Int) (hi : 0 ≤ i) (hi8 : i < 8) (hb : b < 256) (hc : ctrlB b = false) (w0 : World) :
    Calls Tryd.prog 52 #[.int .u64 (m : Int), .int .i64 i, .int .u8 (b : Int)] w0 fun e w' => e = .returned (.tuple #[.int .u64 0, .int .i64 3]) ∧ w0 = w' := by
  have kd := kind_any b hb
  rw [(kindN_ctrl b).2 hc] at kd
  replace kd := Lib.hid kd
  have e1 : decide (i < 0) = false := by simp; omega
  have e2 : decide (i > 7) = false := by simp; omega
  clear hc
  go_enter Tryd.func52, Tryd.ntmps52
  go_wp2_with (go_at_call 83; refine (kd.out _).mono ?_; rintro e w' ⟨rfl, rfl⟩)
  go_ret2
  exact ⟨rfl, rfl⟩
set_option maxRecDepth 100000 in
set_option maxHeartbeats 4000000 in
theorem rof_any (m kn : Nat) (hm : m < 18446744073709551616) (w0 : World) :
    Calls Tryd.prog 21 #[.int .u64 (m : Int), .int .i64 (kn : Int)] w0 fun e w' => e = .returned (.int .u64 ((maskB (fun i => decide (kindN (ln m i) = kn)) : Nat) : Int)) ∧ Below w0.heap.size w0 w' := by
  have hl := Lib.hid (refLanes_any m hm)
  have IX := Lib.hid (ix_byte (ln m))
  have KD := Lib.hid (fun (k : Nat) (w : World) => kind_any (ln m k) (ln_lt m k) w)
  have MK := Lib.hid (refMask_any (fun i => decide (kindN (ln m i) = kn)))
  obtain ⟨F, hF⟩ : ∃ F : Nat → Bool, F = fun i => decide (kindN (ln m i) = kn) := ⟨_, rfl⟩
  rw [← hF] at MK ⊢
  have FV := Lib.hid (show ∀ i, ((kindN (ln m i) : Int) == (kn : Int)) = F i from fun i => by rw [hF, Bool.eq_iff_iff, beq_iff_eq, decide_eq_true_iff]; omega)
  have FV2 := Lib.hid (show ∀ i, (kindN (ln m i) == kn) = F i from fun i => by rw [hF, Bool.eq_iff_iff, beq_iff_eq, decide_eq_true_iff])
  clear hF
  go_enter Tryd.func21, Tryd.ntmps21
  go_wp2_with (go_at_call 18; refine (hl.out _).mono ?_; rintro e w1 ⟨rfl, hb1⟩; have hq : Blk w1 w0.heap.size 26 (boolL (fun _ => false)).toArray := (Blk.new_at rfl).below hb1 (by simp); have hB1 : Below w0.heap.size w0 w1 := Below.trans (by go_grown) (hb1.mono (by simp)); clear hb1; replace hq := Lib.hid hq)
  go_loopw [6, 7, 11] (fun _ _ v11 wr => ∃ k : Nat, k ≤ 8 ∧ v11 = .int .i64 (k : Int) ∧ Blk wr w0.heap.size 26 (boolL (fun j => decide (j < k) && F j)).toArray ∧ Below w0.heap.size w0 wr) (fun _ _ v11 _ => 8 - (intOf v11).toNat)
  case atStart => exact ⟨0, by omega, rfl, by rw [← upto_none]; exact hq.out, hB1⟩
  case round =>
    clear hB1 hq
    obtain ⟨k, hk, rfl, h1, h3⟩ := hrel
    by_cases hlt : k < 8
    · have ix := IX.out k hlt
      have c1 := h1.cell k
      rw [boolL_get _ k hlt] at c1
      have f1 := h1.frozen k
      have hv := FV.out k
      have hv2 := FV2.out k
      have kd := KD.out k
      generalize kindN (ln m k) = kk at *
      replace kd := Lib.hid kd
      have hst := Lib.hid (show Blk (wr.setCell ⟨w0.heap.size, k, none⟩ (.bool (F k))) w0.heap.size 26 (boolL (fun j => decide (j < k + 1) && F j)).toArray by
        have := h1.set k (.bool (F k)); rw [boolL_set _ _ _ hlt, upto_set] at this; exact this)
      generalize F k = fk at *
      clear h1
      go_wp2_with (go_at_call 83; refine (kd.out _).mono ?_; rintro e w' ⟨rfl, rfl⟩)
      go_roundw
      case rel => exact ⟨k + 1, by omega, by go_num, hst.out, h3.setCell (by simp) _⟩
      case measure => simp [intOf]; omega
    · obtain rfl : k = 8 := by omega
      rw [upto_all] at h1
      have H1 := Lib.hid h1
      clear h1
      go_wp2_with (first | (refine wpList_value rfl (exec_loadAll (t := 26) rfl rfl Tryd.underlying26 rfl H1.out (Tryd.sizeOf26 _)) ?_) | (go_at_call 16; refine (MK.out _).mono ?_; rintro e w3 ⟨rfl, hb3⟩))
      go_ret
      exact ⟨rfl, h3.trans (hb3.mono h3.size)⟩
theorem ss_0 (w : World) : (Instr.slice 9 (.string ⟨#[63, 46, 120, 35]⟩) (some (.int .i64 0)) (some (.int .i64 1)) none).run Tryd.prog w = .ok (.string ⟨#[63]⟩) w := by kernel_rfl
theorem ss_1 (w : World) : (Instr.slice 9 (.string ⟨#[63, 46, 120, 35]⟩) (some (.int .i64 1)) (some (.int .i64 2)) none).run Tryd.prog w = .ok (.string ⟨#[46]⟩) w := by kernel_rfl
theorem ss_2 (w : World) : (Instr.slice 9 (.string ⟨#[63, 46, 120, 35]⟩) (some (.int .i64 2)) (some (.int .i64 3)) none).run Tryd.prog w = .ok (.string ⟨#[120]⟩) w := by kernel_rfl
theorem ss_3 (w : World) : (Instr.slice 9 (.string ⟨#[63, 46, 120, 35]⟩) (some (.int .i64 3)) (some (.int .i64 4)) none).run Tryd.prog w = .ok (.string ⟨#[35]⟩) w := by kernel_rfl
theorem sign_slice (k : Nat) (hk : k ≤ 3) (w : World) : (Instr.slice 9 (.string ⟨#[63, 46, 120, 35]⟩) (some (.int .i64 (k : Int))) (some (.int .i64 ((k : Int) + 1))) none).run Tryd.prog w = .ok (.string ⟨#[signK k]⟩) w := by
  have h : k = 0 ∨ k = 1 ∨ k = 2 ∨ k = 3 := by omega
  clear hk
  rcases h with rfl | rfl | rfl | rfl
  · exact ss_0 w
  · exact ss_1 w
  · exact ss_2 w
  · exact ss_3 w
set_option maxRecDepth 100000 in
set_option maxHeartbeats 4000000 in
theorem rtext_any (m : Nat) (hm : m < 18446744073709551616) (w0 : World) :
    Calls Tryd.prog 29 #[.int .u64 (m : Int)] w0 fun e w' => e = .returned (.string (textW m)) ∧ Below w0.heap.size w0 w' := by
  have hl := Lib.hid (refLanes_any m hm)
  have IX := Lib.hid (ix_byte (ln m))
  have KD := Lib.hid (fun (k : Nat) (w : World) => kind_any (ln m k) (ln_lt m k) w)
  have KS := Lib.hid (fun (k : Nat) (w : World) => sign_slice (kindN (ln m k)) (kindN_le _) w)
  have KL := Lib.hid (fun (k : Nat) => kindN_le (ln m k))
  go_enter Tryd.func29, Tryd.ntmps29
  go_wp2_with (go_at_call 18; refine (hl.out _).mono ?_; rintro e w1 ⟨rfl, hb1⟩)
  go_loop [3, 5, 6, 9] (fun v3 _ _ v9 => ∃ k : Nat, k ≤ 8 ∧ v9 = .int .i64 (k : Int) ∧ v3 = .string (textTo (fun i => kindN (ln m i)) k)) (fun _ _ _ v9 => 8 - (intOf v9).toNat)
  case atStart => exact ⟨0, by omega, rfl, rfl⟩
  case round =>
    obtain ⟨k, hk, rfl, rfl⟩ := hrel
    by_cases hlt : k < 8
    · have ix := IX.out k hlt
      have kd := KD.out k
      have ks := KS.out k
      have kl := KL.out k
      have ht := Lib.hid (textTo_succ (fun i => kindN (ln m i)) k)
      obtain ⟨sk, hsk⟩ : ∃ sk, sk = signK (kindN (ln m k)) := ⟨_, rfl⟩
      rw [← hsk] at ks ht
      replace hsk := Lib.hid hsk
      generalize kindN (ln m k) = kk at *
      have hsz := textTo_size (fun i => kindN (ln m i)) k
      have hsz' : ¬ 9223372036854775807 < (textTo (fun i => kindN (ln m i)) k).size + 1 := by omega
      clear hsz
      generalize textTo (fun i => kindN (ln m i)) k = tk at *
      replace kd := Lib.hid kd
      go_wp2_with (go_at_call 83; refine (kd.out _).mono ?_; rintro e w' ⟨rfl, rfl⟩)
      go_round
      case rel => exact ⟨k + 1, by omega, by go_num, by rw [ht.out]⟩
      case measure => simp [intOf]; omega
    · obtain rfl : k = 8 := by omega
      go_wp2
      go_ret
      exact ⟨rfl, hb1⟩
end Go.Proofs.YtdlfkjpnbgobhaaDoor
