/- The document's hashes. No condition. -/
import Derived.Test.YtplimhllfbdocaaDoorMix
import Derived.Test.YtplimhllfbdocaaDoorRef03d
import Derived.Deep.CutBlock
namespace Go.Proofs.YtplimhllfbdocaaDoor
set_option linter.unusedVariables false
set_option linter.unusedSimpArgs false
open Go.RowKit Go.Proofs

theorem szB (f : Nat → Nat) (w : World) : (sizeOf 161).run Tryd.prog w = .ok (ints64 f).size w := by rw [ints64_size]; exact Tryd.sizeOf161 _
set_option maxRecDepth 100000 in
set_option maxHeartbeats 4000000 in
theorem rof_0 (x : Nat) (hx : x < 18446744073709551616) (w0 : World) : Calls Tryd.prog 17 #[.int .i64 0, .int .u64 (x : Int)] w0 fun e w' => e = .returned (.tuple #[.int .u64 ((mixN 0 x : Nat) : Int), .int .i64 0]) ∧ Below w0.heap.size w0 w' := by
  have NV := Lib.hid (show numB ((List.range 64).map (bitF x)) = x by have := topB_num x 64 hx (by decide); unfold topB at this; simpa using this)
  rw [mixN_0]
  have hbits := Lib.hid (bits_any x hx)
  go_enter Tryd.func17, Tryd.ntmps17
  go_upto_block 0 with (first
    | (go_at_call 102; refine (hbits.out _).mono ?_; rintro e w1 ⟨rfl, hb1⟩; have hq : Blk (w1.alloc (.cells zeros64 161)) w1.heap.size 161 zeros64 := Blk.new _ _ _; have hsz := hb1.size; have HSZ : (ints64 (bitF x)).size = zeros64.size := (by (rw [ints64_size]; simp [zeros64])); have q1' := Lib.hid (show Blk ((w1.alloc (.cells (ints64 (bitF x)) 161)).alloc (.cells zeros64 161)) (w1.alloc (.cells (ints64 (bitF x)) 161)).heap.size 161 zeros64 from Blk.new _ _ _))
    | (refine wpList_value rfl (exec_zero (t := 161) rfl Tryd.underlying161 rfl zvI64 (fun w => ⟨_, Tryd.sizeOf3 w⟩)) ?_)
    | (refine wpList_value rfl (exec_alloc (t := 161) rfl zvI64) ?_)
    | (refine wpList_unit rfl (exec_storeAll (t := 161) (g := w1.heap.size) rfl rfl rfl hq HSZ (by exact szB _ _) (by exact ints64_one _)) ?_; rw [setRow_new rfl])
    | (refine wpList_unit rfl (exec_storeAll (t := 161) (g := (w1.alloc (.cells (ints64 (bitF x)) 161)).heap.size) rfl rfl rfl q1'.out (by rfl) (by exact szZ _) (by exact oneZ)) ?_; (try rw [show (Value.agg zeros64).cells = zeros64 from rfl]); rw [setRow_same q1'.out]))
  have k1 : Blk ((w1.alloc (.cells (ints64 (bitF x)) 161)).alloc (.cells zeros64 161)) w1.heap.size 161 (ints64 (bitF x)) := (Blk.new _ _ _).alloc _
  have k2 : Blk ((w1.alloc (.cells (ints64 (bitF x)) 161)).alloc (.cells zeros64 161)) (w1.heap.size + 1) 161 zeros64 := Blk.new_at (by simp)
  have hB1 : Below w0.heap.size w0 ((w1.alloc (.cells (ints64 (bitF x)) 161)).alloc (.cells zeros64 161)) := (hb1.alloc hsz _).alloc (by simp; omega) _
  clear hq HSZ q1' hb1
  rw [zeros64_ints] at k2 hB1 k1 ⊢
  generalize (w1.alloc (.cells (ints64 (bitF x)) 161)).alloc (.cells (ints64 fun _ => 0) 161) = W2 at k1 k2 hB1 ⊢
  obtain ⟨B, hBe⟩ : ∃ B, B = w1.heap.size := ⟨_, rfl⟩
  rw [← hBe] at k1 k2 hsz ⊢
  clear hBe
  have K1 := Lib.hid k1
  have K2 := Lib.hid k2
  clear k1 k2
  have HSZ : (ints64 (bitF x)).size = (ints64 fun _ => 0).size := by rw [ints64_size, ints64_size]
  have H9 := Lib.hid (K2.out.setRow (ints64 (bitF x)))
  go_upto_region 30 with (first
    | (refine wpList_value rfl (exec_loadAll (t := 161) rfl rfl Tryd.underlying161 rfl K1.out (by exact szB _ _)) ?_)
    | (refine wpList_unit rfl (exec_storeAll (t := 161) rfl rfl rfl K2.out HSZ (by exact szB _ _) (by exact ints64_one _)) ?_))
  have hB9 := Below.setRow hB1 (g := B + 1) (by omega) (ints64 (bitF x))
  generalize W2.setRow (B + 1) (ints64 (bitF x)) = W9 at *
  have HR := Lib.hid (ends_reads H9.out)
  have sl := slice64w (B + 1) W9
  have NU := number_any (.slice (some ⟨B + 1, 0, none⟩) 64 64) ((List.range 64).map (bitF x)) (by simp) (by intro b hb; simp only [List.mem_map] at hb; obtain ⟨i, -, rfl⟩ := hb; exact bitF_le _ _) W9 HR.out
  rw [NV.out] at NU
  replace NU := Lib.hid NU
  go_wp2_with (go_at_call 103; refine NU.out.mono ?_; rintro e w' ⟨rfl, rfl⟩)
  go_ret2
  exact ⟨rfl, hB9⟩
set_option maxRecDepth 100000 in
set_option maxHeartbeats 4000000 in
theorem rof_1 (x : Nat) (hx : x < 18446744073709551616) (w0 : World) : Calls Tryd.prog 17 #[.int .i64 1, .int .u64 (x : Int)] w0 fun e w' => e = .returned (.tuple #[.int .u64 ((mixN 1 x : Nat) : Int), .int .i64 0]) ∧ Below w0.heap.size w0 w' := by
  have NV := Lib.hid zero_num
  rw [mixN_1]
  have hbits := Lib.hid (bits_any x hx)
  go_enter Tryd.func17, Tryd.ntmps17
  go_upto_block 0 with (first
    | (go_at_call 102; refine (hbits.out _).mono ?_; rintro e w1 ⟨rfl, hb1⟩; have hq : Blk (w1.alloc (.cells zeros64 161)) w1.heap.size 161 zeros64 := Blk.new _ _ _; have hsz := hb1.size; have HSZ : (ints64 (bitF x)).size = zeros64.size := (by (rw [ints64_size]; simp [zeros64])); have q1' := Lib.hid (show Blk ((w1.alloc (.cells (ints64 (bitF x)) 161)).alloc (.cells zeros64 161)) (w1.alloc (.cells (ints64 (bitF x)) 161)).heap.size 161 zeros64 from Blk.new _ _ _))
    | (refine wpList_value rfl (exec_zero (t := 161) rfl Tryd.underlying161 rfl zvI64 (fun w => ⟨_, Tryd.sizeOf3 w⟩)) ?_)
    | (refine wpList_value rfl (exec_alloc (t := 161) rfl zvI64) ?_)
    | (refine wpList_unit rfl (exec_storeAll (t := 161) (g := w1.heap.size) rfl rfl rfl hq HSZ (by exact szB _ _) (by exact ints64_one _)) ?_; rw [setRow_new rfl])
    | (refine wpList_unit rfl (exec_storeAll (t := 161) (g := (w1.alloc (.cells (ints64 (bitF x)) 161)).heap.size) rfl rfl rfl q1'.out (by rfl) (by exact szZ _) (by exact oneZ)) ?_; (try rw [show (Value.agg zeros64).cells = zeros64 from rfl]); rw [setRow_same q1'.out]))
  have k1 : Blk ((w1.alloc (.cells (ints64 (bitF x)) 161)).alloc (.cells zeros64 161)) w1.heap.size 161 (ints64 (bitF x)) := (Blk.new _ _ _).alloc _
  have k2 : Blk ((w1.alloc (.cells (ints64 (bitF x)) 161)).alloc (.cells zeros64 161)) (w1.heap.size + 1) 161 zeros64 := Blk.new_at (by simp)
  have hB1 : Below w0.heap.size w0 ((w1.alloc (.cells (ints64 (bitF x)) 161)).alloc (.cells zeros64 161)) := (hb1.alloc hsz _).alloc (by simp; omega) _
  clear hq HSZ q1' hb1
  rw [zeros64_ints] at k2 hB1 k1 ⊢
  generalize (w1.alloc (.cells (ints64 (bitF x)) 161)).alloc (.cells (ints64 fun _ => 0) 161) = W2 at k1 k2 hB1 ⊢
  obtain ⟨B, hBe⟩ : ∃ B, B = w1.heap.size := ⟨_, rfl⟩
  rw [← hBe] at k1 k2 hsz ⊢
  clear hBe
  have K1 := Lib.hid k1
  have K2 := Lib.hid k2
  clear k1 k2
  have H9 := K2
  go_upto_region 30 with (fail)
  have HR := Lib.hid (ends_reads H9.out)
  have sl := slice64w (B + 1) W2
  have NU := number_any (.slice (some ⟨B + 1, 0, none⟩) 64 64) ((List.range 64).map (fun _ => 0)) (by simp) (by intro b hb; simp only [List.mem_map] at hb; obtain ⟨i, -, rfl⟩ := hb; exact Nat.zero_le _) W2 HR.out
  rw [NV.out] at NU
  replace NU := Lib.hid NU
  go_wp2_with (go_at_call 103; refine NU.out.mono ?_; rintro e w' ⟨rfl, rfl⟩)
  go_ret2
  exact ⟨rfl, hB1⟩
set_option maxRecDepth 100000 in
set_option maxHeartbeats 4000000 in
theorem rof_2 (x : Nat) (hx : x < 18446744073709551616) (w0 : World) : Calls Tryd.prog 17 #[.int .i64 2, .int .u64 (x : Int)] w0 fun e w' => e = .returned (.tuple #[.int .u64 ((mixN 2 x : Nat) : Int), .int .i64 0]) ∧ Below w0.heap.size w0 w' := by
  rw [mix_2]
  have hbits := Lib.hid (bits_any x hx)
  go_enter Tryd.func17, Tryd.ntmps17
  go_upto_block 0 with (first
    | (go_at_call 102; refine (hbits.out _).mono ?_; rintro e w1 ⟨rfl, hb1⟩; have hq : Blk (w1.alloc (.cells zeros64 161)) w1.heap.size 161 zeros64 := Blk.new _ _ _; have hsz := hb1.size; have HSZ : (ints64 (bitF x)).size = zeros64.size := (by (rw [ints64_size]; simp [zeros64])); have q1' := Lib.hid (show Blk ((w1.alloc (.cells (ints64 (bitF x)) 161)).alloc (.cells zeros64 161)) (w1.alloc (.cells (ints64 (bitF x)) 161)).heap.size 161 zeros64 from Blk.new _ _ _))
    | (refine wpList_value rfl (exec_zero (t := 161) rfl Tryd.underlying161 rfl zvI64 (fun w => ⟨_, Tryd.sizeOf3 w⟩)) ?_)
    | (refine wpList_value rfl (exec_alloc (t := 161) rfl zvI64) ?_)
    | (refine wpList_unit rfl (exec_storeAll (t := 161) (g := w1.heap.size) rfl rfl rfl hq HSZ (by exact szB _ _) (by exact ints64_one _)) ?_; rw [setRow_new rfl])
    | (refine wpList_unit rfl (exec_storeAll (t := 161) (g := (w1.alloc (.cells (ints64 (bitF x)) 161)).heap.size) rfl rfl rfl q1'.out (by rfl) (by exact szZ _) (by exact oneZ)) ?_; (try rw [show (Value.agg zeros64).cells = zeros64 from rfl]); rw [setRow_same q1'.out]))
  have k1 : Blk ((w1.alloc (.cells (ints64 (bitF x)) 161)).alloc (.cells zeros64 161)) w1.heap.size 161 (ints64 (bitF x)) := (Blk.new _ _ _).alloc _
  have k2 : Blk ((w1.alloc (.cells (ints64 (bitF x)) 161)).alloc (.cells zeros64 161)) (w1.heap.size + 1) 161 zeros64 := Blk.new_at (by simp)
  have hB1 : Below w0.heap.size w0 ((w1.alloc (.cells (ints64 (bitF x)) 161)).alloc (.cells zeros64 161)) := (hb1.alloc hsz _).alloc (by simp; omega) _
  clear hq HSZ q1' hb1
  rw [zeros64_ints] at k2 hB1 k1 ⊢
  generalize (w1.alloc (.cells (ints64 (bitF x)) 161)).alloc (.cells (ints64 fun _ => 0) 161) = W2 at k1 k2 hB1 ⊢
  obtain ⟨B, hBe⟩ : ∃ B, B = w1.heap.size := ⟨_, rfl⟩
  rw [← hBe] at k1 k2 hsz ⊢
  clear hBe
  have K1 := Lib.hid k1
  have K2 := Lib.hid k2
  clear k1 k2
  go_wp2
  go_ret2
  exact ⟨rfl, hB1⟩
set_option maxRecDepth 100000 in
set_option maxHeartbeats 4000000 in
theorem rof_3 (x : Nat) (hx : x < 18446744073709551616) (w0 : World) : Calls Tryd.prog 17 #[.int .i64 3, .int .u64 (x : Int)] w0 fun e w' => e = .returned (.tuple #[.int .u64 ((mixN 3 x : Nat) : Int), .int .i64 0]) ∧ Below w0.heap.size w0 w' := by
  rw [mix_3]
  have HL := Lib.hid (fnvH_lt x)
  have HS := Lib.hid (fnvH_succ x)
  have hbits := Lib.hid (bits_any x hx)
  go_enter Tryd.func17, Tryd.ntmps17
  go_upto_block 0 with (first
    | (go_at_call 102; refine (hbits.out _).mono ?_; rintro e w1 ⟨rfl, hb1⟩; have hq : Blk (w1.alloc (.cells zeros64 161)) w1.heap.size 161 zeros64 := Blk.new _ _ _; have hsz := hb1.size; have HSZ : (ints64 (bitF x)).size = zeros64.size := (by (rw [ints64_size]; simp [zeros64])); have q1' := Lib.hid (show Blk ((w1.alloc (.cells (ints64 (bitF x)) 161)).alloc (.cells zeros64 161)) (w1.alloc (.cells (ints64 (bitF x)) 161)).heap.size 161 zeros64 from Blk.new _ _ _))
    | (refine wpList_value rfl (exec_zero (t := 161) rfl Tryd.underlying161 rfl zvI64 (fun w => ⟨_, Tryd.sizeOf3 w⟩)) ?_)
    | (refine wpList_value rfl (exec_alloc (t := 161) rfl zvI64) ?_)
    | (refine wpList_unit rfl (exec_storeAll (t := 161) (g := w1.heap.size) rfl rfl rfl hq HSZ (by exact szB _ _) (by exact ints64_one _)) ?_; rw [setRow_new rfl])
    | (refine wpList_unit rfl (exec_storeAll (t := 161) (g := (w1.alloc (.cells (ints64 (bitF x)) 161)).heap.size) rfl rfl rfl q1'.out (by rfl) (by exact szZ _) (by exact oneZ)) ?_; (try rw [show (Value.agg zeros64).cells = zeros64 from rfl]); rw [setRow_same q1'.out]))
  have k1 : Blk ((w1.alloc (.cells (ints64 (bitF x)) 161)).alloc (.cells zeros64 161)) w1.heap.size 161 (ints64 (bitF x)) := (Blk.new _ _ _).alloc _
  have k2 : Blk ((w1.alloc (.cells (ints64 (bitF x)) 161)).alloc (.cells zeros64 161)) (w1.heap.size + 1) 161 zeros64 := Blk.new_at (by simp)
  have hB1 : Below w0.heap.size w0 ((w1.alloc (.cells (ints64 (bitF x)) 161)).alloc (.cells zeros64 161)) := (hb1.alloc hsz _).alloc (by simp; omega) _
  clear hq HSZ q1' hb1
  rw [zeros64_ints] at k2 hB1 k1 ⊢
  generalize (w1.alloc (.cells (ints64 (bitF x)) 161)).alloc (.cells (ints64 fun _ => 0) 161) = W2 at k1 k2 hB1 ⊢
  obtain ⟨B, hBe⟩ : ∃ B, B = w1.heap.size := ⟨_, rfl⟩
  rw [← hBe] at k1 k2 hsz ⊢
  clear hBe
  have K1 := Lib.hid k1
  have K2 := Lib.hid k2
  clear k1 k2
  go_wp2
  go_loop [1, 8, 9] (fun v0 v3 v4 => ∃ k : Nat, k ≤ 8 ∧ v4 = .int .i64 (k : Int) ∧ v0 = .int .u64 ((x / 256 ^ k : Nat) : Int) ∧ v3 = .int .u64 ((fnvH x k : Nat) : Int)) (fun _ _ v4 => 8 - (intOf v4).toNat)
  case atStart => exact ⟨0, by omega, rfl, by simp, rfl⟩
  case round =>
    obtain ⟨k, hk, rfl, rfl, rfl⟩ := hrel
    by_cases hlt : k < 8
    · have h1 := HL.out k
      have hle : x / 256 ^ k ≤ x := Nat.div_le_self _ _
      have hq : x / 256 ^ k / 256 = x / 256 ^ (k + 1) := by rw [Nat.div_div_eq_div_mul, ← Nat.pow_succ]
      have HQ := Lib.hid hq
      have HS' := Lib.hid (HS.out k)
      clear hq
      generalize x / 256 ^ k = z at *
      generalize fnvH x k = h at *
      have hzl : z % 256 < 256 := Nat.mod_lt _ (by decide)
      have hzz : (z : Int) % 256 = ((z % 256 : Nat) : Int) := by omega
      have hxx := bits_xor_u64_nat h (z % 256) h1 (by omega)
      have hxl : h ^^^ (z % 256) < 18446744073709551616 := Nat.xor_lt_two_pow (n := 64) h1 (by omega)
      generalize z % 256 = y at *
      generalize h ^^^ y = u at *
      go_wp2
      go_round
      case rel => exact ⟨k + 1, by omega, by go_num, by rw [← HQ.out]; simp, by rw [HS'.out, IntKind.wrap_u64]; simp⟩
      case measure => simp [intOf]; omega
    · obtain rfl : k = 8 := by omega
      go_wp2
      go_ret2
      exact ⟨rfl, hB1⟩
theorem rev_step (x k : Nat) : (fun j => if j = k then bitF x (63 - k) else if j < k then bitF x (63 - j) else 0) = fun j => if j < k + 1 then bitF x (63 - j) else 0 := by
  funext j
  by_cases e : j = k
  · subst e; rw [if_pos rfl, if_pos (by omega)]
  · rw [if_neg e]
    by_cases c : j < k
    · rw [if_pos c, if_pos (by omega)]
    · rw [if_neg c, if_neg (by omega)]
theorem top_step (x k : Nat) : (fun j => if j = k then bitF x (58 + k) else if j < k then bitF x (58 + j) else 0) = fun j => if j < k + 1 then bitF x (58 + j) else 0 := by
  funext j
  by_cases e : j = k
  · subst e; rw [if_pos rfl, if_pos (by omega)]
  · rw [if_neg e]
    by_cases c : j < k
    · rw [if_pos c, if_pos (by omega)]
    · rw [if_neg c, if_neg (by omega)]
set_option maxRecDepth 100000 in
set_option maxHeartbeats 4000000 in
theorem rof_4 (x : Nat) (hx : x < 18446744073709551616) (w0 : World) : Calls Tryd.prog 17 #[.int .i64 4, .int .u64 (x : Int)] w0 fun e w' => e = .returned (.tuple #[.int .u64 ((mixN 4 x : Nat) : Int), .int .i64 0]) ∧ Below w0.heap.size w0 w' := by
  have NV := Lib.hid (show numB ((List.range 64).map fun i => bitF x (63 - i)) = revN x from rfl)
  rw [mixN_4]
  have hbits := Lib.hid (bits_any x hx)
  go_enter Tryd.func17, Tryd.ntmps17
  go_upto_block 0 with (first
    | (go_at_call 102; refine (hbits.out _).mono ?_; rintro e w1 ⟨rfl, hb1⟩; have hq : Blk (w1.alloc (.cells zeros64 161)) w1.heap.size 161 zeros64 := Blk.new _ _ _; have hsz := hb1.size; have HSZ : (ints64 (bitF x)).size = zeros64.size := (by (rw [ints64_size]; simp [zeros64])); have q1' := Lib.hid (show Blk ((w1.alloc (.cells (ints64 (bitF x)) 161)).alloc (.cells zeros64 161)) (w1.alloc (.cells (ints64 (bitF x)) 161)).heap.size 161 zeros64 from Blk.new _ _ _))
    | (refine wpList_value rfl (exec_zero (t := 161) rfl Tryd.underlying161 rfl zvI64 (fun w => ⟨_, Tryd.sizeOf3 w⟩)) ?_)
    | (refine wpList_value rfl (exec_alloc (t := 161) rfl zvI64) ?_)
    | (refine wpList_unit rfl (exec_storeAll (t := 161) (g := w1.heap.size) rfl rfl rfl hq HSZ (by exact szB _ _) (by exact ints64_one _)) ?_; rw [setRow_new rfl])
    | (refine wpList_unit rfl (exec_storeAll (t := 161) (g := (w1.alloc (.cells (ints64 (bitF x)) 161)).heap.size) rfl rfl rfl q1'.out (by rfl) (by exact szZ _) (by exact oneZ)) ?_; (try rw [show (Value.agg zeros64).cells = zeros64 from rfl]); rw [setRow_same q1'.out]))
  have k1 : Blk ((w1.alloc (.cells (ints64 (bitF x)) 161)).alloc (.cells zeros64 161)) w1.heap.size 161 (ints64 (bitF x)) := (Blk.new _ _ _).alloc _
  have k2 : Blk ((w1.alloc (.cells (ints64 (bitF x)) 161)).alloc (.cells zeros64 161)) (w1.heap.size + 1) 161 zeros64 := Blk.new_at (by simp)
  have hB1 : Below w0.heap.size w0 ((w1.alloc (.cells (ints64 (bitF x)) 161)).alloc (.cells zeros64 161)) := (hb1.alloc hsz _).alloc (by simp; omega) _
  clear hq HSZ q1' hb1
  rw [zeros64_ints] at k2 hB1 k1 ⊢
  generalize (w1.alloc (.cells (ints64 (bitF x)) 161)).alloc (.cells (ints64 fun _ => 0) 161) = W2 at k1 k2 hB1 ⊢
  obtain ⟨B, hBe⟩ : ∃ B, B = w1.heap.size := ⟨_, rfl⟩
  rw [← hBe] at k1 k2 hsz ⊢
  clear hBe
  have K1 := Lib.hid k1
  have K2 := Lib.hid k2
  clear k1 k2
  go_wp2
  go_loopw [10, 46] (fun _ v46 wr => ∃ k : Nat, k ≤ 64 ∧ v46 = .int .i64 (k : Int) ∧ Blk wr B 161 (ints64 (bitF x)) ∧ Blk wr (B + 1) 161 (ints64 fun j => if j < k then bitF x (63 - j) else 0) ∧ Below w0.heap.size w0 wr) (fun _ v46 _ => 64 - (intOf v46).toNat)
  case atStart => exact ⟨0, by omega, rfl, K1.out, by rw [← ints64_congr (f := fun _ => 0) (fun i hi => by rw [if_neg (by omega)])]; exact K2.out, hB1⟩
  case round =>
    clear K1 K2 hB1
    obtain ⟨k, hk, rfl, h1, h2, h3⟩ := hrel
    by_cases hlt : k < 64
    · have c1 := h1.cell (63 - k)
      have c2 := h2.cell k
      rw [ints64_get _ _ (by omega)] at c1 c2
      have f2 := h2.frozen k
      have hst := h2.set k (.int .i64 ((bitF x (63 - k) : Nat) : Int))
      rw [ints64_set _ _ _ hlt, rev_step] at hst
      have HST := Lib.hid hst
      have H1 := Lib.hid (h1.other (show B ≠ B + 1 by omega) k (.int .i64 ((bitF x (63 - k) : Nat) : Int)))
      have hsub : (63 : Int) - (k : Int) = ((63 - k : Nat) : Int) := by omega
      have hlt2 : 63 - k < 64 := by omega
      clear h1 h2 hst
      generalize bitF x (63 - k) = bb at *
      generalize 63 - k = kk at *
      go_wp2
      go_roundw
      case rel => exact ⟨k + 1, by omega, by go_num, H1.out, HST.out, h3.setCell (by simp; omega) _⟩
      case measure => simp [intOf]; omega
    · obtain rfl : k = 64 := by omega
      rw [ints64_congr (g := fun j => bitF x (63 - j)) (fun j hj => by rw [if_pos hj])] at h2
      have H9 := Lib.hid h2
      clear h1 h2
      go_upto_region 30 with (fail)
      have HR := Lib.hid (ends_reads H9.out)
      have sl := slice64w (B + 1) wr
      have NU := number_any (.slice (some ⟨B + 1, 0, none⟩) 64 64) ((List.range 64).map (fun i => bitF x (63 - i))) (by simp) (by intro b hb; simp only [List.mem_map] at hb; obtain ⟨i, -, rfl⟩ := hb; exact bitF_le _ _) wr HR.out
      rw [NV.out] at NU
      replace NU := Lib.hid NU
      go_wp2_with (go_at_call 103; refine NU.out.mono ?_; rintro e w' ⟨rfl, rfl⟩)
      go_ret2
      exact ⟨rfl, h3⟩
set_option maxRecDepth 100000 in
set_option maxHeartbeats 4000000 in
theorem rof_5 (x : Nat) (hx : x < 18446744073709551616) (w0 : World) : Calls Tryd.prog 17 #[.int .i64 5, .int .u64 (x : Int)] w0 fun e w' => e = .returned (.tuple #[.int .u64 ((mixN 5 x : Nat) : Int), .int .i64 0]) ∧ Below w0.heap.size w0 w' := by
  have NV' := top6_num x
  rw [mixN_5]
  generalize shlF x = sv at *
  have NV := Lib.hid NV'
  clear NV'
  have hbits := Lib.hid (bits_any x hx)
  go_enter Tryd.func17, Tryd.ntmps17
  go_upto_block 0 with (first
    | (go_at_call 102; refine (hbits.out _).mono ?_; rintro e w1 ⟨rfl, hb1⟩; have hq : Blk (w1.alloc (.cells zeros64 161)) w1.heap.size 161 zeros64 := Blk.new _ _ _; have hsz := hb1.size; have HSZ : (ints64 (bitF x)).size = zeros64.size := (by (rw [ints64_size]; simp [zeros64])); have q1' := Lib.hid (show Blk ((w1.alloc (.cells (ints64 (bitF x)) 161)).alloc (.cells zeros64 161)) (w1.alloc (.cells (ints64 (bitF x)) 161)).heap.size 161 zeros64 from Blk.new _ _ _))
    | (refine wpList_value rfl (exec_zero (t := 161) rfl Tryd.underlying161 rfl zvI64 (fun w => ⟨_, Tryd.sizeOf3 w⟩)) ?_)
    | (refine wpList_value rfl (exec_alloc (t := 161) rfl zvI64) ?_)
    | (refine wpList_unit rfl (exec_storeAll (t := 161) (g := w1.heap.size) rfl rfl rfl hq HSZ (by exact szB _ _) (by exact ints64_one _)) ?_; rw [setRow_new rfl])
    | (refine wpList_unit rfl (exec_storeAll (t := 161) (g := (w1.alloc (.cells (ints64 (bitF x)) 161)).heap.size) rfl rfl rfl q1'.out (by rfl) (by exact szZ _) (by exact oneZ)) ?_; (try rw [show (Value.agg zeros64).cells = zeros64 from rfl]); rw [setRow_same q1'.out]))
  have k1 : Blk ((w1.alloc (.cells (ints64 (bitF x)) 161)).alloc (.cells zeros64 161)) w1.heap.size 161 (ints64 (bitF x)) := (Blk.new _ _ _).alloc _
  have k2 : Blk ((w1.alloc (.cells (ints64 (bitF x)) 161)).alloc (.cells zeros64 161)) (w1.heap.size + 1) 161 zeros64 := Blk.new_at (by simp)
  have hB1 : Below w0.heap.size w0 ((w1.alloc (.cells (ints64 (bitF x)) 161)).alloc (.cells zeros64 161)) := (hb1.alloc hsz _).alloc (by simp; omega) _
  clear hq HSZ q1' hb1
  rw [zeros64_ints] at k2 hB1 k1 ⊢
  generalize (w1.alloc (.cells (ints64 (bitF x)) 161)).alloc (.cells (ints64 fun _ => 0) 161) = W2 at k1 k2 hB1 ⊢
  obtain ⟨B, hBe⟩ : ∃ B, B = w1.heap.size := ⟨_, rfl⟩
  rw [← hBe] at k1 k2 hsz ⊢
  clear hBe
  have K1 := Lib.hid k1
  have K2 := Lib.hid k2
  clear k1 k2
  go_wp2
  go_loopw [11] (fun v11 wr => ∃ k : Nat, k ≤ 6 ∧ v11 = .int .i64 (k : Int) ∧ Blk wr B 161 (ints64 (bitF x)) ∧ Blk wr (B + 1) 161 (ints64 fun j => if j < k then bitF x (58 + j) else 0) ∧ Below w0.heap.size w0 wr) (fun v11 _ => 6 - (intOf v11).toNat)
  case atStart => exact ⟨0, by omega, rfl, K1.out, by rw [← ints64_congr (f := fun _ => 0) (fun i hi => by rw [if_neg (by omega)])]; exact K2.out, hB1⟩
  case round =>
    clear K1 K2 hB1
    obtain ⟨k, hk, rfl, h1, h2, h3⟩ := hrel
    by_cases hlt : k < 6
    · have hk6 : k = 0 ∨ k = 1 ∨ k = 2 ∨ k = 3 ∨ k = 4 ∨ k = 5 := by omega
      clear hk hlt
      rcases hk6 with rfl | rfl | rfl | rfl | rfl | rfl
      · have c1 := h1.cell 58
        have c2 := h2.cell 0
        rw [ints64_get _ _ (by decide)] at c1 c2
        have f2 := h2.frozen 0
        have hst := h2.set 0 (.int .i64 ((bitF x 58 : Nat) : Int))
        rw [ints64_set _ _ _ (by decide), top_step x 0] at hst
        have HST := Lib.hid hst
        have H1 := Lib.hid (h1.other (show B ≠ B + 1 by omega) 0 (.int .i64 ((bitF x 58 : Nat) : Int)))
        clear h1 h2 hst
        generalize bitF x 58 = bb at *
        go_wp2
        go_roundw
        case rel => exact ⟨1, by omega, by go_num, H1.out, HST.out, h3.setCell (by simp; omega) _⟩
        case measure => simp [intOf]
      · have c1 := h1.cell 59
        have c2 := h2.cell 1
        rw [ints64_get _ _ (by decide)] at c1 c2
        have f2 := h2.frozen 1
        have hst := h2.set 1 (.int .i64 ((bitF x 59 : Nat) : Int))
        rw [ints64_set _ _ _ (by decide), top_step x 1] at hst
        have HST := Lib.hid hst
        have H1 := Lib.hid (h1.other (show B ≠ B + 1 by omega) 1 (.int .i64 ((bitF x 59 : Nat) : Int)))
        clear h1 h2 hst
        generalize bitF x 59 = bb at *
        go_wp2
        go_roundw
        case rel => exact ⟨2, by omega, by go_num, H1.out, HST.out, h3.setCell (by simp; omega) _⟩
        case measure => simp [intOf]
      · have c1 := h1.cell 60
        have c2 := h2.cell 2
        rw [ints64_get _ _ (by decide)] at c1 c2
        have f2 := h2.frozen 2
        have hst := h2.set 2 (.int .i64 ((bitF x 60 : Nat) : Int))
        rw [ints64_set _ _ _ (by decide), top_step x 2] at hst
        have HST := Lib.hid hst
        have H1 := Lib.hid (h1.other (show B ≠ B + 1 by omega) 2 (.int .i64 ((bitF x 60 : Nat) : Int)))
        clear h1 h2 hst
        generalize bitF x 60 = bb at *
        go_wp2
        go_roundw
        case rel => exact ⟨3, by omega, by go_num, H1.out, HST.out, h3.setCell (by simp; omega) _⟩
        case measure => simp [intOf]
      · have c1 := h1.cell 61
        have c2 := h2.cell 3
        rw [ints64_get _ _ (by decide)] at c1 c2
        have f2 := h2.frozen 3
        have hst := h2.set 3 (.int .i64 ((bitF x 61 : Nat) : Int))
        rw [ints64_set _ _ _ (by decide), top_step x 3] at hst
        have HST := Lib.hid hst
        have H1 := Lib.hid (h1.other (show B ≠ B + 1 by omega) 3 (.int .i64 ((bitF x 61 : Nat) : Int)))
        clear h1 h2 hst
        generalize bitF x 61 = bb at *
        go_wp2
        go_roundw
        case rel => exact ⟨4, by omega, by go_num, H1.out, HST.out, h3.setCell (by simp; omega) _⟩
        case measure => simp [intOf]
      · have c1 := h1.cell 62
        have c2 := h2.cell 4
        rw [ints64_get _ _ (by decide)] at c1 c2
        have f2 := h2.frozen 4
        have hst := h2.set 4 (.int .i64 ((bitF x 62 : Nat) : Int))
        rw [ints64_set _ _ _ (by decide), top_step x 4] at hst
        have HST := Lib.hid hst
        have H1 := Lib.hid (h1.other (show B ≠ B + 1 by omega) 4 (.int .i64 ((bitF x 62 : Nat) : Int)))
        clear h1 h2 hst
        generalize bitF x 62 = bb at *
        go_wp2
        go_roundw
        case rel => exact ⟨5, by omega, by go_num, H1.out, HST.out, h3.setCell (by simp; omega) _⟩
        case measure => simp [intOf]
      · have c1 := h1.cell 63
        have c2 := h2.cell 5
        rw [ints64_get _ _ (by decide)] at c1 c2
        have f2 := h2.frozen 5
        have hst := h2.set 5 (.int .i64 ((bitF x 63 : Nat) : Int))
        rw [ints64_set _ _ _ (by decide), top_step x 5] at hst
        have HST := Lib.hid hst
        have H1 := Lib.hid (h1.other (show B ≠ B + 1 by omega) 5 (.int .i64 ((bitF x 63 : Nat) : Int)))
        clear h1 h2 hst
        generalize bitF x 63 = bb at *
        go_wp2
        go_roundw
        case rel => exact ⟨6, by omega, by go_num, H1.out, HST.out, h3.setCell (by simp; omega) _⟩
        case measure => simp [intOf]
    · obtain rfl : k = 6 := by omega
      have H9 := Lib.hid h2
      clear h1 h2
      go_upto_region 30 with (fail)
      have HR := Lib.hid (ends_reads H9.out)
      have sl := slice64w (B + 1) wr
      have NU := number_any (.slice (some ⟨B + 1, 0, none⟩) 64 64) ((List.range 64).map (fun i => if i < 6 then bitF x (58 + i) else 0)) (by simp) (by intro b hb; simp only [List.mem_map] at hb; obtain ⟨i, -, rfl⟩ := hb; exact (by split; exact bitF_le _ _; exact Nat.zero_le _)) wr HR.out
      rw [NV.out] at NU
      replace NU := Lib.hid NU
      go_wp2_with (go_at_call 103; refine NU.out.mono ?_; rintro e w' ⟨rfl, rfl⟩)
      go_ret2
      exact ⟨rfl, h3⟩
theorem rofm_ok (k x : Nat) (hk : k ≤ 5) (hx : x < 18446744073709551616) (w : World) : Calls Tryd.prog 17 #[.int .i64 (k : Int), .int .u64 (x : Int)] w fun e w' => e = .returned (.tuple #[.int .u64 ((mixN k x : Nat) : Int), .int .i64 0]) ∧ Below w.heap.size w w' := by
  have h : k = 0 ∨ k = 1 ∨ k = 2 ∨ k = 3 ∨ k = 4 ∨ k = 5 := by omega
  rcases h with rfl | rfl | rfl | rfl | rfl | rfl
  · exact rof_0 x hx w
  · exact rof_1 x hx w
  · exact rof_2 x hx w
  · exact rof_3 x hx w
  · exact rof_4 x hx w
  · exact rof_5 x hx w
theorem rofm_bad (k : Int) (x : Nat) (hk : k < 0 ∨ 5 < k) (w : World) : Calls Tryd.prog 17 #[.int .i64 k, .int .u64 (x : Int)] w fun e w' => e = .returned (.tuple #[.int .u64 0, .int .i64 14]) ∧ w = w' := by
  by_cases h1 : k < 0
  · have e1 : decide (k < 0) = true := by simpa using h1
    clear hk h1
    go_enter Tryd.func17, Tryd.ntmps17
    go_wp2
    go_ret2
    exact ⟨rfl, rfl⟩
  · have e1 : decide (k < 0) = false := by simpa using h1
    have e2 : decide (k > 5) = true := by simp; omega
    clear hk h1
    go_enter Tryd.func17, Tryd.ntmps17
    go_wp2
    go_ret2
    exact ⟨rfl, rfl⟩
end Go.Proofs.YtplimhllfbdocaaDoor
