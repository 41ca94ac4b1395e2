/- The document's masks: Equal, High, Mask, List. No condition. -/
import Derived.Test.YtdlfkjpnbgobhaaDoorSwarRef
import Derived.Test.YtdlfkjpnbgobhaaDoorSwarIter
import Derived.LoopTactic
import Derived.Deep.Cut
import Derived.Maps.AppendAt
namespace Go.Proofs.YtdlfkjpnbgobhaaDoor
set_option linter.unusedVariables false
set_option linter.unusedSimpArgs false
open Go.RowKit Go.Proofs

/-- eight bools as cells -/
def boolL (f : Nat → Bool) : List Value := [.bool (f 0), .bool (f 1), .bool (f 2), .bool (f 3), .bool (f 4), .bool (f 5), .bool (f 6), .bool (f 7)]
theorem boolL_congr {f g : Nat → Bool} (h : ∀ i, i < 8 → f i = g i) : boolL f = boolL g := by
  simp only [boolL, h 0 (by omega), h 1 (by omega), h 2 (by omega), h 3 (by omega), h 4 (by omega), h 5 (by omega), h 6 (by omega), h 7 (by omega)]

theorem boolL_get (f : Nat → Bool) (k : Nat) (hk : k < 8) : (boolL f).toArray[k]? = some (.bool (f k)) := by
  rcases lt8 hk with rfl | rfl | rfl | rfl | rfl | rfl | rfl | rfl <;> rfl
theorem boolL_set (f : Nat → Bool) (i : Nat) (b : Bool) (hi : i < 8) : (boolL f).toArray.setIfInBounds i (.bool b) = (boolL (fun k => if k = i then b else f k)).toArray := by
  rcases lt8 hi with rfl | rfl | rfl | rfl | rfl | rfl | rfl | rfl <;> simp [boolL]
theorem byteL_get (l : Nat → Nat) (i : Nat) (hi : i < 8) : (byteL l).toArray[i]? = some (.int .u8 (l i : Int)) := by
  rcases lt8 hi with rfl | rfl | rfl | rfl | rfl | rfl | rfl | rfl <;> rfl
theorem byteL_set (l : Nat → Nat) (i b : Nat) (hi : i < 8) : (byteL l).toArray.setIfInBounds i (.int .u8 (b : Int)) = (byteL (fun k => if k = i then b else l k)).toArray := by
  rcases lt8 hi with rfl | rfl | rfl | rfl | rfl | rfl | rfl | rfl <;> simp [byteL]
theorem boolL_one (f : Nat → Bool) : ∀ v ∈ (boolL f).toArray.toList, v.oneCell' = true := by
  intro v hv
  simp only [boolL, List.mem_cons, List.not_mem_nil, or_false] at hv
  rcases hv with rfl | rfl | rfl | rfl | rfl | rfl | rfl | rfl <;> rfl
theorem byteL_one (f : Nat → Nat) : ∀ v ∈ (byteL f).toArray.toList, v.oneCell' = true := by
  intro v hv
  simp only [byteL, List.mem_cons, List.not_mem_nil, or_false] at hv
  rcases hv with rfl | rfl | rfl | rfl | rfl | rfl | rfl | rfl <;> rfl
theorem ix_bool (f : Nat → Bool) (k : Nat) (hk : k < 8) (w : World) : (Instr.index 26 (.agg (boolL f).toArray) (.int .i64 (k : Int))).run Tryd.prog w = .ok (.bool (f k)) w :=
  run_index_one Tryd.underlying26 Tryd.underlying4 rfl (Tryd.sizeOf4 w) hk (boolL_get f k hk)
theorem ix_byte (l : Nat → Nat) (k : Nat) (hk : k < 8) (w : World) : (Instr.index 28 (.agg (byteL l).toArray) (.int .i64 (k : Int))).run Tryd.prog w = .ok (.int .u8 (l k : Int)) w :=
  run_index_one Tryd.underlying28 Tryd.underlying5 rfl (Tryd.sizeOf5 w) hk (byteL_get l k hk)

theorem upto_set (f : Nat → Bool) (k : Nat) : (fun j => if j = k then f k else (decide (j < k) && f j)) = fun j => decide (j < k + 1) && f j := by
  funext j
  by_cases h : j = k
  · subst h; simp
  · by_cases h2 : j < k
    · simp [h, h2, show j < k + 1 by omega]
    · simp [h, h2, show ¬ j < k + 1 by omega]
theorem upto_all (f : Nat → Bool) : boolL (fun j => decide (j < 8) && f j) = boolL f := boolL_congr fun i hi => by simp [hi]
theorem upto_none (f : Nat → Bool) : boolL (fun _ => false) = boolL (fun j => decide (j < 0) && f j) := boolL_congr fun i hi => by simp

set_option maxHeartbeats 4000000 in
theorem refHigh_any (m : Nat) (hm : m < 18446744073709551616) (w0 : World) :
    Calls Tryd.prog 25 #[.int .u64 (m : Int)] w0 fun e w' => e = .returned (.agg (boolL (highB m)).toArray) ∧ Below w0.heap.size w0 w' := by
  have hl := Lib.hid (refLanes_any m hm)
  have IX := Lib.hid (ix_byte (ln m))
  go_enter Tryd.func25, Tryd.ntmps25
  go_wp2_with (go_at_call 18; refine (hl.out _).mono ?_; rintro e w1 ⟨rfl, hb1⟩; have hq : Blk w1 (w0.heap.size + 1) 26 (boolL (fun _ => false)).toArray := (Blk.new_at (by simp)).below hb1 (by simp); have hr : Blk w1 w0.heap.size 26 (boolL (fun _ => false)).toArray := ((Blk.new_at rfl).alloc _).below hb1 (by simp <;> omega); have hB1 : Below w0.heap.size w0 w1 := Below.trans (by go_grown) (hb1.mono (by simp <;> omega)); clear hb1; replace hq := Lib.hid hq; replace hr := Lib.hid hr)
  go_loopw [9] (fun v9 wr => ∃ k : Nat, k ≤ 8 ∧ v9 = .int .i64 (k : Int) ∧ Blk wr (w0.heap.size + 1) 26 (boolL (fun j => decide (j < k) && highB m j)).toArray ∧ Blk wr w0.heap.size 26 (boolL (fun _ => false)).toArray ∧ Below w0.heap.size w0 wr) (fun v9 _ => 8 - (intOf v9).toNat)
  case atStart => exact ⟨0, by omega, rfl, by rw [← upto_none]; exact hq.out, hr.out, hB1⟩
  case round =>
    obtain ⟨k, hk, rfl, h1, h2, h3⟩ := hrel
    by_cases hlt : k < 8
    · have ix := IX.out k hlt
      have c1 := h1.cell k
      rw [boolL_get _ k hlt] at c1
      have f1 := h1.frozen k
      have hv : decide ((128 : Int) ≤ (ln m k : Int)) = highB m k := by unfold highB; rw [decide_eq_decide]; omega
      have H1 := Lib.hid h1
      have H2 := Lib.hid h2
      clear h1 h2
      go_wp2
      go_roundw
      case rel =>
        refine ⟨k + 1, by omega, by go_num, ?_, H2.out.other (by omega) _ _, h3.setCell (by simp) _⟩
        have := H1.out.set k (.bool (highB m k))
        rw [boolL_set _ _ _ hlt, upto_set] at this
        exact this
      case measure => simp [intOf]; omega
    · obtain rfl : k = 8 := by omega
      rw [upto_all] at h1
      have H1 := Lib.hid h1
      have H2 := Lib.hid h2
      clear h1 h2
      go_wp2_with (first | (refine wpList_value rfl (exec_loadAll (t := 26) rfl rfl Tryd.underlying26 rfl H1.out (Tryd.sizeOf26 _)) ?_) | (refine wpList_unit rfl (exec_storeAll (t := 26) rfl rfl rfl H2.out (by rfl) (Tryd.sizeOf26 _) (boolL_one _)) ?_))
      refine bodyPost_ret (v := .agg (boolL (highB m)).toArray) ?_ rfl ⟨rfl, Below.setRow h3 (Nat.le_refl _) _⟩
      exact results_blk rfl rfl Tryd.underlying26 rfl (H2.out.setRow _) (Tryd.sizeOf26 _)

set_option maxHeartbeats 4000000 in
theorem refEqual_any (m b : Nat) (hm : m < 18446744073709551616) (w0 : World) :
    Calls Tryd.prog 17 #[.int .u64 (m : Int), .int .u8 (b : Int)] w0 fun e w' => e = .returned (.agg (boolL (equalB m b)).toArray) ∧ Below w0.heap.size w0 w' := by
  have hl := Lib.hid (refLanes_any m hm)
  have IX := Lib.hid (ix_byte (ln m))
  go_enter Tryd.func17, Tryd.ntmps17
  go_wp2_with (go_at_call 18; refine (hl.out _).mono ?_; rintro e w1 ⟨rfl, hb1⟩; have hq : Blk w1 (w0.heap.size + 1) 26 (boolL (fun _ => false)).toArray := (Blk.new_at (by simp)).below hb1 (by simp); have hr : Blk w1 w0.heap.size 26 (boolL (fun _ => false)).toArray := ((Blk.new_at rfl).alloc _).below hb1 (by simp <;> omega); have hB1 : Below w0.heap.size w0 w1 := Below.trans (by go_grown) (hb1.mono (by simp <;> omega)); clear hb1; replace hq := Lib.hid hq; replace hr := Lib.hid hr)
  go_loopw [11] (fun v9 wr => ∃ k : Nat, k ≤ 8 ∧ v9 = .int .i64 (k : Int) ∧ Blk wr (w0.heap.size + 1) 26 (boolL (fun j => decide (j < k) && equalB m b j)).toArray ∧ Blk wr w0.heap.size 26 (boolL (fun _ => false)).toArray ∧ Below w0.heap.size w0 wr) (fun v9 _ => 8 - (intOf v9).toNat)
  case atStart => exact ⟨0, by omega, rfl, by rw [← upto_none]; exact hq.out, hr.out, hB1⟩
  case round =>
    obtain ⟨k, hk, rfl, h1, h2, h3⟩ := hrel
    by_cases hlt : k < 8
    · have ix := IX.out k hlt
      have c1 := h1.cell k
      rw [boolL_get _ k hlt] at c1
      have f1 := h1.frozen k
      have hv : ((ln m k : Int) == (b : Int)) = equalB m b k := by unfold equalB; rw [Bool.eq_iff_iff, beq_iff_eq, decide_eq_true_iff]; omega
      have hv2 : decide (ln m k = b) = equalB m b k := rfl
      have hv3 : (ln m k == b) = equalB m b k := by unfold equalB; rw [Bool.eq_iff_iff, beq_iff_eq, decide_eq_true_iff]
      have H1 := Lib.hid h1
      have H2 := Lib.hid h2
      clear h1 h2
      go_wp2
      go_roundw
      case rel =>
        refine ⟨k + 1, by omega, by go_num, ?_, H2.out.other (by omega) _ _, h3.setCell (by simp) _⟩
        have := H1.out.set k (.bool (equalB m b k))
        rw [boolL_set _ _ _ hlt, upto_set] at this
        exact this
      case measure => simp [intOf]; omega
    · obtain rfl : k = 8 := by omega
      rw [upto_all] at h1
      have H1 := Lib.hid h1
      have H2 := Lib.hid h2
      clear h1 h2
      go_wp2_with (first | (refine wpList_value rfl (exec_loadAll (t := 26) rfl rfl Tryd.underlying26 rfl H1.out (Tryd.sizeOf26 _)) ?_) | (refine wpList_unit rfl (exec_storeAll (t := 26) rfl rfl rfl H2.out (by rfl) (Tryd.sizeOf26 _) (boolL_one _)) ?_))
      refine bodyPost_ret (v := .agg (boolL (equalB m b)).toArray) ?_ rfl ⟨rfl, Below.setRow h3 (Nat.le_refl _) _⟩
      exact results_blk rfl rfl Tryd.underlying26 rfl (H2.out.setRow _) (Tryd.sizeOf26 _)

set_option maxHeartbeats 4000000 in
theorem refMask_any (f : Nat → Bool) (w0 : World) :
    Calls Tryd.prog 16 #[.agg (boolL f).toArray] w0 fun e w' => e = .returned (.int .u64 ((maskB f : Nat) : Int)) ∧ Below w0.heap.size w0 w' := by
  have IX := Lib.hid (ix_bool f)
  have HW := Lib.hid (word_any (fun i => if f i then 128 else 0) (maskB_bd f))
  go_enter Tryd.func16, Tryd.ntmps16
  go_wp2_with (first | (refine wpList_value rfl (exec_box (t := 26) rfl rfl) ?_) | (refine wpList_value rfl (exec_loadAll (t := 26) rfl rfl Tryd.underlying26 rfl ((Blk.new w0 _ (boolL f).toArray).alloc _) (Tryd.sizeOf26 _)) ?_))
  go_loopw [8] (fun v9 wr => ∃ k : Nat, k ≤ 8 ∧ v9 = .int .i64 (k : Int) ∧ Blk wr (w0.heap.size + 1) 28 (byteL (fun j => if (decide (j < k) && f j) = true then 128 else 0)).toArray ∧ Below w0.heap.size w0 wr) (fun v9 _ => 8 - (intOf v9).toNat)
  case atStart =>
    refine ⟨0, by omega, rfl, ?_, by go_grown⟩
    simp only [Nat.not_lt_zero, decide_false, Bool.false_and, Bool.false_eq_true, if_false]
    exact Blk.new_at (by simp)
  case round =>
    obtain ⟨k, hk, rfl, h1, h3⟩ := hrel
    by_cases hlt : k < 8
    · have ix := IX.out k hlt
      have c1 := h1.cell k
      rw [byteL_get _ k hlt] at c1
      have f1 := h1.frozen k
      have H1 := Lib.hid h1
      clear h1
      cases hf : f k
      · rw [hf] at ix
        replace hf := Lib.hid hf
        go_wp2
        go_roundw
        case rel =>
          refine ⟨k + 1, by omega, by go_num, ?_, h3⟩
          have e : ∀ j, (if (decide (j < k + 1) && f j) = true then 128 else 0) = (if (decide (j < k) && f j) = true then 128 else 0) := fun j => by
            by_cases h : j = k
            · subst h; simp [hf.out]
            · simp [show (j < k + 1) ↔ (j < k) by omega]
          simp only [e]
          exact H1.out
        case measure => simp [intOf]; omega
      · rw [hf] at ix
        replace hf := Lib.hid hf
        go_wp2
        go_roundw
        case rel =>
          refine ⟨k + 1, by omega, by go_num, ?_, h3.setCell (by simp) _⟩
          have := H1.out.set k (.int .u8 ((128 : Nat) : Int))
          rw [byteL_set _ _ _ hlt] at this
          have e : ∀ j, (if (decide (j < k + 1) && f j) = true then 128 else 0) = (if j = k then 128 else if (decide (j < k) && f j) = true then 128 else 0) := fun j => by
            by_cases h : j = k
            · subst h; simp [hf.out]
            · simp [h, show (j < k + 1) ↔ (j < k) by omega]
          simp only [e]
          exact this
        case measure => simp [intOf]; omega
    · obtain rfl : k = 8 := by omega
      have e : byteL (fun j => if (decide (j < 8) && f j) = true then 128 else 0) = byteL (fun i => if f i then 128 else 0) := by simp [byteL]
      rw [e] at h1
      have H1 := Lib.hid h1
      clear h1
      go_wp2_with (first | (refine wpList_value rfl (exec_loadAll (t := 28) rfl rfl Tryd.underlying28 rfl H1.out (Tryd.sizeOf28 _)) ?_) | (go_at_call 81; refine (HW.out _).mono ?_; rintro e w1 ⟨rfl, hb1⟩))
      go_ret
      exact ⟨rfl, h3.trans (hb1.mono h3.size)⟩

theorem infoInt1 : (Tryd.prog.info? 3).map (fun i => (i.zero, i.size, i.bytes)) = some (some (.int .i64 0), 1, 8) := by kernel_rfl
/-- the lanes that are in, below k -/
def lanesTo (f : Nat → Bool) (k : Nat) : List Int := ((List.range k).filter f).map fun n : Nat => (n : Int)
theorem lanesTo_succ (f : Nat → Bool) (k : Nat) : lanesTo f (k + 1) = lanesTo f k ++ if f k then [(k : Int)] else [] := by
  unfold lanesTo
  rw [List.range_succ, List.filter_append, List.map_append]
  congr 1
  cases h : f k <;> simp [h]
theorem lanesTo_len (f : Nat → Bool) (k : Nat) : (lanesTo f k).length ≤ k := by
  have := List.length_filter_le f (List.range k)
  simpa [lanesTo] using this
end Go.Proofs.YtdlfkjpnbgobhaaDoor
