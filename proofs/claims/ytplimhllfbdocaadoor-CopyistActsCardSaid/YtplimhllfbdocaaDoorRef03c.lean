/- The document's top of a depth. Condition: the depth is right. -/
import Derived.Test.YtplimhllfbdocaaDoorRef03b
namespace Go.Proofs.YtplimhllfbdocaaDoor
set_option linter.unusedVariables false
set_option linter.unusedSimpArgs false
open Go.RowKit Go.Proofs

theorem top_reads {w : World} {B h d : Nat} (hd : d ≤ 64) (hb : Blk w B 161 (ints64 (bitF h))) :
    ReadsInts w (.slice (some ⟨B, 0, none⟩) d 64) ((topB h d).map fun n : Nat => (n : Int)) := by
  refine ⟨some ⟨B, 0, none⟩, 64, by simp [topB], ?_⟩
  intro _
  refine ⟨B, 0, rfl, ?_⟩
  intro j hj
  have hj' : j < d := by simpa [topB] using hj
  rw [Nat.zero_add, hb.cell, ints64_get _ _ (by omega)]
  simp [topB]

set_option maxRecDepth 100000 in
theorem arr64 : Tryd.prog.arrayLen 161 = 64 := by kernel_rfl
set_option maxRecDepth 100000 in
theorem slice64 (B d : Nat) (hd : d ≤ 64) (w : World) :
    (Instr.sliceAt 161 (.pointer (some ⟨B, 0, none⟩)) none (some (.int .i64 (d : Int))) none).run Tryd.prog w = .ok (.slice (some ⟨B, 0, none⟩) d 64) w := by
  rw [run_sliceAt_array_h w 161 ⟨B, 0, none⟩ Tryd.underlying161 .i64 d (by omega) (by rw [arr64]; omega)]
  show ((sizeOf 3).run Tryd.prog w).andThen _ = _
  rw [arr64, Tryd.sizeOf3 w]
  show Result.ok (slicedAt ⟨B, 0, none⟩ 0 (d : Int).toNat 64 1) w = _
  simp [slicedAt, Addr.add]
set_option maxRecDepth 100000 in
set_option maxHeartbeats 2000000 in
theorem top03_any (h d : Nat) (hh : h < 18446744073709551616) (hd : d ≤ 16) (w0 : World) :
    Calls Tryd.prog 163 #[.int .u64 (h : Int), .int .i64 (d : Int)] w0 fun e w' => e = .returned (.tuple #[.int .i64 ((h / 2 ^ (64 - d) : Nat) : Int), .int .i64 0]) ∧ Below w0.heap.size w0 w' := by
  have hbits := Lib.hid (bits_any h hh)
  have hN := Lib.hid (fun B : Nat => number_any (.slice (some ⟨B, 0, none⟩) d 64) (topB h d) (by rw [topB_len]; omega) (topB_le h d))
  have hT := topB_num h d hh (by omega)
  have hlt : numB (topB h d) < 65536 := by
    have h1 := numB_lt (topB h d) (topB_le h d)
    rw [topB_len] at h1
    exact Nat.lt_of_lt_of_le h1 (Nat.le_trans (Nat.pow_le_pow_right (n := 2) (by decide) hd) (by decide))
  rw [← hT]
  clear hT
  have q1 : ∀ d : Nat, (0 ≤ (d : Int)) := by omega
  go_enter Tryd.func163, Tryd.ntmps163
  go_wp2_with (first
    | (refine wpList_value rfl (exec_alloc (t := 161) rfl zvI64) ?_)
    | (go_at_call 102; refine (hbits.out _).mono ?_; rintro e w1 ⟨rfl, hb1⟩; have hq : Blk (w1.alloc (.cells zeros64 161)) w1.heap.size 161 zeros64 := Blk.new _ _ _; have hsz := hb1.size; have hB1 : Below w0.heap.size w0 (w1.alloc (.cells zeros64 161)) := hb1.trans (by go_grown); have HSZ : (ints64 (bitF h)).size = zeros64.size := by (rw [ints64_size]; simp [zeros64]))
    | (refine wpList_unit rfl (exec_storeAll (t := 161) rfl rfl rfl hq HSZ (by rw [ints64_size]; exact Tryd.sizeOf161 _) (ints64_one _)) ?_; have hR := top_reads (h := h) (d := d) (by omega) (hq.setRow (ints64 (bitF h))); have sl := slice64 w1.heap.size d (by omega) ((w1.alloc (.cells zeros64 161)).setRow w1.heap.size (ints64 (bitF h))))
    | (go_at_call 103; refine (hN.out _ _ hR).mono ?_; rintro e w2 ⟨rfl, rfl⟩))
  go_ret2
  exact ⟨rfl, Below.setRow hB1 (by omega) _⟩
end Go.Proofs.YtplimhllfbdocaaDoor
