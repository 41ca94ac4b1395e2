/- The document's bits: Bits, Top. No condition. -/
import Derived.Test.YtplimhllfbdocaaDoorRef03
import Derived.Test.YtplimhllfbdocaaDoorChg
import Derived.Deep.Cut
namespace Go.Proofs.YtplimhllfbdocaaDoor
set_option linter.unusedVariables false
set_option linter.unusedSimpArgs false
open Go.RowKit Go.Proofs

/-- sixty-four ints as cells -/
def ints64 (f : Nat → Nat) : Array Value := ((List.range 64).map fun i => Value.int .i64 (f i : Int)).toArray
theorem ints64_size (f : Nat → Nat) : (ints64 f).size = 64 := by simp [ints64]
theorem ints64_get (f : Nat → Nat) (j : Nat) (hj : j < 64) : (ints64 f)[j]? = some (.int .i64 (f j : Int)) := by simp [ints64, hj]
theorem ints64_set (f : Nat → Nat) (k b : Nat) (hk : k < 64) : (ints64 f).setIfInBounds k (.int .i64 (b : Int)) = ints64 (fun j => if j = k then b else f j) := by
  apply Array.ext_getElem?
  intro j
  by_cases hj : j < 64
  · rw [ints64_get _ _ hj, Array.getElem?_setIfInBounds]
    by_cases e : k = j
    · subst e; simp [ints64_size, hj]
    · rw [if_neg e, ints64_get _ _ hj, if_neg (Ne.symm e)]
  · rw [Array.getElem?_eq_none (by rw [Array.size_setIfInBounds, ints64_size]; omega), Array.getElem?_eq_none (by rw [ints64_size]; omega)]
theorem ints64_one (f : Nat → Nat) : ∀ v ∈ (ints64 f).toList, v.oneCell' = true := by
  intro v hv
  simp only [ints64, List.mem_map] at hv
  obtain ⟨i, -, rfl⟩ := hv
  rfl
theorem ints64_congr {f g : Nat → Nat} (h : ∀ i, i < 64 → f i = g i) : ints64 f = ints64 g := by
  unfold ints64
  congr 1
  refine List.map_congr_left fun i hi => ?_
  rw [h i (List.mem_range.1 hi)]
def zeros64 : Array Value := Array.replicate 64 (Value.int .i64 0)
theorem zeros64_ints : zeros64 = ints64 fun _ => 0 := by
  apply Array.ext_getElem?
  intro j
  by_cases hj : j < 64
  · rw [ints64_get _ _ hj]; simp [zeros64, hj]
  · rw [Array.getElem?_eq_none (by simp [zeros64]; omega), Array.getElem?_eq_none (by rw [ints64_size]; omega)]
theorem zvI64 (w : World) : (zeroValue 161).run Tryd.prog w = .ok (.agg zeros64) w := by kernel_rfl

theorem bits_step (h n : Nat) : (fun j => if j = n then bitF h n else if n + 1 ≤ j then bitF h j else 0) = fun j => if n ≤ j then bitF h j else 0 := by
  funext j
  by_cases e : j = n
  · subst e; simp
  · by_cases e2 : n ≤ j
    · rw [if_neg e, if_pos e2, if_pos (by omega)]
    · rw [if_neg e, if_neg e2, if_neg (by omega)]
set_option maxRecDepth 100000 in
set_option maxHeartbeats 2000000 in
theorem bits_any (h : Nat) (hh : h < 18446744073709551616) (w0 : World) :
    Calls Tryd.prog 102 #[.int .u64 (h : Int)] w0 fun e w' => e = .returned (.agg (ints64 (bitF h))) ∧ Below w0.heap.size w0 w' := by
  go_enter Tryd.func102, Tryd.ntmps102
  go_wp2_with (first
    | (refine wpList_value rfl (exec_zero (t := 161) rfl Tryd.underlying161 rfl zvI64 (fun w => ⟨_, Tryd.sizeOf3 w⟩)) ?_)
    | (refine wpList_value rfl (exec_alloc (t := 161) rfl zvI64) ?_)
    | (refine wpList_unit rfl (exec_storeAll (t := 161) rfl rfl rfl (Blk.new _ _ _) rfl (by rw [show (Value.agg zeros64).cells = zeros64 from rfl, show zeros64.size = 64 from by simp [zeros64]]; exact Tryd.sizeOf161 _) (by rw [zeros64_ints]; exact ints64_one _)) ?_; rw [setRow_new rfl]))
  have q1 : Blk ((w0.alloc (.cells zeros64 161)).alloc (.cells zeros64 161)) (w0.heap.size + 1) 161 zeros64 := Blk.new_at (by simp)
  have q0 : Blk ((w0.alloc (.cells zeros64 161)).alloc (.cells zeros64 161)) w0.heap.size 161 zeros64 := (Blk.new _ _ _).alloc _
  have hB1 : Below w0.heap.size w0 ((w0.alloc (.cells zeros64 161)).alloc (.cells zeros64 161)) := by go_grown
  go_loopw [0, 4] (fun v0 v4 wr => ∃ k : Nat, k ≤ 64 ∧ v4 = .int .i64 ((k : Int) - 1) ∧ v0 = .int .u64 ((h / 2 ^ (64 - k) : Nat) : Int) ∧ Blk wr (w0.heap.size + 1) 161 (ints64 (fun j => if k ≤ j then bitF h j else 0)) ∧ Blk wr w0.heap.size 161 zeros64 ∧ Below w0.heap.size w0 wr) (fun _ v4 _ => (intOf v4 + 1).toNat)
  case atStart =>
    refine ⟨64, by omega, rfl, by simp, ?_, q0, hB1⟩
    rw [← ints64_congr (f := fun _ => 0) (fun i hi => by simp [show ¬ 64 ≤ i by omega]), ← zeros64_ints]
    exact q1
  case round =>
    obtain ⟨k, hk, rfl, rfl, h1, h2, h3⟩ := hrel
    by_cases hlt : 1 ≤ k
    · obtain ⟨n, rfl⟩ : ∃ n, k = n + 1 := ⟨k - 1, by omega⟩
      rw [show (((n + 1 : Nat) : Int) - 1) = (n : Int) by omega, show 64 - (n + 1) = 63 - n by omega]
      have c1 := h1.cell n
      rw [ints64_get _ n (by omega)] at c1
      have f1 := h1.frozen n
      have hv : h / 2 ^ (63 - n) % 2 = bitF h n := rfl
      have hq0 : h / 2 ^ (63 - n) / 2 = h / 2 ^ (64 - n) := (by rw [Nat.div_div_eq_div_mul, ← Nat.pow_succ, show (63 - n).succ = 64 - n by omega])
      have hlow : h / 2 ^ (63 - n) ≤ h := Nat.div_le_self _ _
      generalize h / 2 ^ (63 - n) = t at *
      have hq := Lib.hid hq0
      clear hq0
      have H1 := Lib.hid h1
      have H2 := Lib.hid h2
      clear h1 h2
      go_wp2
      go_roundw
      case rel =>
        refine ⟨n, by omega, by go_num, by rw [← hq.out]; simp, ?_, H2.out.other (by omega) _ _, h3.setCell (by simp) _⟩
        have := H1.out.set n (.int .i64 (bitF h n : Int))
        rw [ints64_set _ _ _ (by omega)] at this
        rw [bits_step] at this
        rw [show (t : Int) % 2 = ((bitF h n : Nat) : Int) by omega]
        exact this
      case measure => simp only [intOf]; omega
    · obtain rfl : k = 0 := by omega
      rw [ints64_congr (g := bitF h) (fun i hi => by simp)] at h1
      have H1 := Lib.hid h1
      have H2 := Lib.hid h2
      clear h1 h2
      have HSZ : (ints64 (bitF h)).size = zeros64.size := by rw [ints64_size]; simp [zeros64]
      go_wp2_with (first | (refine wpList_value rfl (exec_loadAll (t := 161) rfl rfl Tryd.underlying161 rfl H1.out (by rw [ints64_size]; exact Tryd.sizeOf161 _)) ?_) | (refine wpList_unit rfl (exec_storeAll (t := 161) rfl rfl rfl H2.out HSZ (by rw [ints64_size]; exact Tryd.sizeOf161 _) (ints64_one _)) ?_))
      trace_state
      refine bodyPost_ret (v := .agg (ints64 (bitF h))) ?_ rfl ⟨rfl, Below.setRow h3 (Nat.le_refl _) _⟩
      exact results_blk rfl rfl Tryd.underlying161 rfl (H2.out.setRow _) (by rw [ints64_size]; exact Tryd.sizeOf161 _)
end Go.Proofs.YtplimhllfbdocaaDoor
