/- The document's ends of a prefix. No condition. -/
import Derived.Test.YtplimhllfbdocaaDoorRef03c
import Derived.Test.YtplimhllfbdocaaDoorBitsEnds
import Derived.Test.YtplimhllfbdocaaDoorSplit
namespace Go.Proofs.YtplimhllfbdocaaDoor
set_option linter.unusedVariables false
set_option linter.unusedSimpArgs false
open Go.RowKit Go.Proofs

theorem setRow_same {w : World} {g : Nat} {T : TypeId} {cs : Array Value} (h : Blk w g T cs) : w.setRow g cs = w := by
  have : (w.setRow g cs).heap = w.heap := by
    apply Array.ext_getElem?
    intro j
    by_cases e : j = g
    · subst e; exact (h.setRow cs).trans h.symm
    · exact setRow_other w g cs e
  calc w.setRow g cs = { w with heap := (w.setRow g cs).heap } := rfl
    _ = w := by rw [this]
theorem ends_reads {w : World} {B : Nat} {f : Nat → Nat} (hb : Blk w B 161 (ints64 f)) :
    ReadsInts w (.slice (some ⟨B, 0, none⟩) 64 64) (((List.range 64).map f).map fun n : Nat => (n : Int)) := by
  refine ⟨some ⟨B, 0, none⟩, 64, by simp, ?_⟩
  intro _
  refine ⟨B, 0, rfl, ?_⟩
  intro j hj
  have hj' : j < 64 := by simpa using hj
  rw [Nat.zero_add, hb.cell, ints64_get _ _ (by omega)]
  simp
set_option maxRecDepth 100000 in
theorem slice64w (B : Nat) (w : World) :
    (Instr.sliceAt 161 (.pointer (some ⟨B, 0, none⟩)) none none none).run Tryd.prog w = .ok (.slice (some ⟨B, 0, none⟩) 64 64) w := by kernel_rfl
theorem szZ (w : World) : (sizeOf 161).run Tryd.prog w = .ok zeros64.size w := by rw [show zeros64.size = 64 from by simp [zeros64]]; exact Tryd.sizeOf161 _
theorem oneZ : ∀ v ∈ zeros64.toList, v.oneCell' = true := by rw [zeros64_ints]; exact ints64_one _
theorem endF_part (p d n : Nat) (hn : n < d) : (fun j => if j = n then p / 2 ^ (d - (n + 1)) % 2 else if n + 1 ≤ j ∧ j < d then p / 2 ^ (d - 1 - j) % 2 else 0) = fun j => if n ≤ j ∧ j < d then p / 2 ^ (d - 1 - j) % 2 else 0 := by
  funext j
  by_cases e : j = n
  · subst e; rw [if_pos rfl, if_pos (by omega), show d - (j + 1) = d - 1 - j by omega]
  · rw [if_neg e]
    by_cases c : n + 1 ≤ j ∧ j < d
    · rw [if_pos c, if_pos (by omega)]
    · rw [if_neg c, if_neg (by omega)]
theorem endF_ones (p d i : Nat) (hd : d ≤ i) : (fun j => if j = i then 1 else if j < i then endF p d 1 j else 0) = fun j => if j < i + 1 then endF p d 1 j else 0 := by
  funext j
  by_cases e : j = i
  · subst e; rw [if_pos rfl, if_pos (by omega)]; unfold endF; rw [if_neg (by omega)]
  · rw [if_neg e]
    by_cases c : j < i
    · rw [if_pos c, if_pos (by omega)]
    · rw [if_neg c, if_neg (by omega)]
set_option maxRecDepth 100000 in
set_option maxHeartbeats 4000000 in
theorem ends03_any (p d : Nat) (hd : d ≤ 16) (hp : p < 2 ^ d) (w0 : World) :
    Calls Tryd.prog 162 #[.int .i64 (p : Int), .int .i64 (d : Int)] w0 fun e w' => e = .returned (.tuple #[.int .u64 ((p * 2 ^ (64 - d) : Nat) : Int), .int .u64 (((p + 1) * 2 ^ (64 - d) - 1 : Nat) : Int), .int .i64 0]) ∧ Below w0.heap.size w0 w' := by
  have LO := endL_low p d hp (64 - d)
  have HI := endL_high p d hp (64 - d)
  rw [show d + (64 - d) = 64 by omega] at LO HI
  replace HI : numB (endL p d 1 64) = (p + 1) * 2 ^ (64 - d) - 1 := by omega
  rw [← LO, ← HI]
  have hN0 := Lib.hid (fun (w : World) h => number_any (.slice (some ⟨w0.heap.size, 0, none⟩) 64 64) (endL p d 0 64) (by simp [endL]) (by intro b hb; simp only [endL, List.mem_map] at hb; obtain ⟨i, -, rfl⟩ := hb; exact endF_le p d 0 i (by decide)) w h)
  have hN1 := Lib.hid (fun (w : World) h => number_any (.slice (some ⟨w0.heap.size + 1, 0, none⟩) 64 64) (endL p d 1 64) (by simp [endL]) (by intro b hb; simp only [endL, List.mem_map] at hb; obtain ⟨i, -, rfl⟩ := hb; exact endF_le p d 1 i (by decide)) w h)
  clear LO HI
  generalize numB (endL p d 0 64) = nl at *
  generalize numB (endL p d 1 64) = nh at *
  have q0 := Lib.hid (show Blk ((w0.alloc (.cells zeros64 161)).alloc (.cells zeros64 161)) w0.heap.size 161 zeros64 from (Blk.new _ _ _).alloc _)
  have q1 := Lib.hid (show Blk ((w0.alloc (.cells zeros64 161)).alloc (.cells zeros64 161)) (w0.heap.size + 1) 161 zeros64 from Blk.new_at (by simp))
  have q1' := Lib.hid (show Blk ((w0.alloc (.cells zeros64 161)).alloc (.cells zeros64 161)) (w0.alloc (.cells zeros64 161)).heap.size 161 zeros64 from Blk.new _ _ _)
  have h9 : ∀ k : Nat, k ≤ 16 → 2 ^ k ≤ 65536 := fun k hk => Nat.pow_le_pow_right (n := 2) (by decide) hk
  have H9 := Lib.hid h9
  have hP := Lib.hid hp
  have e1 : decide ((d : Int) < 0) = false := by simp
  have e2 : decide ((d : Int) > 16) = false := by simp; omega
  have e3 : decide ((p : Int) < 0) = false := by simp
  have hp64 : p < 65536 := Nat.lt_of_lt_of_le hp (h9 d hd)
  clear h9 hp
  go_enter Tryd.func162, Tryd.ntmps162
  go_wp2
  go_loop [7, 8] (fun v7 v8 => ∃ k : Nat, k ≤ d ∧ v8 = .int .i64 (k : Int) ∧ v7 = .int .i64 ((2 ^ k : Nat) : Int)) (fun _ v8 => d - (intOf v8).toNat)
  case atStart => exact ⟨0, Nat.zero_le _, rfl, rfl⟩
  case round =>
    obtain ⟨k, hk, rfl, rfl⟩ := hrel
    by_cases hlt : k < d
    · have h1 := H9.out k (by omega)
      have h2 : 2 ^ (k + 1) = 2 ^ k * 2 := Nat.pow_succ ..
      generalize 2 ^ k = m at *
      have H2 := Lib.hid h2
      clear h2
      go_wp2
      go_round
      case rel => exact ⟨k + 1, by omega, by go_num, by rw [H2.out]; go_num⟩
      case measure => simp [intOf]; omega
    · obtain rfl : k = d := by omega
      have h1 := hP.out
      have hge : decide (2 ^ k ≤ p) = false := by rw [decide_eq_false_iff_not]; omega
      generalize 2 ^ k = m at h1 hge ⊢
      go_wp2_with (first
        | (refine wpList_value rfl (exec_zero (t := 161) rfl Tryd.underlying161 rfl zvI64 (fun w => ⟨_, Tryd.sizeOf3 w⟩)) ?_)
        | (refine wpList_value rfl (exec_alloc (t := 161) rfl zvI64) ?_)
        | (refine wpList_unit rfl (exec_storeAll (t := 161) (g := w0.heap.size) rfl rfl rfl q0.out rfl (by exact szZ _) (by exact oneZ)) ?_; (try rw [show (Value.agg zeros64).cells = zeros64 from rfl]); rw [setRow_same q0.out])
        | (refine wpList_unit rfl (exec_storeAll (t := 161) (g := (w0.alloc (.cells zeros64 161)).heap.size) rfl rfl rfl q1'.out rfl (by exact szZ _) (by exact oneZ)) ?_; (try rw [show (Value.agg zeros64).cells = zeros64 from rfl]); rw [setRow_same q1'.out]))
      clear q1'
      replace q0 := q0.out
      replace q1 := q1.out
      have hB1 : Below w0.heap.size w0 ((w0.alloc (.cells zeros64 161)).alloc (.cells zeros64 161)) := by go_grown
      rw [zeros64_ints] at q0 q1 hB1 ⊢
      generalize (w0.alloc (.cells (ints64 fun _ => 0) 161)).alloc (.cells (ints64 fun _ => 0) 161) = W2 at q0 q1 hB1 ⊢
      go_loopw [11, 12] (fun v11 v12 wr => ∃ i : Nat, i ≤ k ∧ v12 = .int .i64 ((i : Int) - 1) ∧ v11 = .int .i64 ((p / 2 ^ (k - i) : Nat) : Int) ∧ Blk wr w0.heap.size 161 (ints64 (fun j => if i ≤ j ∧ j < k then p / 2 ^ (k - 1 - j) % 2 else 0)) ∧ Blk wr (w0.heap.size + 1) 161 (ints64 (fun j => if i ≤ j ∧ j < k then p / 2 ^ (k - 1 - j) % 2 else 0)) ∧ Below w0.heap.size w0 wr) (fun _ v12 _ => (intOf v12 + 1).toNat)
      case atStart =>
        refine ⟨k, by omega, rfl, by simp, ?_, ?_, hB1⟩
        · rw [← ints64_congr (f := fun _ => 0) (fun i hi => by rw [if_neg (by omega)])]; exact q0
        · rw [← ints64_congr (f := fun _ => 0) (fun i hi => by rw [if_neg (by omega)])]; exact q1
      case round =>
        clear q0 q1 hB1
        obtain ⟨i, hi, rfl, rfl, h1, h2, h3⟩ := hrel
        by_cases hlt : 1 ≤ i
        · obtain ⟨n, rfl⟩ : ∃ n, i = n + 1 := ⟨i - 1, by omega⟩
          rw [show (((n + 1 : Nat) : Int) - 1) = (n : Int) by omega]
          have c1 := h1.cell n
          have c2 := h2.cell n
          rw [ints64_get _ n (by omega)] at c1 c2
          have f1 := h1.frozen n
          have f2 := h2.frozen n
          have hq0 : p / 2 ^ (k - (n + 1)) / 2 = p / 2 ^ (k - n) := (by rw [Nat.div_div_eq_div_mul, ← Nat.pow_succ, show (k - (n + 1)).succ = k - n by omega])
          have hlow : p / 2 ^ (k - (n + 1)) ≤ p := Nat.div_le_self _ _
          have hpart := Lib.hid (endF_part p k n (by omega))
          generalize p / 2 ^ (k - (n + 1)) = t at *
          have hq := Lib.hid hq0
          clear hq0
          have H1 := Lib.hid h1
          have H2 := Lib.hid h2
          clear h1 h2
          go_wp2
          go_roundw
          case rel =>
            have e1 := H1.out.set n (.int .i64 ((t % 2 : Nat) : Int))
            have e2 := (H2.out.other (by omega) n (.int .i64 ((t % 2 : Nat) : Int)) (B' := w0.heap.size)).set n (.int .i64 ((t % 2 : Nat) : Int))
            rw [ints64_set _ _ _ (by omega), hpart.out] at e1 e2
            rw [show (t : Int) % 2 = ((t % 2 : Nat) : Int) by omega]
            exact ⟨n, by omega, by go_num, by rw [← hq.out]; simp, e1.other (by omega) _ _, e2, (h3.setCell (by simp) _).setCell (by simp) _⟩
          case measure => simp only [intOf]; omega
        · obtain rfl : i = 0 := by omega
          rw [ints64_congr (g := endF p k 0) (fun j hj => by unfold endF; by_cases c : j < k <;> simp [c])] at h1
          rw [ints64_congr (g := fun j => if j < k then endF p k 1 j else 0) (fun j hj => by unfold endF; by_cases c : j < k <;> simp [c])] at h2
          have H1 := Lib.hid h1
          have H2 := Lib.hid h2
          clear h1 h2
          obtain ⟨wo, rfl⟩ : ∃ wo : World, wo = wr := ⟨_, rfl⟩
          go_wp2
          go_loopw [13] (fun v13 wr => ∃ i : Nat, k ≤ i ∧ i ≤ 64 ∧ v13 = .int .i64 (i : Int) ∧ Blk wr w0.heap.size 161 (ints64 (endF p k 0)) ∧ Blk wr (w0.heap.size + 1) 161 (ints64 (fun j => if j < i then endF p k 1 j else 0)) ∧ Below w0.heap.size w0 wr) (fun v13 _ => 64 - (intOf v13).toNat)
          case atStart => exact ⟨k, Nat.le_refl _, by omega, rfl, H1.out, H2.out, h3⟩
          case round =>
            clear H1 H2 h3
            obtain ⟨i, hi, hi64, rfl, h1, h2, h3⟩ := hrel
            by_cases hlt : i < 64
            · have c2 := h2.cell i
              rw [ints64_get _ i (by omega)] at c2
              have f2 := h2.frozen i
              have hpart := Lib.hid (endF_ones p k i hi)
              have H1 := Lib.hid h1
              have H2 := Lib.hid h2
              clear h1 h2
              go_wp2
              go_roundw
              case rel =>
                have e2 := H2.out.set i (.int .i64 ((1 : Nat) : Int))
                rw [ints64_set _ _ _ (by omega), hpart.out] at e2
                exact ⟨i + 1, by omega, by omega, by go_num, H1.out.other (by omega) _ _, e2, h3.setCell (by simp) _⟩
              case measure => simp [intOf]; omega
            · obtain rfl : i = 64 := by omega
              rw [ints64_congr (g := endF p k 1) (fun j hj => by rw [if_pos hj])] at h2
              have H1 := Lib.hid (ends_reads h1)
              have H2 := Lib.hid (ends_reads h2)
              clear h1 h2
              have s1 := slice64w w0.heap.size wr
              have s2 := slice64w (w0.heap.size + 1) wr
              go_wp2
              refine wp_region_seq (fun _ => False) #[⟨0, 0, 1152921504606846976, 512, 0⟩, ⟨1, 1, 2305843009213693952, 1152921504606846976, 3⟩, ⟨0, 0, 4611686018427387904, 1024, 0⟩, ⟨6, 7, 9223372036854775808, 4611686018427387904, 3⟩, ⟨11, 15, 16, 2305843009213693952, 0⟩, ⟨31, 31, 32, 9223372036854775808, 0⟩, ⟨63, 63, 64, 0, 0⟩] 0 [(0, 0), (2, 0), (1, 3), (3, 3), (4, 0), (5, 0), (6, 0)] (by kernel_rfl) (by kernel_rfl) (by kernel_rfl) (by kernel_rfl) (by kernel_rfl) (by kernel_rfl) (fun c a d v w h => by cases d <;> exact h) ?_
              refine seq_calc (by simp only [List.getElem?_toArray, List.getElem?_cons_succ, List.getElem?_cons_zero]; rfl) (by rfl) (fun u => by go_simp <;> with_reducible rfl) ?_
              try simp only [Act.put, List.setIfInBounds_toArray, List.set_cons_zero, List.set_cons_succ]
              refine seq_calc (by simp only [List.getElem?_toArray, List.getElem?_cons_succ, List.getElem?_cons_zero]; rfl) (by rfl) (fun u => by go_simp <;> with_reducible rfl) ?_
              try simp only [Act.put, List.setIfInBounds_toArray, List.set_cons_zero, List.set_cons_succ]
              refine seq_last (by simp only [List.getElem?_toArray, List.getElem?_cons_succ, List.getElem?_cons_zero]; rfl) (by rfl) (fun K hK => ?_); go_wp2_with (go_at_call 103; (first | (with_reducible refine (hN0.out _ H1.out).mono ?_) | (with_reducible refine (hN1.out _ H2.out).mono ?_)); rintro e w' ⟨rfl, rfl⟩); refine hK.out _ _ ?_; clear hK K
              try simp only [Act.put, List.setIfInBounds_toArray, List.set_cons_zero, List.set_cons_succ]
              refine seq_last (by simp only [List.getElem?_toArray, List.getElem?_cons_succ, List.getElem?_cons_zero]; rfl) (by rfl) (fun K hK => ?_); go_wp2_with (go_at_call 103; (first | (with_reducible refine (hN0.out _ H1.out).mono ?_) | (with_reducible refine (hN1.out _ H2.out).mono ?_)); rintro e w' ⟨rfl, rfl⟩); refine hK.out _ _ ?_; clear hK K
              try simp only [Act.put, List.setIfInBounds_toArray, List.set_cons_zero, List.set_cons_succ]
              refine seq_calc (by simp only [List.getElem?_toArray, List.getElem?_cons_succ, List.getElem?_cons_zero]; rfl) (by rfl) (fun u => by go_simp <;> with_reducible rfl) ?_
              try simp only [Act.put, List.setIfInBounds_toArray, List.set_cons_zero, List.set_cons_succ]
              refine seq_calc (by simp only [List.getElem?_toArray, List.getElem?_cons_succ, List.getElem?_cons_zero]; rfl) (by rfl) (fun u => by go_simp <;> with_reducible rfl) ?_
              try simp only [Act.put, List.setIfInBounds_toArray, List.set_cons_zero, List.set_cons_succ]
              refine seq_calc (by simp only [List.getElem?_toArray, List.getElem?_cons_succ, List.getElem?_cons_zero]; rfl) (by rfl) (fun u => by go_simp <;> with_reducible rfl) ?_
              try simp only [Act.put, List.setIfInBounds_toArray, List.set_cons_zero, List.set_cons_succ]
              refine seq_nil ?_
              go_wp2
              go_ret3
              exact ⟨rfl, h3.drew⟩
theorem ends03_badA (p d : Int) (h : d < 0 ∨ 16 < d ∨ p < 0) (w0 : World) :
    Calls Tryd.prog 162 #[.int .i64 p, .int .i64 d] w0 fun e w' => e = .returned (.tuple #[.int .u64 0, .int .u64 0, .int .i64 1]) ∧ w0 = w' := by
  by_cases h1 : d < 0
  · have e1 : decide (d < 0) = true := by simpa using h1
    clear h h1
    go_enter Tryd.func162, Tryd.ntmps162
    go_wp2
    go_ret3
    exact ⟨rfl, rfl⟩
  have e1 : decide (d < 0) = false := by simpa using h1
  by_cases h2 : 16 < d
  · have e2 : decide (d > 16) = true := by simpa using h2
    clear h h1
    go_enter Tryd.func162, Tryd.ntmps162
    go_wp2
    go_ret3
    exact ⟨rfl, rfl⟩
  have e2 : decide (d > 16) = false := by simpa using h2
  have e3 : decide (p < 0) = true := by simp; omega
  clear h h1 h2
  go_enter Tryd.func162, Tryd.ntmps162
  go_wp2
  go_ret3
  exact ⟨rfl, rfl⟩
theorem ends03_badB (p d : Nat) (hd : d ≤ 16) (hp : 2 ^ d ≤ p) (w0 : World) :
    Calls Tryd.prog 162 #[.int .i64 (p : Int), .int .i64 (d : Int)] w0 fun e w' => e = .returned (.tuple #[.int .u64 0, .int .u64 0, .int .i64 1]) ∧ w0 = w' := by
  have h9 : ∀ k : Nat, k ≤ 16 → 2 ^ k ≤ 65536 := fun k hk => Nat.pow_le_pow_right (n := 2) (by decide) hk
  have H9 := Lib.hid h9
  have hP := Lib.hid hp
  have e1 : decide ((d : Int) < 0) = false := by simp
  have e2 : decide ((d : Int) > 16) = false := by simp; omega
  have e3 : decide ((p : Int) < 0) = false := by simp
  clear h9 hp
  go_enter Tryd.func162, Tryd.ntmps162
  go_wp2
  go_loop [7, 8] (fun v7 v8 => ∃ k : Nat, k ≤ d ∧ v8 = .int .i64 (k : Int) ∧ v7 = .int .i64 ((2 ^ k : Nat) : Int)) (fun _ v8 => d - (intOf v8).toNat)
  case atStart => exact ⟨0, Nat.zero_le _, rfl, rfl⟩
  case round =>
    obtain ⟨k, hk, rfl, rfl⟩ := hrel
    by_cases hlt : k < d
    · have h1 := H9.out k (by omega)
      have h2 : 2 ^ (k + 1) = 2 ^ k * 2 := Nat.pow_succ ..
      generalize 2 ^ k = m at *
      have H2 := Lib.hid h2
      clear h2
      go_wp2
      go_round
      case rel => exact ⟨k + 1, by omega, by go_num, by rw [H2.out]; go_num⟩
      case measure => simp [intOf]; omega
    · obtain rfl : k = d := by omega
      have hge : decide (2 ^ k ≤ p) = true := decide_eq_true hP.out
      generalize 2 ^ k = m at hge ⊢
      go_wp2
      go_ret3
      exact ⟨rfl, rfl⟩
end Go.Proofs.YtplimhllfbdocaaDoor
