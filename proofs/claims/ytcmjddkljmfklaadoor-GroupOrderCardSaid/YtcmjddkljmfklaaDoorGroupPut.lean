/- Package group: Put, Set, Erase, Clear, Look. Condition: the errors' cells where it says so. -/
import Derived.Test.YtcmjddkljmfklaaDoorGroup
import Derived.Test.YtcmjddkljmfklaaDoorProbePlain
import Derived.Deep.DeepCutAuto
namespace Go.Proofs.YtcmjddkljmfklaaDoor
set_option linter.unusedVariables false
set_option linter.unusedSimpArgs false
open Go.RowKit Go.Proofs
attribute [local go_sem] neq_nilG

theorem h2_bits (h : Nat) (hh : h < 18446744073709551616) : bits .and .u64 (h : Int) 127 = ((h % 128 : Nat) : Int) := by
  have := bits_and_u64_nat h 127 hh (by decide)
  rw [show h &&& 127 = h % 128 from and_mask 7 h] at this
  exact this
set_option maxHeartbeats 400000 in
theorem h2_any (h : Nat) (hh : h < 18446744073709551616) (w : World) :
    Calls Tryd.prog 89 #[.int .u64 (h : Int)] w fun e w' => e = .returned (.int .u8 ((h % 128 : Nat) : Int)) ∧ w = w' := by
  have hb := h2_bits h hh
  have hlt : h % 128 < 128 := Nat.mod_lt _ (by decide)
  have hw : IntKind.u8.wrap ((h % 128 : Nat) : Int) = ((h % 128 : Nat) : Int) := by rw [IntKind.wrap_u8]; omega
  generalize h % 128 = q at *
  go_enter Tryd.func89, Tryd.ntmps89
  go_wp2
  go_ret
  exact ⟨rfl, rfl⟩
theorem ctrlB_low (q : Nat) (h : q < 128) : ctrlB q = true := by unfold ctrlB; simp; omega
set_option maxRecDepth 100000 in
set_option maxHeartbeats 4000000 in
theorem gput_ok (G o m k h : Nat) (s : Nat → EntS) (x0 x1 : Int) (hm : m < 18446744073709551616) (hh : h < 18446744073709551616) (hk : k < 8) (hf : fullE m (k : Int) false = 0) (E : Nat → Addr) (w : World) (hg : GW w G o m s) (he : EC w E [1, 5]) :
    Calls Tryd.prog 33 #[.agg #[.pointer (some ⟨G, o, none⟩)], .int .i64 (k : Int), .agg #[.int .u64 x0, .int .u64 x1, .int .u64 (h : Int)]] w fun e w' =>
      e = .returned (.tuple #[.bool (ln m k == 254), .nilIface]) ∧ GW w' G o (setL m k (h % 128)) (putS s k ⟨x0, x1, h⟩) ∧ ChgG G o w w' := by
  have FE := Lib.hid (fun w' (hb : Below w.heap.size w w') => gfullE_any G o m s hm k false E w' (hg.below hb hg.lt) (he.below hb))
  rw [hf] at FE
  simp only [errN_0] at FE
  have HG := Lib.hid hg
  have hl := hg.lt
  have c0 := hg.word
  have H2 := Lib.hid (h2_any h hh)
  have hq := Nat.mod_lt h (show 0 < 128 by decide)
  have MK := Lib.hid (fun w' hw => gmark_any G o m k (h % 128) (putS s k ⟨x0, x1, h⟩) hm hk (by omega) (ctrlB_low _ hq) w' hw)
  have GT := Lib.hid (cget_in m k hm hk)
  have hb : (((ln m k : Nat) : Int) == 254) = (ln m k == 254) := by rw [Bool.eq_iff_iff]; simp; omega
  obtain ⟨wb, hwb⟩ : ∃ b, b = (ln m k == 254) := ⟨_, rfl⟩
  rw [← hwb] at hb ⊢
  clear hwb
  generalize ln m k = l at *
  generalize h % 128 = q at *
  have hfw := hg.frozen
  obtain ⟨s0, s1, s2⟩ := hg.slot k hk
  clear hg he hf
  go_enter Tryd.func33, Tryd.ntmps33
  go_upto_region 5 with (first
    | (go_at_call 86; refine (FE.out _ (by go_grown)).mono ?_; rintro e w1 ⟨rfl, hb1⟩; have hB1 : Below w.heap.size w w1 := (by first | exact hB1.trans (hb1.mono hB1.size) | exact hB1.trans (Below.undrew (hb1.mono hB1.size)) | exact hb1 | exact Below.trans (by go_grown) (hb1.mono (by simp <;> omega))); have hcG := fun (o : Nat) => hb1.cell (p := ⟨G, o, none⟩) (by first | assumption | (simp <;> omega)); have hfG := fun (o : Nat) => hb1.frozen (p := ⟨G, o, none⟩) (by first | assumption | (simp <;> omega)); have hzG : G < w1.heap.size := Nat.lt_of_lt_of_le (by first | assumption | (simp <;> omega)) hb1.size; have hcwheapsize := fun (o : Nat) => hb1.cell (p := ⟨w.heap.size, o, none⟩) (by first | assumption | (simp <;> omega)); have hfwheapsize := fun (o : Nat) => hb1.frozen (p := ⟨w.heap.size, o, none⟩) (by first | assumption | (simp <;> omega)); have hzwheapsize : w.heap.size < w1.heap.size := Nat.lt_of_lt_of_le (by first | assumption | (simp <;> omega)) hb1.size; have hcwheapsize__1 := fun (o : Nat) => hb1.cell (p := ⟨w.heap.size + 1, o, none⟩) (by first | assumption | (simp <;> omega)); have hfwheapsize__1 := fun (o : Nat) => hb1.frozen (p := ⟨w.heap.size + 1, o, none⟩) (by first | assumption | (simp <;> omega)); have hzwheapsize__1 : w.heap.size + 1 < w1.heap.size := Nat.lt_of_lt_of_le (by first | assumption | (simp <;> omega)) hb1.size)
    | (go_at_call 87; refine (GT.out _).mono ?_; rintro e w' ⟨rfl, rfl⟩))
  have HG1 := Lib.hid (HG.out.below hB1 hl)
  have hP1 : Blk w1 w.heap.size 67 #[.pointer (some ⟨G, o, none⟩)] := Blk.below ((Blk.new w _ _).alloc _) hb1 (by simp <;> omega)
  have hP2 : Blk w1 (w.heap.size + 1) 62 #[.int .u64 x0, .int .u64 x1, .int .u64 (h : Int)] := Blk.below (Blk.new_at (by simp)) hb1 (by simp)
  have hk8 : (k : Int) < 8 := by omega
  refine wp_region_seq (fun _ => False) #[⟨0, 0, 16777216, 8, 0⟩, ⟨1, 1, 33554432, 16777216, 1⟩, ⟨0, 0, 67108864, 2, 0⟩, ⟨0, 0, 134217728, 32, 1⟩, ⟨2, 3, 268435456, 33554432, 0⟩, ⟨16, 19, 536870912, 268435456, 0⟩, ⟨47, 63, 1073741824, 603979776, 0⟩, ⟨79, 127, 0, 1207959552, 3⟩] 10 [(0, 0), (1, 1), (2, 0), (3, 1), (4, 0), (5, 0), (6, 0), (7, 3)] (by kernel_rfl) (by kernel_rfl) (by kernel_rfl) (by kernel_rfl) (by kernel_rfl) (by kernel_rfl) (fun c a d v w h => by cases d <;> exact h) ?_
  refine seq_calc (by simp only [List.getElem?_toArray, List.getElem?_cons_succ, List.getElem?_cons_zero]; rfl) (by rfl) (fun u => by go_simp <;> with_reducible rfl) ?_
  try simp only [Act.put, List.setIfInBounds_toArray, List.set_cons_zero, List.set_cons_succ]
  refine seq_load1 (by simp only [List.getElem?_toArray, List.getElem?_cons_succ, List.getElem?_cons_zero]; rfl) (by rfl) rfl rfl Tryd.underlying63 rfl (by go_simp <;> with_reducible rfl) (by first | exact id | assumption | (simp; done) | (simp; omega)) ?_
  try simp only [Act.put, List.setIfInBounds_toArray, List.set_cons_zero, List.set_cons_succ]
  refine seq_calc (by simp only [List.getElem?_toArray, List.getElem?_cons_succ, List.getElem?_cons_zero]; rfl) (by rfl) (fun u => by go_simp <;> with_reducible rfl) ?_
  try simp only [Act.put, List.setIfInBounds_toArray, List.set_cons_zero, List.set_cons_succ]
  refine seq_loads [_, _, _] (by simp only [List.getElem?_toArray, List.getElem?_cons_succ, List.getElem?_cons_zero]; rfl) (by rfl) rfl rfl Tryd.underlying62 rfl (by kernel_rfl) (by first | (with_reducible assumption) | (refine cellsAre_range ?_; simp only [cellsAre]; (repeat' (first | exact True.intro | apply And.intro)); all_goals (go_simp <;> with_reducible rfl))) (by first | exact id | assumption | (simp; done) | (simp; omega)) ?_
  try simp only [Act.put, List.setIfInBounds_toArray, List.set_cons_zero, List.set_cons_succ]
  refine seq_calc (by simp only [List.getElem?_toArray, List.getElem?_cons_succ, List.getElem?_cons_zero]; rfl) (by rfl) (fun u => by go_simp <;> with_reducible rfl) ?_
  try simp only [Act.put, List.setIfInBounds_toArray, List.set_cons_zero, List.set_cons_succ]
  refine seq_calc (by simp only [List.getElem?_toArray, List.getElem?_cons_succ, List.getElem?_cons_zero]; rfl) (by rfl) (fun u => by go_simp <;> with_reducible rfl) ?_
  try simp only [Act.put, List.setIfInBounds_toArray, List.set_cons_zero, List.set_cons_succ]
  refine seq_calc (by simp only [List.getElem?_toArray, List.getElem?_cons_succ, List.getElem?_cons_zero]; rfl) (by rfl) (fun u => by go_simp <;> with_reducible rfl) ?_
  try simp only [Act.put, List.setIfInBounds_toArray, List.set_cons_zero, List.set_cons_succ]
  refine seq_last (by simp only [List.getElem?_toArray, List.getElem?_cons_succ, List.getElem?_cons_zero]; rfl) (by rfl) (fun K hK => ?_); go_wp2_with (fail); refine hK.out _ _ ?_; clear hK K
  try simp only [Act.put, List.setIfInBounds_toArray, List.set_cons_zero, List.set_cons_succ]
  refine seq_nil ?_
  go_upto_region 6 with (fail)
  refine wp_at (fun wE hE => ?_)
  have HGE := Lib.hid (show GW wE G o m (putS s k ⟨x0, x1, h⟩) by rw [hE]; exact HG1.out.drew.setSlot k hk ⟨x0, x1, h⟩)
  have q1 : Blk wE w.heap.size 67 #[.pointer (some ⟨G, o, none⟩)] := by rw [hE]; exact ((hP1.drew.other (by omega) _ _).other (by omega) _ _).other (by omega) _ _
  have q2 : Blk wE (w.heap.size + 1) 62 #[.int .u64 x0, .int .u64 x1, .int .u64 (h : Int)] := by rw [hE]; exact ((hP2.drew.other (by omega) _ _).other (by omega) _ _).other (by omega) _ _
  have hCE : ChgG G o w wE := by rw [hE]; exact ((((ChgG.of_below hB1).drew).set1 _ _ (by omega)).set1 _ _ (by omega)).set1 _ _ (by omega)
  have n1 : ¬ w.heap.size = G := by omega
  have n2 : ¬ w.heap.size + 1 = G := by omega
  have d0 := q1.cell 0
  have d2 := q2.cell 2
  have l1 := q1.lt
  have l2 := q2.lt
  clear hE hP1 hP2
  refine wp_region_seq (fun b => b = G) #[⟨0, 0, 2147483648, 8, 1⟩, ⟨0, 0, 4294967296, 2, 0⟩, ⟨0, 0, 8589934592, 32, 0⟩, ⟨4, 4, 17179869184, 8589934592, 1⟩, ⟨8, 12, 34359738368, 17179869184, 2⟩, ⟨19, 31, 68719476736, 40802189312, 3⟩] 9 [(0, 1), (1, 0), (2, 0), (3, 1), (4, 2), (5, 3)] (by kernel_rfl) (by kernel_rfl) (by kernel_rfl) (by kernel_rfl) (by kernel_rfl) (by kernel_rfl) (fun c a d v w h => by cases d <;> exact h) ?_
  refine seq_loads [_] (by simp only [List.getElem?_toArray, List.getElem?_cons_succ, List.getElem?_cons_zero]; rfl) (by rfl) rfl rfl Tryd.underlying67 rfl (by kernel_rfl) (by first | (with_reducible assumption) | (refine cellsAre_range ?_; simp only [cellsAre]; (repeat' (first | exact True.intro | apply And.intro)); all_goals (go_simp <;> with_reducible rfl))) (by first | exact id | assumption | (simp; done) | (simp; omega)) ?_
  try simp only [Act.put, List.setIfInBounds_toArray, List.set_cons_zero, List.set_cons_succ]
  refine seq_calc (by simp only [List.getElem?_toArray, List.getElem?_cons_succ, List.getElem?_cons_zero]; rfl) (by rfl) (fun u => by go_simp <;> with_reducible rfl) ?_
  try simp only [Act.put, List.setIfInBounds_toArray, List.set_cons_zero, List.set_cons_succ]
  refine seq_calc (by simp only [List.getElem?_toArray, List.getElem?_cons_succ, List.getElem?_cons_zero]; rfl) (by rfl) (fun u => by go_simp <;> with_reducible rfl) ?_
  try simp only [Act.put, List.setIfInBounds_toArray, List.set_cons_zero, List.set_cons_succ]
  refine seq_load1 (by simp only [List.getElem?_toArray, List.getElem?_cons_succ, List.getElem?_cons_zero]; rfl) (by rfl) rfl rfl Tryd.underlying22 rfl (by go_simp <;> with_reducible rfl) (by first | exact id | assumption | (simp; done) | (simp; omega)) ?_
  try simp only [Act.put, List.setIfInBounds_toArray, List.set_cons_zero, List.set_cons_succ]
  refine seq_do (by simp only [List.getElem?_toArray, List.getElem?_cons_succ, List.getElem?_cons_zero]; rfl) (by rfl) (fun K hK => ?_); go_wp2_with (first | (go_at_call 89; refine (H2.out _).mono ?_; rintro e w' ⟨rfl, rfl⟩) | (go_at_call 88; refine (MK.out _ HGE.out.drew).mono ?_; rintro e w3 ⟨rfl, h3, c3⟩; have H3 := Lib.hid h3; clear h3)); refine hK.out _ _ (by first | (with_reducible exact Chg.refl _ _) | (with_reducible assumption) | (refine Chg.of_below ?_; with_reducible assumption) | (with_reducible exact (Chg.refl _ _).alloc _) | (with_reducible exact (Chg.refl _ _).drewN _) | (with_reducible exact (Chg.refl _ _).drew) | exact ⟨rfl, rfl, rfl, Nat.le_refl _, fun _ _ _ => rfl⟩) ?_; clear hK K
  try simp only [Act.put, List.setIfInBounds_toArray, List.set_cons_zero, List.set_cons_succ]
  refine seq_last (by simp only [List.getElem?_toArray, List.getElem?_cons_succ, List.getElem?_cons_zero]; rfl) (by rfl) (fun K hK => ?_); go_wp2_with (first | (go_at_call 89; refine (H2.out _).mono ?_; rintro e w' ⟨rfl, rfl⟩) | (go_at_call 88; refine (MK.out _ HGE.out.drew).mono ?_; rintro e w3 ⟨rfl, h3, c3⟩; have H3 := Lib.hid h3; clear h3)); refine hK.out _ _ ?_; clear hK K
  try simp only [Act.put, List.setIfInBounds_toArray, List.set_cons_zero, List.set_cons_succ]
  refine seq_nil ?_
  go_wp2
  go_ret2
  exact ⟨rfl, H3.out, hCE.drew.trans c3⟩
set_option maxRecDepth 100000 in
set_option maxHeartbeats 4000000 in
theorem gput_bad (G o m : Nat) (i : Int) (s : Nat → EntS) (x0 x1 x2 : Int) (hm : m < 18446744073709551616) (hf : fullE m i false ≠ 0) (E : Nat → Addr) (w : World) (hg : GW w G o m s) (he : EC w E [1, 5]) :
    Calls Tryd.prog 33 #[.agg #[.pointer (some ⟨G, o, none⟩)], .int .i64 i, .agg #[.int .u64 x0, .int .u64 x1, .int .u64 x2]] w fun e w' =>
      e = .returned (.tuple #[.bool false, errN E (fullE m i false)]) ∧ Below w.heap.size w w' := by
  have FE := Lib.hid (fun w' (hb : Below w.heap.size w w') => gfullE_any G o m s hm i false E w' (hg.below hb hg.lt) (he.below hb))
  simp only [errN_iface E _ hf] at FE ⊢
  generalize fullE m i false = q at *
  clear hg he hf
  go_enter Tryd.func33, Tryd.ntmps33
  go_wp2_with (go_at_call 86; refine (FE.out _ (by go_grown)).mono ?_; rintro e w1 ⟨rfl, hb1⟩; have hB1 : Below w.heap.size w w1 := (by first | exact hB1.trans (hb1.mono hB1.size) | exact hB1.trans (Below.undrew (hb1.mono hB1.size)) | exact hb1 | exact Below.trans (by go_grown) (hb1.mono (by simp <;> omega))); have hcwheapsize := fun (o : Nat) => hb1.cell (p := ⟨w.heap.size, o, none⟩) (by first | assumption | (simp <;> omega)); have hfwheapsize := fun (o : Nat) => hb1.frozen (p := ⟨w.heap.size, o, none⟩) (by first | assumption | (simp <;> omega)); have hzwheapsize : w.heap.size < w1.heap.size := Nat.lt_of_lt_of_le (by first | assumption | (simp <;> omega)) hb1.size)
  go_ret2
  exact ⟨rfl, hB1⟩
set_option maxRecDepth 100000 in
set_option maxHeartbeats 4000000 in
theorem gset_ok (G o m k : Nat) (s : Nat → EntS) (v : Int) (hm : m < 18446744073709551616) (hk : k < 8) (hf : fullE m (k : Int) true = 0) (E : Nat → Addr) (w : World) (hg : GW w G o m s) (he : EC w E [1, 5]) :
    Calls Tryd.prog 42 #[.agg #[.pointer (some ⟨G, o, none⟩)], .int .i64 (k : Int), .int .u64 v] w fun e w' =>
      e = .returned .nilIface ∧ GW w' G o m (putS s k { s k with val := v }) ∧ ChgG G o w w' := by
  have FE := Lib.hid (fun w' (hb : Below w.heap.size w w') => gfullE_any G o m s hm k true E w' (hg.below hb hg.lt) (he.below hb))
  rw [hf] at FE
  simp only [errN_0] at FE
  have HG := Lib.hid hg
  have hl := hg.lt
  have hfw := hg.frozen
  obtain ⟨s0, s1, s2⟩ := hg.slot k hk
  have hk8 : (k : Int) < 8 := by omega
  clear hg he hf
  go_enter Tryd.func42, Tryd.ntmps42
  go_wp2_with (go_at_call 86; refine (FE.out _ (by go_grown)).mono ?_; rintro e w1 ⟨rfl, hb1⟩; have hB1 : Below w.heap.size w w1 := (by first | exact hB1.trans (hb1.mono hB1.size) | exact hB1.trans (Below.undrew (hb1.mono hB1.size)) | exact hb1 | exact Below.trans (by go_grown) (hb1.mono (by simp <;> omega))); have hcG := fun (o : Nat) => hb1.cell (p := ⟨G, o, none⟩) (by first | assumption | (simp <;> omega)); have hfG := fun (o : Nat) => hb1.frozen (p := ⟨G, o, none⟩) (by first | assumption | (simp <;> omega)); have hzG : G < w1.heap.size := Nat.lt_of_lt_of_le (by first | assumption | (simp <;> omega)) hb1.size; have hcwheapsize := fun (o : Nat) => hb1.cell (p := ⟨w.heap.size, o, none⟩) (by first | assumption | (simp <;> omega)); have hfwheapsize := fun (o : Nat) => hb1.frozen (p := ⟨w.heap.size, o, none⟩) (by first | assumption | (simp <;> omega)); have hzwheapsize : w.heap.size < w1.heap.size := Nat.lt_of_lt_of_le (by first | assumption | (simp <;> omega)) hb1.size)
  go_ret
  exact ⟨rfl, (HG.out.below hB1 hl).setVal k hk v, (ChgG.of_below hB1).set1 _ _ (by omega)⟩
set_option maxRecDepth 100000 in
set_option maxHeartbeats 4000000 in
theorem gset_bad (G o m : Nat) (i : Int) (s : Nat → EntS) (v : Int) (hm : m < 18446744073709551616) (hf : fullE m i true ≠ 0) (E : Nat → Addr) (w : World) (hg : GW w G o m s) (he : EC w E [1, 5]) :
    Calls Tryd.prog 42 #[.agg #[.pointer (some ⟨G, o, none⟩)], .int .i64 i, .int .u64 v] w fun e w' =>
      e = .returned (errN E (fullE m i true)) ∧ Below w.heap.size w w' := by
  have FE := Lib.hid (fun w' (hb : Below w.heap.size w w') => gfullE_any G o m s hm i true E w' (hg.below hb hg.lt) (he.below hb))
  simp only [errN_iface E _ hf] at FE ⊢
  generalize fullE m i true = q at *
  clear hg he hf
  go_enter Tryd.func42, Tryd.ntmps42
  go_wp2_with (go_at_call 86; refine (FE.out _ (by go_grown)).mono ?_; rintro e w1 ⟨rfl, hb1⟩; have hB1 : Below w.heap.size w w1 := (by first | exact hB1.trans (hb1.mono hB1.size) | exact hB1.trans (Below.undrew (hb1.mono hB1.size)) | exact hb1 | exact Below.trans (by go_grown) (hb1.mono (by simp <;> omega))); have hcwheapsize := fun (o : Nat) => hb1.cell (p := ⟨w.heap.size, o, none⟩) (by first | assumption | (simp <;> omega)); have hfwheapsize := fun (o : Nat) => hb1.frozen (p := ⟨w.heap.size, o, none⟩) (by first | assumption | (simp <;> omega)); have hzwheapsize : w.heap.size < w1.heap.size := Nat.lt_of_lt_of_le (by first | assumption | (simp <;> omega)) hb1.size)
  go_ret
  exact ⟨rfl, hB1⟩
end Go.Proofs.YtcmjddkljmfklaaDoor
