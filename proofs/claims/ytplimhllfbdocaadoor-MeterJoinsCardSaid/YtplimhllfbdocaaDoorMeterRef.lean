/- The document's counts: clamp, Plus; and counts as of the document. No condition. -/
import Derived.Test.YtplimhllfbdocaaDoorMeter
import Derived.LoopN
import Derived.Test.YtplimhllfbdocaaDoorEqInts
namespace Go.Proofs.YtplimhllfbdocaaDoor
set_option linter.unusedVariables false
set_option linter.unusedSimpArgs false
open Go.RowKit Go.Proofs

set_option maxHeartbeats 400000 in
theorem refClamp_any (n : Int) (w : World) :
    Calls Tryd.prog 155 #[.int .i64 n] w fun e w' => e = .returned (.int .i64 (clampZ n)) ∧ w = w' := by
  have H1 := Lib.hid (@clampZ_neg n)
  have H2 := Lib.hid (@clampZ_big n)
  have H3 := Lib.hid (@clampZ_id n)
  go_enter Tryd.func155, Tryd.ntmps155
  go_wp2
  all_goals go_ret
  · exact ⟨by rw [H1.out (by assumption)]; rfl, rfl⟩
  · exact ⟨by rw [H2.out (by assumption)]; rfl, rfl⟩
  · exact ⟨by rw [H3.out (by omega) (by omega)]; rfl, rfl⟩

set_option maxHeartbeats 800000 in
theorem meterOf_any (a b c : Int) (w : World) :
    Calls Tryd.prog 44 #[.agg #[.int .i64 a, .int .i64 b, .int .i64 c]] w fun e w' => e = .returned (.agg #[.int .i64 a, .int .i64 b, .int .i64 c]) ∧ Below w.heap.size w w' := by
  go_enter Tryd.func44, Tryd.ntmps44
  go_wp2
  exact bodyPost_ret (v := .agg #[.int .i64 a, .int .i64 b, .int .i64 c]) (by simp [results, Tryd.results44, go_sem]) rfl ⟨rfl, by go_grown⟩

set_option maxHeartbeats 2000000 in
theorem refPlus_any (a0 a1 a2 b0 b1 b2 : Int) (w : World) :
    Calls Tryd.prog 113 #[.agg #[.int .i64 a0, .int .i64 a1, .int .i64 a2], .agg #[.int .i64 b0, .int .i64 b1, .int .i64 b2]] w fun e w' =>
      e = .returned (.agg #[.int .i64 (sumZ a0 b0), .int .i64 (sumZ a1 b1), .int .i64 (sumZ a2 b2)]) ∧ Below w.heap.size w w' := by
  have h0 := clampZ_bd a0
  have h1 := clampZ_bd a1
  have h2 := clampZ_bd a2
  have k0 := clampZ_bd b0
  have k1 := clampZ_bd b1
  have k2 := clampZ_bd b2
  have hs := fun a b => clampZ_sum a b
  go_enter Tryd.func113, Tryd.ntmps113
  go_wp2
  refine wp_loop_rounds 4 ?_
  rw [rounds_succ]
  go_wp2
  refine wp_region_seq (fun _ => False) #[⟨0, 0, 2048, 64, 0⟩, ⟨0, 0, 4096, 64, 0⟩, ⟨2, 2, 8192, 4100, 0⟩, ⟨4, 6, 16384, 8192, 1⟩, ⟨8, 14, 32768, 16384, 2⟩, ⟨0, 0, 65536, 64, 0⟩, ⟨32, 32, 131072, 65544, 0⟩, ⟨64, 96, 262144, 131072, 1⟩, ⟨144, 254, 524288, 262144, 3⟩, ⟨272, 510, 1048576, 557056, 0⟩, ⟨768, 1022, 2097152, 1048576, 3⟩, ⟨2047, 2047, 4194304, 2080, 0⟩, ⟨4095, 4095, 0, 6291456, 3⟩] 136 [(0, 0), (1, 0), (2, 0), (3, 1), (5, 0), (6, 0), (7, 1), (4, 2), (8, 3), (9, 0), (10, 3), (11, 0), (12, 3)] (by kernel_rfl) (by kernel_rfl) (by kernel_rfl) (by kernel_rfl) (by kernel_rfl) (by kernel_rfl) (fun c a d v w h => by cases d <;> exact h) ?_
  refine seq_calc (by simp only [List.getElem?_toArray, List.getElem?_cons_succ, List.getElem?_cons_zero]; rfl) (by rfl) (fun u => by go_simp <;> with_reducible rfl) ?_
  try simp only [Act.put, List.setIfInBounds_toArray, List.set_cons_zero, List.set_cons_succ]
  refine seq_calc (by simp only [List.getElem?_toArray, List.getElem?_cons_succ, List.getElem?_cons_zero]; rfl) (by rfl) (fun u => by go_simp <;> with_reducible rfl) ?_
  try simp only [Act.put, List.setIfInBounds_toArray, List.set_cons_zero, List.set_cons_succ]
  refine seq_calc (by simp only [List.getElem?_toArray, List.getElem?_cons_succ, List.getElem?_cons_zero]; rfl) (by rfl) (fun u => by go_simp <;> with_reducible rfl) ?_
  try simp only [Act.put, List.setIfInBounds_toArray, List.set_cons_zero, List.set_cons_succ]
  refine seq_load1 (by simp only [List.getElem?_toArray, List.getElem?_cons_succ, List.getElem?_cons_zero]; rfl) (by rfl) rfl rfl Tryd.underlying3 rfl (by go_simp <;> with_reducible rfl) (by first | exact id | assumption | (simp; done) | (simp; omega)) ?_
  try simp only [Act.put, List.setIfInBounds_toArray, List.set_cons_zero, List.set_cons_succ]
  refine seq_calc (by simp only [List.getElem?_toArray, List.getElem?_cons_succ, List.getElem?_cons_zero]; rfl) (by rfl) (fun u => by go_simp <;> with_reducible rfl) ?_
  try simp only [Act.put, List.setIfInBounds_toArray, List.set_cons_zero, List.set_cons_succ]
  refine seq_calc (by simp only [List.getElem?_toArray, List.getElem?_cons_succ, List.getElem?_cons_zero]; rfl) (by rfl) (fun u => by go_simp <;> with_reducible rfl) ?_
  try simp only [Act.put, List.setIfInBounds_toArray, List.set_cons_zero, List.set_cons_succ]
  refine seq_load1 (by simp only [List.getElem?_toArray, List.getElem?_cons_succ, List.getElem?_cons_zero]; rfl) (by rfl) rfl rfl Tryd.underlying3 rfl (by go_simp <;> with_reducible rfl) (by first | exact id | assumption | (simp; done) | (simp; omega)) ?_
  try simp only [Act.put, List.setIfInBounds_toArray, List.set_cons_zero, List.set_cons_succ]
  refine seq_do (by simp only [List.getElem?_toArray, List.getElem?_cons_succ, List.getElem?_cons_zero]; rfl) (by rfl) (fun K hK => ?_); go_wp2_with (go_at_call 155; refine (refClamp_any _ _).mono ?_; (try simp only [hs]); rintro e w' ⟨rfl, rfl⟩); refine hK.out _ _ (by first | (with_reducible exact Chg.refl _ _) | (with_reducible assumption) | (refine Chg.of_below ?_; with_reducible assumption) | (with_reducible exact (Chg.refl _ _).alloc _) | (with_reducible exact (Chg.refl _ _).drewN _) | (with_reducible exact (Chg.refl _ _).drew) | exact ⟨rfl, rfl, rfl, Nat.le_refl _, fun _ _ _ => rfl⟩) ?_; clear hK K
  try simp only [Act.put, List.setIfInBounds_toArray, List.set_cons_zero, List.set_cons_succ]
  refine seq_last (by simp only [List.getElem?_toArray, List.getElem?_cons_succ, List.getElem?_cons_zero]; rfl) (by rfl) (fun K hK => ?_); go_wp2_with (go_at_call 155; refine (refClamp_any _ _).mono ?_; (try simp only [hs]); rintro e w' ⟨rfl, rfl⟩); refine hK.out _ _ ?_; clear hK K
  try simp only [Act.put, List.setIfInBounds_toArray, List.set_cons_zero, List.set_cons_succ]
  refine seq_calc (by simp only [List.getElem?_toArray, List.getElem?_cons_succ, List.getElem?_cons_zero]; rfl) (by rfl) (fun u => by go_simp <;> with_reducible rfl) ?_
  try simp only [Act.put, List.setIfInBounds_toArray, List.set_cons_zero, List.set_cons_succ]
  refine seq_last (by simp only [List.getElem?_toArray, List.getElem?_cons_succ, List.getElem?_cons_zero]; rfl) (by rfl) (fun K hK => ?_); go_wp2_with (go_at_call 155; refine (refClamp_any _ _).mono ?_; (try simp only [hs]); rintro e w' ⟨rfl, rfl⟩); refine hK.out _ _ ?_; clear hK K
  try simp only [Act.put, List.setIfInBounds_toArray, List.set_cons_zero, List.set_cons_succ]
  refine seq_calc (by simp only [List.getElem?_toArray, List.getElem?_cons_succ, List.getElem?_cons_zero]; rfl) (by rfl) (fun u => by go_simp <;> with_reducible rfl) ?_
  try simp only [Act.put, List.setIfInBounds_toArray, List.set_cons_zero, List.set_cons_succ]
  refine seq_last (by simp only [List.getElem?_toArray, List.getElem?_cons_succ, List.getElem?_cons_zero]; rfl) (by rfl) (fun K hK => ?_); go_wp2_with (fail); refine hK.out _ _ ?_; clear hK K
  try simp only [Act.put, List.setIfInBounds_toArray, List.set_cons_zero, List.set_cons_succ]
  refine seq_nil ?_
  go_wp2
  rw [rounds_succ]
  go_wp2
  refine wp_region_seq (fun _ => False) #[⟨0, 0, 2048, 64, 0⟩, ⟨0, 0, 4096, 64, 0⟩, ⟨2, 2, 8192, 4100, 0⟩, ⟨4, 6, 16384, 8192, 1⟩, ⟨8, 14, 32768, 16384, 2⟩, ⟨0, 0, 65536, 64, 0⟩, ⟨32, 32, 131072, 65544, 0⟩, ⟨64, 96, 262144, 131072, 1⟩, ⟨144, 254, 524288, 262144, 3⟩, ⟨272, 510, 1048576, 557056, 0⟩, ⟨768, 1022, 2097152, 1048576, 3⟩, ⟨2047, 2047, 4194304, 2080, 0⟩, ⟨4095, 4095, 0, 6291456, 3⟩] 136 [(0, 0), (1, 0), (2, 0), (3, 1), (5, 0), (6, 0), (7, 1), (4, 2), (8, 3), (9, 0), (10, 3), (11, 0), (12, 3)] (by kernel_rfl) (by kernel_rfl) (by kernel_rfl) (by kernel_rfl) (by kernel_rfl) (by kernel_rfl) (fun c a d v w h => by cases d <;> exact h) ?_
  refine seq_calc (by simp only [List.getElem?_toArray, List.getElem?_cons_succ, List.getElem?_cons_zero]; rfl) (by rfl) (fun u => by go_simp <;> with_reducible rfl) ?_
  try simp only [Act.put, List.setIfInBounds_toArray, List.set_cons_zero, List.set_cons_succ]
  refine seq_calc (by simp only [List.getElem?_toArray, List.getElem?_cons_succ, List.getElem?_cons_zero]; rfl) (by rfl) (fun u => by go_simp <;> with_reducible rfl) ?_
  try simp only [Act.put, List.setIfInBounds_toArray, List.set_cons_zero, List.set_cons_succ]
  refine seq_calc (by simp only [List.getElem?_toArray, List.getElem?_cons_succ, List.getElem?_cons_zero]; rfl) (by rfl) (fun u => by go_simp <;> with_reducible rfl) ?_
  try simp only [Act.put, List.setIfInBounds_toArray, List.set_cons_zero, List.set_cons_succ]
  refine seq_load1 (by simp only [List.getElem?_toArray, List.getElem?_cons_succ, List.getElem?_cons_zero]; rfl) (by rfl) rfl rfl Tryd.underlying3 rfl (by go_simp <;> with_reducible rfl) (by first | exact id | assumption | (simp; done) | (simp; omega)) ?_
  try simp only [Act.put, List.setIfInBounds_toArray, List.set_cons_zero, List.set_cons_succ]
  refine seq_calc (by simp only [List.getElem?_toArray, List.getElem?_cons_succ, List.getElem?_cons_zero]; rfl) (by rfl) (fun u => by go_simp <;> with_reducible rfl) ?_
  try simp only [Act.put, List.setIfInBounds_toArray, List.set_cons_zero, List.set_cons_succ]
  refine seq_calc (by simp only [List.getElem?_toArray, List.getElem?_cons_succ, List.getElem?_cons_zero]; rfl) (by rfl) (fun u => by go_simp <;> with_reducible rfl) ?_
  try simp only [Act.put, List.setIfInBounds_toArray, List.set_cons_zero, List.set_cons_succ]
  refine seq_load1 (by simp only [List.getElem?_toArray, List.getElem?_cons_succ, List.getElem?_cons_zero]; rfl) (by rfl) rfl rfl Tryd.underlying3 rfl (by go_simp <;> with_reducible rfl) (by first | exact id | assumption | (simp; done) | (simp; omega)) ?_
  try simp only [Act.put, List.setIfInBounds_toArray, List.set_cons_zero, List.set_cons_succ]
  refine seq_do (by simp only [List.getElem?_toArray, List.getElem?_cons_succ, List.getElem?_cons_zero]; rfl) (by rfl) (fun K hK => ?_); go_wp2_with (go_at_call 155; refine (refClamp_any _ _).mono ?_; (try simp only [hs]); rintro e w' ⟨rfl, rfl⟩); refine hK.out _ _ (by first | (with_reducible exact Chg.refl _ _) | (with_reducible assumption) | (refine Chg.of_below ?_; with_reducible assumption) | (with_reducible exact (Chg.refl _ _).alloc _) | (with_reducible exact (Chg.refl _ _).drewN _) | (with_reducible exact (Chg.refl _ _).drew) | exact ⟨rfl, rfl, rfl, Nat.le_refl _, fun _ _ _ => rfl⟩) ?_; clear hK K
  try simp only [Act.put, List.setIfInBounds_toArray, List.set_cons_zero, List.set_cons_succ]
  refine seq_last (by simp only [List.getElem?_toArray, List.getElem?_cons_succ, List.getElem?_cons_zero]; rfl) (by rfl) (fun K hK => ?_); go_wp2_with (go_at_call 155; refine (refClamp_any _ _).mono ?_; (try simp only [hs]); rintro e w' ⟨rfl, rfl⟩); refine hK.out _ _ ?_; clear hK K
  try simp only [Act.put, List.setIfInBounds_toArray, List.set_cons_zero, List.set_cons_succ]
  refine seq_calc (by simp only [List.getElem?_toArray, List.getElem?_cons_succ, List.getElem?_cons_zero]; rfl) (by rfl) (fun u => by go_simp <;> with_reducible rfl) ?_
  try simp only [Act.put, List.setIfInBounds_toArray, List.set_cons_zero, List.set_cons_succ]
  refine seq_last (by simp only [List.getElem?_toArray, List.getElem?_cons_succ, List.getElem?_cons_zero]; rfl) (by rfl) (fun K hK => ?_); go_wp2_with (go_at_call 155; refine (refClamp_any _ _).mono ?_; (try simp only [hs]); rintro e w' ⟨rfl, rfl⟩); refine hK.out _ _ ?_; clear hK K
  try simp only [Act.put, List.setIfInBounds_toArray, List.set_cons_zero, List.set_cons_succ]
  refine seq_calc (by simp only [List.getElem?_toArray, List.getElem?_cons_succ, List.getElem?_cons_zero]; rfl) (by rfl) (fun u => by go_simp <;> with_reducible rfl) ?_
  try simp only [Act.put, List.setIfInBounds_toArray, List.set_cons_zero, List.set_cons_succ]
  refine seq_last (by simp only [List.getElem?_toArray, List.getElem?_cons_succ, List.getElem?_cons_zero]; rfl) (by rfl) (fun K hK => ?_); go_wp2_with (fail); refine hK.out _ _ ?_; clear hK K
  try simp only [Act.put, List.setIfInBounds_toArray, List.set_cons_zero, List.set_cons_succ]
  refine seq_nil ?_
  go_wp2
  rw [rounds_succ]
  go_wp2
  refine wp_region_seq (fun _ => False) #[⟨0, 0, 2048, 64, 0⟩, ⟨0, 0, 4096, 64, 0⟩, ⟨2, 2, 8192, 4100, 0⟩, ⟨4, 6, 16384, 8192, 1⟩, ⟨8, 14, 32768, 16384, 2⟩, ⟨0, 0, 65536, 64, 0⟩, ⟨32, 32, 131072, 65544, 0⟩, ⟨64, 96, 262144, 131072, 1⟩, ⟨144, 254, 524288, 262144, 3⟩, ⟨272, 510, 1048576, 557056, 0⟩, ⟨768, 1022, 2097152, 1048576, 3⟩, ⟨2047, 2047, 4194304, 2080, 0⟩, ⟨4095, 4095, 0, 6291456, 3⟩] 136 [(0, 0), (1, 0), (2, 0), (3, 1), (5, 0), (6, 0), (7, 1), (4, 2), (8, 3), (9, 0), (10, 3), (11, 0), (12, 3)] (by kernel_rfl) (by kernel_rfl) (by kernel_rfl) (by kernel_rfl) (by kernel_rfl) (by kernel_rfl) (fun c a d v w h => by cases d <;> exact h) ?_
  refine seq_calc (by simp only [List.getElem?_toArray, List.getElem?_cons_succ, List.getElem?_cons_zero]; rfl) (by rfl) (fun u => by go_simp <;> with_reducible rfl) ?_
  try simp only [Act.put, List.setIfInBounds_toArray, List.set_cons_zero, List.set_cons_succ]
  refine seq_calc (by simp only [List.getElem?_toArray, List.getElem?_cons_succ, List.getElem?_cons_zero]; rfl) (by rfl) (fun u => by go_simp <;> with_reducible rfl) ?_
  try simp only [Act.put, List.setIfInBounds_toArray, List.set_cons_zero, List.set_cons_succ]
  refine seq_calc (by simp only [List.getElem?_toArray, List.getElem?_cons_succ, List.getElem?_cons_zero]; rfl) (by rfl) (fun u => by go_simp <;> with_reducible rfl) ?_
  try simp only [Act.put, List.setIfInBounds_toArray, List.set_cons_zero, List.set_cons_succ]
  refine seq_load1 (by simp only [List.getElem?_toArray, List.getElem?_cons_succ, List.getElem?_cons_zero]; rfl) (by rfl) rfl rfl Tryd.underlying3 rfl (by go_simp <;> with_reducible rfl) (by first | exact id | assumption | (simp; done) | (simp; omega)) ?_
  try simp only [Act.put, List.setIfInBounds_toArray, List.set_cons_zero, List.set_cons_succ]
  refine seq_calc (by simp only [List.getElem?_toArray, List.getElem?_cons_succ, List.getElem?_cons_zero]; rfl) (by rfl) (fun u => by go_simp <;> with_reducible rfl) ?_
  try simp only [Act.put, List.setIfInBounds_toArray, List.set_cons_zero, List.set_cons_succ]
  refine seq_calc (by simp only [List.getElem?_toArray, List.getElem?_cons_succ, List.getElem?_cons_zero]; rfl) (by rfl) (fun u => by go_simp <;> with_reducible rfl) ?_
  try simp only [Act.put, List.setIfInBounds_toArray, List.set_cons_zero, List.set_cons_succ]
  refine seq_load1 (by simp only [List.getElem?_toArray, List.getElem?_cons_succ, List.getElem?_cons_zero]; rfl) (by rfl) rfl rfl Tryd.underlying3 rfl (by go_simp <;> with_reducible rfl) (by first | exact id | assumption | (simp; done) | (simp; omega)) ?_
  try simp only [Act.put, List.setIfInBounds_toArray, List.set_cons_zero, List.set_cons_succ]
  refine seq_do (by simp only [List.getElem?_toArray, List.getElem?_cons_succ, List.getElem?_cons_zero]; rfl) (by rfl) (fun K hK => ?_); go_wp2_with (go_at_call 155; refine (refClamp_any _ _).mono ?_; (try simp only [hs]); rintro e w' ⟨rfl, rfl⟩); refine hK.out _ _ (by first | (with_reducible exact Chg.refl _ _) | (with_reducible assumption) | (refine Chg.of_below ?_; with_reducible assumption) | (with_reducible exact (Chg.refl _ _).alloc _) | (with_reducible exact (Chg.refl _ _).drewN _) | (with_reducible exact (Chg.refl _ _).drew) | exact ⟨rfl, rfl, rfl, Nat.le_refl _, fun _ _ _ => rfl⟩) ?_; clear hK K
  try simp only [Act.put, List.setIfInBounds_toArray, List.set_cons_zero, List.set_cons_succ]
  refine seq_last (by simp only [List.getElem?_toArray, List.getElem?_cons_succ, List.getElem?_cons_zero]; rfl) (by rfl) (fun K hK => ?_); go_wp2_with (go_at_call 155; refine (refClamp_any _ _).mono ?_; (try simp only [hs]); rintro e w' ⟨rfl, rfl⟩); refine hK.out _ _ ?_; clear hK K
  try simp only [Act.put, List.setIfInBounds_toArray, List.set_cons_zero, List.set_cons_succ]
  refine seq_calc (by simp only [List.getElem?_toArray, List.getElem?_cons_succ, List.getElem?_cons_zero]; rfl) (by rfl) (fun u => by go_simp <;> with_reducible rfl) ?_
  try simp only [Act.put, List.setIfInBounds_toArray, List.set_cons_zero, List.set_cons_succ]
  refine seq_last (by simp only [List.getElem?_toArray, List.getElem?_cons_succ, List.getElem?_cons_zero]; rfl) (by rfl) (fun K hK => ?_); go_wp2_with (go_at_call 155; refine (refClamp_any _ _).mono ?_; (try simp only [hs]); rintro e w' ⟨rfl, rfl⟩); refine hK.out _ _ ?_; clear hK K
  try simp only [Act.put, List.setIfInBounds_toArray, List.set_cons_zero, List.set_cons_succ]
  refine seq_calc (by simp only [List.getElem?_toArray, List.getElem?_cons_succ, List.getElem?_cons_zero]; rfl) (by rfl) (fun u => by go_simp <;> with_reducible rfl) ?_
  try simp only [Act.put, List.setIfInBounds_toArray, List.set_cons_zero, List.set_cons_succ]
  refine seq_last (by simp only [List.getElem?_toArray, List.getElem?_cons_succ, List.getElem?_cons_zero]; rfl) (by rfl) (fun K hK => ?_); go_wp2_with (fail); refine hK.out _ _ ?_; clear hK K
  try simp only [Act.put, List.setIfInBounds_toArray, List.set_cons_zero, List.set_cons_succ]
  refine seq_nil ?_
  go_wp2
  rw [rounds_succ]
  go_wp2
  exact bodyPost_ret (v := .agg #[.int .i64 (sumZ a0 b0), .int .i64 (sumZ a1 b1), .int .i64 (sumZ a2 b2)]) (by simp [results, Tryd.results113, go_sem]) rfl ⟨rfl, by go_grown⟩

theorem countsInfo : ∃ i, Tryd.prog.info? 3 = some i := Option.isSome_iff_exists.mp (by kernel_rfl)
theorem eq_counts (a b c d e f : Int) (w : World) : (Op.equalIn 10000 67 (.agg #[.int .i64 a, .int .i64 b, .int .i64 c]) (.agg #[.int .i64 d, .int .i64 e, .int .i64 f])).run Tryd.prog w = .ok (decide (a = d ∧ b = e ∧ c = f)) w := by
  obtain ⟨i, hi⟩ := countsInfo
  have := run_eq_ints (P := Tryd.prog) (w := w) (d := 9998) (k := .i64) Tryd.underlying67 hi Tryd.underlying3 (by kernel_rfl) [a, b, c] [d, e, f] rfl rfl
  simpa using this
end Go.Proofs.YtplimhllfbdocaaDoor
