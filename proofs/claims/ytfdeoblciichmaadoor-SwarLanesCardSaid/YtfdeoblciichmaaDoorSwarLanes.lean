/- The walk of SwarLanes. Condition: the table of math/bits. -/
import Derived.Test.YtfdeoblciichmaaDoorSwarFirst
import Derived.Test.YtfdeoblciichmaaDoorSwarRef
import Derived.Deep.Cut
namespace Go.Proofs.YtfdeoblciichmaaDoor
set_option linter.unusedVariables false
set_option linter.unusedSimpArgs false
open Go.RowKit Go.Proofs

theorem byteL_get (l : Nat → Nat) (i : Nat) (hi : i < 8) : (byteL l).toArray[i]? = some (.int .u8 (l i : Int)) := by
  rcases lt8 hi with rfl | rfl | rfl | rfl | rfl | rfl | rfl | rfl <;> rfl
theorem byteL_set (l : Nat → Nat) (i b : Nat) (hi : i < 8) : (byteL l).toArray.setIfInBounds i (.int .u8 (b : Int)) = (byteL (fun k => if k = i then b else l k)).toArray := by
  rcases lt8 hi with rfl | rfl | rfl | rfl | rfl | rfl | rfl | rfl <;> simp [byteL]

set_option maxRecDepth 100000 in
set_option maxHeartbeats 4000000 in
theorem swarLanes_in (m i b : Nat) (hm : m < 18446744073709551616) (hi : i < 8) (hb : b < 256) (w0 : World) (hT : Tab64 w0) :
    Calls Tryd.prog 4 #[.int .u64 (m : Int), .int .i64 (i : Int), .int .u8 (b : Int)] w0 fun e w' => e = .returned (.bool true) ∧ Below w0.heap.size w0 w' := by
  have HA := alive01_any w0 hT
  replace HA := Lib.hid HA
  clear hT
  have LN := Lib.hid (fun w => lane_in m i hm hi w)
  have h0 : (0 : Int) ≤ i := by omega
  have h8 : (i : Int) < 8 := by omega
  go_enter Tryd.func4, Tryd.ntmps4
  go_upto_region 4 with (first | (go_at_call 7; refine HA.out.mono ?_; rintro e w' ⟨rfl, rfl⟩) | (go_at_call 11; refine (refLanes_any m hm _).mono ?_; simp only [byteL]; rintro e w1 ⟨rfl, hb1⟩))
  refine wp_at (fun W hW => ?_)
  have p1 : Blk W w1.heap.size 32 (byteL (ln m)).toArray := by rw [hW]; exact Blk.new_at rfl
  have q1 : Below w0.heap.size w0 W := by rw [hW]; exact hb1.alloc hb1.size _
  clear hW
  have c1 : W.cell? ⟨w1.heap.size, i, none⟩ = some (.int .u8 (ln m i : Int)) := by rw [p1.cell, byteL_get _ _ hi]
  have f1 := p1.frozen i
  have hsz := q1.size
  have hB := hb1.size
  obtain ⟨B, hBe⟩ : ∃ B, B = w1.heap.size := ⟨_, rfl⟩
  rw [← hBe] at p1 c1 f1 hB ⊢
  have P1 := Lib.hid p1
  have Q1 := Lib.hid q1
  clear p1 q1 hb1 hBe
  go_wp2_with (go_at_call 9; refine (LN.out _).mono ?_; rintro e w' ⟨rfl, rfl⟩)
  refine wp_at (fun w hW => ?_)
  have p2 : Blk w B 32 (byteL (fun k => if k = i then b else ln m k)).toArray := by
    rw [hW]; have := P1.out.set i (.int .u8 (b : Int)); rw [byteL_set _ _ _ hi] at this; exact this.alloc _
  have p3 : Blk w W.heap.size 32 (byteL (fun _ => b)).toArray := by rw [hW]; exact Blk.new_at (by simp)
  have hBw : Below w0.heap.size w0 w := by rw [hW]; exact (Q1.out.setCell hB _).alloc (by simp; omega) _
  clear hW
  obtain ⟨l, hl⟩ : ∃ l : Nat → Nat, l = fun k => if k = i then b else ln m k := ⟨_, rfl⟩
  obtain ⟨l', hl'⟩ : ∃ l : Nat → Nat, l = fun k => b := ⟨_, rfl⟩
  have e1 : ofL l = setL m i b := by rw [hl]; rfl
  have e2 : ofL l' = rep b := by rw [hl']; exact (rep_ofL b).symm
  have hlb : ∀ k, k < 8 → l k < 256 := by rw [hl]; exact setL_bd m i b hb
  have hlb' : ∀ k, k < 8 → l' k < 256 := by rw [hl']; exact fun _ _ => hb
  rw [← hl] at p2
  rw [← hl'] at p3
  clear hl hl'
  have HW := Lib.hid (with_inB m i b hm hi hb)
  have HR0 := fun (w' : World) (h : Below w.heap.size w w') => (⟨(p2.below h p2.lt).whole, (p3.below h p3.lt).whole⟩ : w'.rangeAt B 0 (byteL l) ∧ w'.rangeAt W.heap.size 0 (byteL l'))
  have HO1 := word_any l hlb
  have HO2 := word_any l' hlb'
  have HE := eq_bytes (ln m) (ln m)
  simp only [decide_true] at HE
  simp only [byteL] at HR0 HO1 HO2 HE
  rw [e1] at HO1
  rw [e2] at HO2
  have HR := Lib.hid HR0
  replace HO1 := Lib.hid HO1
  replace HO2 := Lib.hid HO2
  clear HR0 p2 p3 e1 e2 hlb hlb'
  obtain ⟨hr1, hr2⟩ := HR.out w.drew (Below.refl _ _).drew
  replace hBw := Lib.hid hBw
  refine wp_region_seq (fun _ => False) #[⟨0, 0, 35184372088832, 256, 0⟩, ⟨0, 0, 70368744177664, 1024, 0⟩, ⟨3, 3, 140737488355328, 105553116266496, 0⟩, ⟨4, 7, 281474976710656, 140737488355328, 0⟩, ⟨8, 15, 562949953421312, 281474976711168, 0⟩, ⟨8, 15, 1125899906842624, 281474976712704, 0⟩, ⟨56, 63, 2251799813685248, 1970324836974592, 0⟩, ⟨72, 127, 4503599627370496, 2533274790395904, 0⟩, ⟨136, 255, 9007199254740992, 4503599627370496, 0⟩, ⟨256, 511, 18014398509481984, 9007199254740993, 0⟩, ⟨256, 511, 36028797018963968, 9007199254740994, 0⟩, ⟨256, 511, 72057594037927936, 9007199254740996, 0⟩, ⟨3840, 4095, 144115188075855872, 135107988821114880, 2⟩, ⟨256, 511, 288230376151711744, 9007199254741120, 1⟩, ⟨12544, 16383, 576460752303423488, 297237575406452736, 2⟩, ⟨20736, 32767, 1152921504606846976, 729583139634020352, 0⟩, ⟨33024, 65535, 2305843009213693952, 1161928703861587968, 0⟩, ⟨81920, 131071, 4611686018427387904, 2305843009213693952, 0⟩, ⟨131072, 262143, 9223372036854775808, 4611686018427387908, 0⟩, ⟨393216, 524287, 18446744073709551616, 13835058055282163712, 2⟩, ⟨131072, 262143, 36893488147419103232, 4611686018427392000, 1⟩, ⟨1703936, 2097151, 73786976294838206464, 41505174165846491136, 3⟩, ⟨2752512, 4194303, 147573952589676412928, 96845406386975145984, 0⟩, ⟨4325376, 8388607, 295147905179352825856, 152185638608103800832, 0⟩, ⟨10485760, 16777215, 590295810358705651712, 295147905179352825856, 0⟩, ⟨16777216, 33554431, 1180591620717411303424, 590295810358705651713, 0⟩, ⟨50331648, 67108863, 2361183241434822606848, 1770887431076116955136, 3⟩, ⟨16777216, 33554431, 4722366482869645213696, 590295810358705651713, 0⟩, ⟨218103808, 268435455, 9444732965739290427392, 5312662293228350865408, 3⟩, ⟨352321536, 536870911, 18889465931478580854784, 12396212017532818685952, 0⟩, ⟨553648128, 1073741823, 37778931862957161709568, 19479761741837286506496, 0⟩, ⟨2147483647, 2147483647, 64, 37778931862957161709568, 0⟩] 1056768 [(0, 0), (1, 0), (2, 0), (3, 0), (4, 0), (5, 0), (6, 0), (7, 0), (8, 0), (9, 0), (10, 0), (11, 0), (13, 1), (12, 2), (14, 2), (15, 0), (16, 0), (17, 0), (18, 0), (20, 1), (19, 2), (21, 3), (22, 0), (23, 0), (24, 0), (25, 0), (27, 0), (26, 3), (28, 3), (29, 0), (30, 0), (31, 0)] (by kernel_rfl) (by kernel_rfl) (by kernel_rfl) (by kernel_rfl) (by kernel_rfl) (by kernel_rfl) (fun c a d v w h => by cases d <;> exact h) ?_
  refine seq_calc (by simp only [List.getElem?_toArray, List.getElem?_cons_succ, List.getElem?_cons_zero]; rfl) (by rfl) (fun u => by go_simp <;> with_reducible rfl) ?_
  try simp only [Act.put, List.setIfInBounds_toArray, List.set_cons_zero, List.set_cons_succ]
  refine seq_calc (by simp only [List.getElem?_toArray, List.getElem?_cons_succ, List.getElem?_cons_zero]; rfl) (by rfl) (fun u => by go_simp <;> with_reducible rfl) ?_
  try simp only [Act.put, List.setIfInBounds_toArray, List.set_cons_zero, List.set_cons_succ]
  refine seq_calc (by simp only [List.getElem?_toArray, List.getElem?_cons_succ, List.getElem?_cons_zero]; rfl) (by rfl) (fun u => by go_simp <;> with_reducible rfl) ?_
  try simp only [Act.put, List.setIfInBounds_toArray, List.set_cons_zero, List.set_cons_succ]
  refine seq_calc (by simp only [List.getElem?_toArray, List.getElem?_cons_succ, List.getElem?_cons_zero]; rfl) (by rfl) (fun u => by go_simp <;> with_reducible rfl) ?_
  try simp only [Act.put, List.setIfInBounds_toArray, List.set_cons_zero, List.set_cons_succ]
  first
    | (refine seq_skip (by simp only [List.getElem?_toArray, List.getElem?_cons_succ, List.getElem?_cons_zero]; rfl) (by rfl) ?_)
    | (refine seq_calc (by simp only [List.getElem?_toArray, List.getElem?_cons_succ, List.getElem?_cons_zero]; rfl) (by rfl) (fun u => by go_simp <;> with_reducible rfl) ?_)
  try simp only [Act.put, List.setIfInBounds_toArray, List.set_cons_zero, List.set_cons_succ]
  first
    | (refine seq_skip (by simp only [List.getElem?_toArray, List.getElem?_cons_succ, List.getElem?_cons_zero]; rfl) (by rfl) ?_)
    | (refine seq_calc (by simp only [List.getElem?_toArray, List.getElem?_cons_succ, List.getElem?_cons_zero]; rfl) (by rfl) (fun u => by go_simp <;> with_reducible rfl) ?_)
  try simp only [Act.put, List.setIfInBounds_toArray, List.set_cons_zero, List.set_cons_succ]
  first
    | (refine seq_skip (by simp only [List.getElem?_toArray, List.getElem?_cons_succ, List.getElem?_cons_zero]; rfl) (by rfl) ?_)
    | (refine seq_calc (by simp only [List.getElem?_toArray, List.getElem?_cons_succ, List.getElem?_cons_zero]; rfl) (by rfl) (fun u => by go_simp <;> with_reducible rfl) ?_)
  try simp only [Act.put, List.setIfInBounds_toArray, List.set_cons_zero, List.set_cons_succ]
  refine seq_calc (by simp only [List.getElem?_toArray, List.getElem?_cons_succ, List.getElem?_cons_zero]; rfl) (by rfl) (fun u => by go_simp <;> with_reducible rfl) ?_
  try simp only [Act.put, List.setIfInBounds_toArray, List.set_cons_zero, List.set_cons_succ]
  refine seq_calc (by simp only [List.getElem?_toArray, List.getElem?_cons_succ, List.getElem?_cons_zero]; rfl) (by rfl) (fun u => by go_simp <;> with_reducible rfl) ?_
  try simp only [Act.put, List.setIfInBounds_toArray, List.set_cons_zero, List.set_cons_succ]
  first
    | (refine seq_skip (by simp only [List.getElem?_toArray, List.getElem?_cons_succ, List.getElem?_cons_zero]; rfl) (by rfl) ?_)
    | (refine seq_calc (by simp only [List.getElem?_toArray, List.getElem?_cons_succ, List.getElem?_cons_zero]; rfl) (by rfl) (fun u => by go_simp <;> with_reducible rfl) ?_)
  try simp only [Act.put, List.setIfInBounds_toArray, List.set_cons_zero, List.set_cons_succ]
  first
    | (refine seq_skip (by simp only [List.getElem?_toArray, List.getElem?_cons_succ, List.getElem?_cons_zero]; rfl) (by rfl) ?_)
    | (refine seq_calc (by simp only [List.getElem?_toArray, List.getElem?_cons_succ, List.getElem?_cons_zero]; rfl) (by rfl) (fun u => by go_simp <;> with_reducible rfl) ?_)
  try simp only [Act.put, List.setIfInBounds_toArray, List.set_cons_zero, List.set_cons_succ]
  first
    | (refine seq_skip (by simp only [List.getElem?_toArray, List.getElem?_cons_succ, List.getElem?_cons_zero]; rfl) (by rfl) ?_)
    | (refine seq_calc (by simp only [List.getElem?_toArray, List.getElem?_cons_succ, List.getElem?_cons_zero]; rfl) (by rfl) (fun u => by go_simp <;> with_reducible rfl) ?_)
  try simp only [Act.put, List.setIfInBounds_toArray, List.set_cons_zero, List.set_cons_succ]
  first
    | (refine seq_skip (by simp only [List.getElem?_toArray, List.getElem?_cons_succ, List.getElem?_cons_zero]; rfl) (by rfl) ?_)
    | (refine seq_loads [_, _, _, _, _, _, _, _] (by simp only [List.getElem?_toArray, List.getElem?_cons_succ, List.getElem?_cons_zero]; rfl) (by rfl) rfl rfl Tryd.underlying32 rfl (by kernel_rfl) (by first | (with_reducible assumption) | (refine cellsAre_range ?_; simp only [cellsAre]; (repeat' (first | exact True.intro | apply And.intro)); all_goals (go_simp <;> with_reducible rfl))) (by first | exact id | assumption | (simp; done) | (simp; omega)) ?_)
  try simp only [Act.put, List.setIfInBounds_toArray, List.set_cons_zero, List.set_cons_succ]
  first
    | (refine seq_skip (by simp only [List.getElem?_toArray, List.getElem?_cons_succ, List.getElem?_cons_zero]; rfl) (by rfl) ?_)
    | (refine seq_do (by simp only [List.getElem?_toArray, List.getElem?_cons_succ, List.getElem?_cons_zero]; rfl) (by rfl) (fun K hK => ?_); go_wp2_with (first | (go_at_call 8; refine (HW.out _).mono ?_; rintro e w1 ⟨rfl, hb1⟩; have hB1 : Below w.heap.size w w1 := (by first | exact hB1.trans (hb1.mono hB1.size) | exact Below.trans (by go_grown) (hb1.mono (by simp <;> omega))); obtain ⟨hr1, hr2⟩ := HR.out _ hB1) | (go_at_call 12; (first | (with_reducible refine (HO1.out _).mono ?_) | (with_reducible refine (HO2.out _).mono ?_)); rintro e w1 ⟨rfl, hb1⟩; have hB1 : Below w.heap.size w w1 := (by first | exact hB1.trans (hb1.mono hB1.size) | exact Below.trans (by go_grown) (hb1.mono (by simp <;> omega))); obtain ⟨hr1, hr2⟩ := HR.out _ hB1) | (go_at_call 13; refine (repeat_any b hb _).mono ?_; rintro e w1 ⟨rfl, rfl⟩) | (go_at_call 14; refine (unfold_any m hm _).mono ?_; simp only [byteL]; rintro e w1 ⟨rfl, hb1⟩; have hB1 : Below w.heap.size w w1 := (by first | exact hB1.trans (hb1.mono hB1.size) | exact Below.trans (by go_grown) (hb1.mono (by simp <;> omega))); obtain ⟨hr1, hr2⟩ := HR.out _ hB1) | (go_at_call 11; refine (refLanes_any m hm _).mono ?_; simp only [byteL]; rintro e w1 ⟨rfl, hb1⟩; have hB1 : Below w.heap.size w w1 := (by first | exact hB1.trans (hb1.mono hB1.size) | exact Below.trans (by go_grown) (hb1.mono (by simp <;> omega))); obtain ⟨hr1, hr2⟩ := HR.out _ hB1)); refine hK.out _ _ (by first | (with_reducible exact Chg.refl _ _) | (with_reducible assumption) | (refine Chg.of_below ?_; with_reducible assumption) | (with_reducible exact (Chg.refl _ _).alloc _) | (with_reducible exact (Chg.refl _ _).drewN _) | (with_reducible exact (Chg.refl _ _).drew) | exact ⟨rfl, rfl, rfl, Nat.le_refl _, fun _ _ _ => rfl⟩) ?_; clear hK K)
  try simp only [Act.put, List.setIfInBounds_toArray, List.set_cons_zero, List.set_cons_succ]
  first
    | (refine seq_skip (by simp only [List.getElem?_toArray, List.getElem?_cons_succ, List.getElem?_cons_zero]; rfl) (by rfl) ?_)
    | (refine seq_do (by simp only [List.getElem?_toArray, List.getElem?_cons_succ, List.getElem?_cons_zero]; rfl) (by rfl) (fun K hK => ?_); go_wp2_with (first | (go_at_call 8; refine (HW.out _).mono ?_; rintro e w1 ⟨rfl, hb1⟩; have hB1 : Below w.heap.size w w1 := (by first | exact hB1.trans (hb1.mono hB1.size) | exact Below.trans (by go_grown) (hb1.mono (by simp <;> omega))); obtain ⟨hr1, hr2⟩ := HR.out _ hB1) | (go_at_call 12; (first | (with_reducible refine (HO1.out _).mono ?_) | (with_reducible refine (HO2.out _).mono ?_)); rintro e w1 ⟨rfl, hb1⟩; have hB1 : Below w.heap.size w w1 := (by first | exact hB1.trans (hb1.mono hB1.size) | exact Below.trans (by go_grown) (hb1.mono (by simp <;> omega))); obtain ⟨hr1, hr2⟩ := HR.out _ hB1) | (go_at_call 13; refine (repeat_any b hb _).mono ?_; rintro e w1 ⟨rfl, rfl⟩) | (go_at_call 14; refine (unfold_any m hm _).mono ?_; simp only [byteL]; rintro e w1 ⟨rfl, hb1⟩; have hB1 : Below w.heap.size w w1 := (by first | exact hB1.trans (hb1.mono hB1.size) | exact Below.trans (by go_grown) (hb1.mono (by simp <;> omega))); obtain ⟨hr1, hr2⟩ := HR.out _ hB1) | (go_at_call 11; refine (refLanes_any m hm _).mono ?_; simp only [byteL]; rintro e w1 ⟨rfl, hb1⟩; have hB1 : Below w.heap.size w w1 := (by first | exact hB1.trans (hb1.mono hB1.size) | exact Below.trans (by go_grown) (hb1.mono (by simp <;> omega))); obtain ⟨hr1, hr2⟩ := HR.out _ hB1)); refine hK.out _ _ (by first | (with_reducible exact Chg.refl _ _) | (with_reducible assumption) | (refine Chg.of_below ?_; with_reducible assumption) | (with_reducible exact (Chg.refl _ _).alloc _) | (with_reducible exact (Chg.refl _ _).drewN _) | (with_reducible exact (Chg.refl _ _).drew) | exact ⟨rfl, rfl, rfl, Nat.le_refl _, fun _ _ _ => rfl⟩) ?_; clear hK K)
  try simp only [Act.put, List.setIfInBounds_toArray, List.set_cons_zero, List.set_cons_succ]
  first
    | (refine seq_skip (by simp only [List.getElem?_toArray, List.getElem?_cons_succ, List.getElem?_cons_zero]; rfl) (by rfl) ?_)
    | (refine seq_calc (by simp only [List.getElem?_toArray, List.getElem?_cons_succ, List.getElem?_cons_zero]; rfl) (by rfl) (fun u => by go_simp <;> with_reducible rfl) ?_)
  try simp only [Act.put, List.setIfInBounds_toArray, List.set_cons_zero, List.set_cons_succ]
  refine seq_calc (by simp only [List.getElem?_toArray, List.getElem?_cons_succ, List.getElem?_cons_zero]; rfl) (by rfl) (fun u => by go_simp <;> with_reducible rfl) ?_
  try simp only [Act.put, List.setIfInBounds_toArray, List.set_cons_zero, List.set_cons_succ]
  refine seq_calc (by simp only [List.getElem?_toArray, List.getElem?_cons_succ, List.getElem?_cons_zero]; rfl) (by rfl) (fun u => by go_simp <;> with_reducible rfl) ?_
  try simp only [Act.put, List.setIfInBounds_toArray, List.set_cons_zero, List.set_cons_succ]
  first
    | (refine seq_skip (by simp only [List.getElem?_toArray, List.getElem?_cons_succ, List.getElem?_cons_zero]; rfl) (by rfl) ?_)
    | (refine seq_calc (by simp only [List.getElem?_toArray, List.getElem?_cons_succ, List.getElem?_cons_zero]; rfl) (by rfl) (fun u => by go_simp <;> with_reducible rfl) ?_)
  try simp only [Act.put, List.setIfInBounds_toArray, List.set_cons_zero, List.set_cons_succ]
  first
    | (refine seq_skip (by simp only [List.getElem?_toArray, List.getElem?_cons_succ, List.getElem?_cons_zero]; rfl) (by rfl) ?_)
    | (refine seq_loads [_, _, _, _, _, _, _, _] (by simp only [List.getElem?_toArray, List.getElem?_cons_succ, List.getElem?_cons_zero]; rfl) (by rfl) rfl rfl Tryd.underlying32 rfl (by kernel_rfl) (by first | (with_reducible assumption) | (refine cellsAre_range ?_; simp only [cellsAre]; (repeat' (first | exact True.intro | apply And.intro)); all_goals (go_simp <;> with_reducible rfl))) (by first | exact id | assumption | (simp; done) | (simp; omega)) ?_)
  try simp only [Act.put, List.setIfInBounds_toArray, List.set_cons_zero, List.set_cons_succ]
  first
    | (refine seq_skip (by simp only [List.getElem?_toArray, List.getElem?_cons_succ, List.getElem?_cons_zero]; rfl) (by rfl) ?_)
    | (refine seq_do (by simp only [List.getElem?_toArray, List.getElem?_cons_succ, List.getElem?_cons_zero]; rfl) (by rfl) (fun K hK => ?_); go_wp2_with (first | (go_at_call 8; refine (HW.out _).mono ?_; rintro e w1 ⟨rfl, hb1⟩; have hB1 : Below w.heap.size w w1 := (by first | exact hB1.trans (hb1.mono hB1.size) | exact Below.trans (by go_grown) (hb1.mono (by simp <;> omega))); obtain ⟨hr1, hr2⟩ := HR.out _ hB1) | (go_at_call 12; (first | (with_reducible refine (HO1.out _).mono ?_) | (with_reducible refine (HO2.out _).mono ?_)); rintro e w1 ⟨rfl, hb1⟩; have hB1 : Below w.heap.size w w1 := (by first | exact hB1.trans (hb1.mono hB1.size) | exact Below.trans (by go_grown) (hb1.mono (by simp <;> omega))); obtain ⟨hr1, hr2⟩ := HR.out _ hB1) | (go_at_call 13; refine (repeat_any b hb _).mono ?_; rintro e w1 ⟨rfl, rfl⟩) | (go_at_call 14; refine (unfold_any m hm _).mono ?_; simp only [byteL]; rintro e w1 ⟨rfl, hb1⟩; have hB1 : Below w.heap.size w w1 := (by first | exact hB1.trans (hb1.mono hB1.size) | exact Below.trans (by go_grown) (hb1.mono (by simp <;> omega))); obtain ⟨hr1, hr2⟩ := HR.out _ hB1) | (go_at_call 11; refine (refLanes_any m hm _).mono ?_; simp only [byteL]; rintro e w1 ⟨rfl, hb1⟩; have hB1 : Below w.heap.size w w1 := (by first | exact hB1.trans (hb1.mono hB1.size) | exact Below.trans (by go_grown) (hb1.mono (by simp <;> omega))); obtain ⟨hr1, hr2⟩ := HR.out _ hB1)); refine hK.out _ _ (by first | (with_reducible exact Chg.refl _ _) | (with_reducible assumption) | (refine Chg.of_below ?_; with_reducible assumption) | (with_reducible exact (Chg.refl _ _).alloc _) | (with_reducible exact (Chg.refl _ _).drewN _) | (with_reducible exact (Chg.refl _ _).drew) | exact ⟨rfl, rfl, rfl, Nat.le_refl _, fun _ _ _ => rfl⟩) ?_; clear hK K)
  try simp only [Act.put, List.setIfInBounds_toArray, List.set_cons_zero, List.set_cons_succ]
  first
    | (refine seq_skip (by simp only [List.getElem?_toArray, List.getElem?_cons_succ, List.getElem?_cons_zero]; rfl) (by rfl) ?_)
    | (refine seq_last (by simp only [List.getElem?_toArray, List.getElem?_cons_succ, List.getElem?_cons_zero]; rfl) (by rfl) (fun K hK => ?_); go_wp2_with (first | (go_at_call 8; refine (HW.out _).mono ?_; rintro e w1 ⟨rfl, hb1⟩; have hB1 : Below w.heap.size w w1 := (by first | exact hB1.trans (hb1.mono hB1.size) | exact Below.trans (by go_grown) (hb1.mono (by simp <;> omega))); obtain ⟨hr1, hr2⟩ := HR.out _ hB1) | (go_at_call 12; (first | (with_reducible refine (HO1.out _).mono ?_) | (with_reducible refine (HO2.out _).mono ?_)); rintro e w1 ⟨rfl, hb1⟩; have hB1 : Below w.heap.size w w1 := (by first | exact hB1.trans (hb1.mono hB1.size) | exact Below.trans (by go_grown) (hb1.mono (by simp <;> omega))); obtain ⟨hr1, hr2⟩ := HR.out _ hB1) | (go_at_call 13; refine (repeat_any b hb _).mono ?_; rintro e w1 ⟨rfl, rfl⟩) | (go_at_call 14; refine (unfold_any m hm _).mono ?_; simp only [byteL]; rintro e w1 ⟨rfl, hb1⟩; have hB1 : Below w.heap.size w w1 := (by first | exact hB1.trans (hb1.mono hB1.size) | exact Below.trans (by go_grown) (hb1.mono (by simp <;> omega))); obtain ⟨hr1, hr2⟩ := HR.out _ hB1) | (go_at_call 11; refine (refLanes_any m hm _).mono ?_; simp only [byteL]; rintro e w1 ⟨rfl, hb1⟩; have hB1 : Below w.heap.size w w1 := (by first | exact hB1.trans (hb1.mono hB1.size) | exact Below.trans (by go_grown) (hb1.mono (by simp <;> omega))); obtain ⟨hr1, hr2⟩ := HR.out _ hB1)); refine hK.out _ _ ?_; clear hK K)
  try simp only [Act.put, List.setIfInBounds_toArray, List.set_cons_zero, List.set_cons_succ]
  first
    | (refine seq_skip (by simp only [List.getElem?_toArray, List.getElem?_cons_succ, List.getElem?_cons_zero]; rfl) (by rfl) ?_)
    | (refine seq_calc (by simp only [List.getElem?_toArray, List.getElem?_cons_succ, List.getElem?_cons_zero]; rfl) (by rfl) (fun u => by go_simp <;> with_reducible rfl) ?_)
  try simp only [Act.put, List.setIfInBounds_toArray, List.set_cons_zero, List.set_cons_succ]
  refine seq_calc (by simp only [List.getElem?_toArray, List.getElem?_cons_succ, List.getElem?_cons_zero]; rfl) (by rfl) (fun u => by go_simp <;> with_reducible rfl) ?_
  try simp only [Act.put, List.setIfInBounds_toArray, List.set_cons_zero, List.set_cons_succ]
  refine seq_calc (by simp only [List.getElem?_toArray, List.getElem?_cons_succ, List.getElem?_cons_zero]; rfl) (by rfl) (fun u => by go_simp <;> with_reducible rfl) ?_
  try simp only [Act.put, List.setIfInBounds_toArray, List.set_cons_zero, List.set_cons_succ]
  first
    | (refine seq_skip (by simp only [List.getElem?_toArray, List.getElem?_cons_succ, List.getElem?_cons_zero]; rfl) (by rfl) ?_)
    | (refine seq_calc (by simp only [List.getElem?_toArray, List.getElem?_cons_succ, List.getElem?_cons_zero]; rfl) (by rfl) (fun u => by go_simp <;> with_reducible rfl) ?_)
  try simp only [Act.put, List.setIfInBounds_toArray, List.set_cons_zero, List.set_cons_succ]
  first
    | (refine seq_skip (by simp only [List.getElem?_toArray, List.getElem?_cons_succ, List.getElem?_cons_zero]; rfl) (by rfl) ?_)
    | (refine seq_calc (by simp only [List.getElem?_toArray, List.getElem?_cons_succ, List.getElem?_cons_zero]; rfl) (by rfl) (fun u => by go_simp <;> with_reducible rfl) ?_)
  try simp only [Act.put, List.setIfInBounds_toArray, List.set_cons_zero, List.set_cons_succ]
  first
    | (refine seq_skip (by simp only [List.getElem?_toArray, List.getElem?_cons_succ, List.getElem?_cons_zero]; rfl) (by rfl) ?_)
    | (refine seq_last (by simp only [List.getElem?_toArray, List.getElem?_cons_succ, List.getElem?_cons_zero]; rfl) (by rfl) (fun K hK => ?_); go_wp2_with (first | (go_at_call 8; refine (HW.out _).mono ?_; rintro e w1 ⟨rfl, hb1⟩; have hB1 : Below w.heap.size w w1 := (by first | exact hB1.trans (hb1.mono hB1.size) | exact Below.trans (by go_grown) (hb1.mono (by simp <;> omega))); obtain ⟨hr1, hr2⟩ := HR.out _ hB1) | (go_at_call 12; (first | (with_reducible refine (HO1.out _).mono ?_) | (with_reducible refine (HO2.out _).mono ?_)); rintro e w1 ⟨rfl, hb1⟩; have hB1 : Below w.heap.size w w1 := (by first | exact hB1.trans (hb1.mono hB1.size) | exact Below.trans (by go_grown) (hb1.mono (by simp <;> omega))); obtain ⟨hr1, hr2⟩ := HR.out _ hB1) | (go_at_call 13; refine (repeat_any b hb _).mono ?_; rintro e w1 ⟨rfl, rfl⟩) | (go_at_call 14; refine (unfold_any m hm _).mono ?_; simp only [byteL]; rintro e w1 ⟨rfl, hb1⟩; have hB1 : Below w.heap.size w w1 := (by first | exact hB1.trans (hb1.mono hB1.size) | exact Below.trans (by go_grown) (hb1.mono (by simp <;> omega))); obtain ⟨hr1, hr2⟩ := HR.out _ hB1) | (go_at_call 11; refine (refLanes_any m hm _).mono ?_; simp only [byteL]; rintro e w1 ⟨rfl, hb1⟩; have hB1 : Below w.heap.size w w1 := (by first | exact hB1.trans (hb1.mono hB1.size) | exact Below.trans (by go_grown) (hb1.mono (by simp <;> omega))); obtain ⟨hr1, hr2⟩ := HR.out _ hB1)); refine hK.out _ _ ?_; clear hK K)
  try simp only [Act.put, List.setIfInBounds_toArray, List.set_cons_zero, List.set_cons_succ]
  first
    | (refine seq_skip (by simp only [List.getElem?_toArray, List.getElem?_cons_succ, List.getElem?_cons_zero]; rfl) (by rfl) ?_)
    | (refine seq_last (by simp only [List.getElem?_toArray, List.getElem?_cons_succ, List.getElem?_cons_zero]; rfl) (by rfl) (fun K hK => ?_); go_wp2_with (first | (go_at_call 8; refine (HW.out _).mono ?_; rintro e w1 ⟨rfl, hb1⟩; have hB1 : Below w.heap.size w w1 := (by first | exact hB1.trans (hb1.mono hB1.size) | exact Below.trans (by go_grown) (hb1.mono (by simp <;> omega))); obtain ⟨hr1, hr2⟩ := HR.out _ hB1) | (go_at_call 12; (first | (with_reducible refine (HO1.out _).mono ?_) | (with_reducible refine (HO2.out _).mono ?_)); rintro e w1 ⟨rfl, hb1⟩; have hB1 : Below w.heap.size w w1 := (by first | exact hB1.trans (hb1.mono hB1.size) | exact Below.trans (by go_grown) (hb1.mono (by simp <;> omega))); obtain ⟨hr1, hr2⟩ := HR.out _ hB1) | (go_at_call 13; refine (repeat_any b hb _).mono ?_; rintro e w1 ⟨rfl, rfl⟩) | (go_at_call 14; refine (unfold_any m hm _).mono ?_; simp only [byteL]; rintro e w1 ⟨rfl, hb1⟩; have hB1 : Below w.heap.size w w1 := (by first | exact hB1.trans (hb1.mono hB1.size) | exact Below.trans (by go_grown) (hb1.mono (by simp <;> omega))); obtain ⟨hr1, hr2⟩ := HR.out _ hB1) | (go_at_call 11; refine (refLanes_any m hm _).mono ?_; simp only [byteL]; rintro e w1 ⟨rfl, hb1⟩; have hB1 : Below w.heap.size w w1 := (by first | exact hB1.trans (hb1.mono hB1.size) | exact Below.trans (by go_grown) (hb1.mono (by simp <;> omega))); obtain ⟨hr1, hr2⟩ := HR.out _ hB1)); refine hK.out _ _ ?_; clear hK K)
  try simp only [Act.put, List.setIfInBounds_toArray, List.set_cons_zero, List.set_cons_succ]
  first
    | (refine seq_skip (by simp only [List.getElem?_toArray, List.getElem?_cons_succ, List.getElem?_cons_zero]; rfl) (by rfl) ?_)
    | (refine seq_calc (by simp only [List.getElem?_toArray, List.getElem?_cons_succ, List.getElem?_cons_zero]; rfl) (by rfl) (fun u => by go_simp <;> with_reducible rfl) ?_)
  try simp only [Act.put, List.setIfInBounds_toArray, List.set_cons_zero, List.set_cons_succ]
  refine seq_calc (by simp only [List.getElem?_toArray, List.getElem?_cons_succ, List.getElem?_cons_zero]; rfl) (by rfl) (fun u => by go_simp <;> with_reducible rfl) ?_
  try simp only [Act.put, List.setIfInBounds_toArray, List.set_cons_zero, List.set_cons_succ]
  refine seq_calc (by simp only [List.getElem?_toArray, List.getElem?_cons_succ, List.getElem?_cons_zero]; rfl) (by rfl) (fun u => by go_simp <;> with_reducible rfl) ?_
  try simp only [Act.put, List.setIfInBounds_toArray, List.set_cons_zero, List.set_cons_succ]
  refine seq_nil ?_
  go_wp2
  go_ret
  exact ⟨by rfl, hBw.out.trans (hB1.mono hBw.out.size)⟩

set_option maxRecDepth 100000 in
set_option maxHeartbeats 4000000 in
theorem swarLanes_low (m b : Nat) (i : Int) (hm : m < 18446744073709551616) (h : i < 0) (hb : b < 256) (w0 : World) (hT : Tab64 w0) :
    Calls Tryd.prog 4 #[.int .u64 (m : Int), .int .i64 i, .int .u8 (b : Int)] w0 fun e w' => e = .returned (.bool true) ∧ Below w0.heap.size w0 w' := by
  have hi : i < 0 ∨ 8 ≤ i := .inl h
  have HA := alive01_any w0 hT
  replace HA := Lib.hid HA
  clear hT
  have LN := Lib.hid (fun w => lane_out m i hi w)
  have hd : decide (0 ≤ i) = false := by simpa using h
  replace hi := Lib.hid hi
  go_enter Tryd.func4, Tryd.ntmps4
  go_upto_region 4 with (first | (go_at_call 7; refine HA.out.mono ?_; rintro e w' ⟨rfl, rfl⟩) | (go_at_call 11; refine (refLanes_any m hm _).mono ?_; simp only [byteL]; rintro e w1 ⟨rfl, hb1⟩))
  refine wp_at (fun W hW => ?_)
  have p1 : Blk W w1.heap.size 32 (byteL (ln m)).toArray := by rw [hW]; exact Blk.new_at rfl
  have q1 : Below w0.heap.size w0 W := by rw [hW]; exact hb1.alloc hb1.size _
  clear hW
  have hsz := q1.size
  have hB := hb1.size
  obtain ⟨B, hBe⟩ : ∃ B, B = w1.heap.size := ⟨_, rfl⟩
  rw [← hBe] at p1 hB ⊢
  have P1 := Lib.hid p1
  have Q1 := Lib.hid q1
  clear p1 q1 hb1 hBe
  go_wp2_with (go_at_call 9; refine (LN.out _).mono ?_; rintro e w' ⟨rfl, rfl⟩)
  refine wp_at (fun w hW => ?_)
  have p2 : Blk w B 32 (byteL (ln m)).toArray := by rw [hW]; exact P1.out.alloc _
  have p3 : Blk w W.heap.size 32 (byteL (fun _ => b)).toArray := by rw [hW]; exact Blk.new_at rfl
  have hBw : Below w0.heap.size w0 w := by rw [hW]; exact Q1.out.alloc (by omega) _
  clear hW
  obtain ⟨l, hl⟩ : ∃ l : Nat → Nat, l = ln m := ⟨_, rfl⟩
  obtain ⟨l', hl'⟩ : ∃ l : Nat → Nat, l = fun k => b := ⟨_, rfl⟩
  have e1 : ofL l = m := by rw [hl]; exact ofL_ln m hm
  have e2 : ofL l' = rep b := by rw [hl']; exact (rep_ofL b).symm
  have hlb : ∀ k, k < 8 → l k < 256 := by rw [hl]; exact fun k _ => ln_lt m k
  have hlb' : ∀ k, k < 8 → l' k < 256 := by rw [hl']; exact fun _ _ => hb
  rw [← hl] at p2
  rw [← hl'] at p3
  clear hl hl'
  have HW := Lib.hid (fun w => (with_out m b i hi.out w).mono fun e w' (h : e = _ ∧ w = w') => (⟨h.1, h.2 ▸ Below.refl _ _⟩ : e = .returned (.int .u64 (m : Int)) ∧ Below w.heap.size w w'))
  have HR0 := fun (w' : World) (h : Below w.heap.size w w') => (⟨(p2.below h p2.lt).whole, (p3.below h p3.lt).whole⟩ : w'.rangeAt B 0 (byteL l) ∧ w'.rangeAt W.heap.size 0 (byteL l'))
  have HO1 := word_any l hlb
  have HO2 := word_any l' hlb'
  have HE := eq_bytes (ln m) (ln m)
  simp only [decide_true] at HE
  simp only [byteL] at HR0 HO1 HO2 HE
  rw [e1] at HO1
  rw [e2] at HO2
  have HR := Lib.hid HR0
  replace HO1 := Lib.hid HO1
  replace HO2 := Lib.hid HO2
  clear HR0 p2 p3 e1 e2 hlb hlb'
  obtain ⟨hr1, hr2⟩ := HR.out w.drew (Below.refl _ _).drew
  replace hBw := Lib.hid hBw
  refine wp_region_seq (fun _ => False) #[⟨0, 0, 35184372088832, 256, 0⟩, ⟨0, 0, 70368744177664, 1024, 0⟩, ⟨3, 3, 140737488355328, 105553116266496, 0⟩, ⟨4, 7, 281474976710656, 140737488355328, 0⟩, ⟨8, 15, 562949953421312, 281474976711168, 0⟩, ⟨8, 15, 1125899906842624, 281474976712704, 0⟩, ⟨56, 63, 2251799813685248, 1970324836974592, 0⟩, ⟨72, 127, 4503599627370496, 2533274790395904, 0⟩, ⟨136, 255, 9007199254740992, 4503599627370496, 0⟩, ⟨256, 511, 18014398509481984, 9007199254740993, 0⟩, ⟨256, 511, 36028797018963968, 9007199254740994, 0⟩, ⟨256, 511, 72057594037927936, 9007199254740996, 0⟩, ⟨3840, 4095, 144115188075855872, 135107988821114880, 2⟩, ⟨256, 511, 288230376151711744, 9007199254741120, 1⟩, ⟨12544, 16383, 576460752303423488, 297237575406452736, 2⟩, ⟨20736, 32767, 1152921504606846976, 729583139634020352, 0⟩, ⟨33024, 65535, 2305843009213693952, 1161928703861587968, 0⟩, ⟨81920, 131071, 4611686018427387904, 2305843009213693952, 0⟩, ⟨131072, 262143, 9223372036854775808, 4611686018427387908, 0⟩, ⟨393216, 524287, 18446744073709551616, 13835058055282163712, 2⟩, ⟨131072, 262143, 36893488147419103232, 4611686018427392000, 1⟩, ⟨1703936, 2097151, 73786976294838206464, 41505174165846491136, 3⟩, ⟨2752512, 4194303, 147573952589676412928, 96845406386975145984, 0⟩, ⟨4325376, 8388607, 295147905179352825856, 152185638608103800832, 0⟩, ⟨10485760, 16777215, 590295810358705651712, 295147905179352825856, 0⟩, ⟨16777216, 33554431, 1180591620717411303424, 590295810358705651713, 0⟩, ⟨50331648, 67108863, 2361183241434822606848, 1770887431076116955136, 3⟩, ⟨16777216, 33554431, 4722366482869645213696, 590295810358705651713, 0⟩, ⟨218103808, 268435455, 9444732965739290427392, 5312662293228350865408, 3⟩, ⟨352321536, 536870911, 18889465931478580854784, 12396212017532818685952, 0⟩, ⟨553648128, 1073741823, 37778931862957161709568, 19479761741837286506496, 0⟩, ⟨2147483647, 2147483647, 64, 37778931862957161709568, 0⟩] 1056768 [(0, 0), (1, 0), (2, 0), (3, 0), (4, 0), (5, 0), (6, 0), (7, 0), (8, 0), (9, 0), (10, 0), (11, 0), (13, 1), (12, 2), (14, 2), (15, 0), (16, 0), (17, 0), (18, 0), (20, 1), (19, 2), (21, 3), (22, 0), (23, 0), (24, 0), (25, 0), (27, 0), (26, 3), (28, 3), (29, 0), (30, 0), (31, 0)] (by kernel_rfl) (by kernel_rfl) (by kernel_rfl) (by kernel_rfl) (by kernel_rfl) (by kernel_rfl) (fun c a d v w h => by cases d <;> exact h) ?_
  refine seq_calc (by simp only [List.getElem?_toArray, List.getElem?_cons_succ, List.getElem?_cons_zero]; rfl) (by rfl) (fun u => by go_simp <;> with_reducible rfl) ?_
  try simp only [Act.put, List.setIfInBounds_toArray, List.set_cons_zero, List.set_cons_succ]
  refine seq_calc (by simp only [List.getElem?_toArray, List.getElem?_cons_succ, List.getElem?_cons_zero]; rfl) (by rfl) (fun u => by go_simp <;> with_reducible rfl) ?_
  try simp only [Act.put, List.setIfInBounds_toArray, List.set_cons_zero, List.set_cons_succ]
  refine seq_calc (by simp only [List.getElem?_toArray, List.getElem?_cons_succ, List.getElem?_cons_zero]; rfl) (by rfl) (fun u => by go_simp <;> with_reducible rfl) ?_
  try simp only [Act.put, List.setIfInBounds_toArray, List.set_cons_zero, List.set_cons_succ]
  refine seq_calc (by simp only [List.getElem?_toArray, List.getElem?_cons_succ, List.getElem?_cons_zero]; rfl) (by rfl) (fun u => by go_simp <;> with_reducible rfl) ?_
  try simp only [Act.put, List.setIfInBounds_toArray, List.set_cons_zero, List.set_cons_succ]
  first
    | (refine seq_skip (by simp only [List.getElem?_toArray, List.getElem?_cons_succ, List.getElem?_cons_zero]; rfl) (by rfl) ?_)
    | (refine seq_calc (by simp only [List.getElem?_toArray, List.getElem?_cons_succ, List.getElem?_cons_zero]; rfl) (by rfl) (fun u => by go_simp <;> with_reducible rfl) ?_)
  try simp only [Act.put, List.setIfInBounds_toArray, List.set_cons_zero, List.set_cons_succ]
  first
    | (refine seq_skip (by simp only [List.getElem?_toArray, List.getElem?_cons_succ, List.getElem?_cons_zero]; rfl) (by rfl) ?_)
    | (refine seq_calc (by simp only [List.getElem?_toArray, List.getElem?_cons_succ, List.getElem?_cons_zero]; rfl) (by rfl) (fun u => by go_simp <;> with_reducible rfl) ?_)
  try simp only [Act.put, List.setIfInBounds_toArray, List.set_cons_zero, List.set_cons_succ]
  first
    | (refine seq_skip (by simp only [List.getElem?_toArray, List.getElem?_cons_succ, List.getElem?_cons_zero]; rfl) (by rfl) ?_)
    | (refine seq_calc (by simp only [List.getElem?_toArray, List.getElem?_cons_succ, List.getElem?_cons_zero]; rfl) (by rfl) (fun u => by go_simp <;> with_reducible rfl) ?_)
  try simp only [Act.put, List.setIfInBounds_toArray, List.set_cons_zero, List.set_cons_succ]
  refine seq_calc (by simp only [List.getElem?_toArray, List.getElem?_cons_succ, List.getElem?_cons_zero]; rfl) (by rfl) (fun u => by go_simp <;> with_reducible rfl) ?_
  try simp only [Act.put, List.setIfInBounds_toArray, List.set_cons_zero, List.set_cons_succ]
  refine seq_calc (by simp only [List.getElem?_toArray, List.getElem?_cons_succ, List.getElem?_cons_zero]; rfl) (by rfl) (fun u => by go_simp <;> with_reducible rfl) ?_
  try simp only [Act.put, List.setIfInBounds_toArray, List.set_cons_zero, List.set_cons_succ]
  first
    | (refine seq_skip (by simp only [List.getElem?_toArray, List.getElem?_cons_succ, List.getElem?_cons_zero]; rfl) (by rfl) ?_)
    | (refine seq_calc (by simp only [List.getElem?_toArray, List.getElem?_cons_succ, List.getElem?_cons_zero]; rfl) (by rfl) (fun u => by go_simp <;> with_reducible rfl) ?_)
  try simp only [Act.put, List.setIfInBounds_toArray, List.set_cons_zero, List.set_cons_succ]
  first
    | (refine seq_skip (by simp only [List.getElem?_toArray, List.getElem?_cons_succ, List.getElem?_cons_zero]; rfl) (by rfl) ?_)
    | (refine seq_calc (by simp only [List.getElem?_toArray, List.getElem?_cons_succ, List.getElem?_cons_zero]; rfl) (by rfl) (fun u => by go_simp <;> with_reducible rfl) ?_)
  try simp only [Act.put, List.setIfInBounds_toArray, List.set_cons_zero, List.set_cons_succ]
  first
    | (refine seq_skip (by simp only [List.getElem?_toArray, List.getElem?_cons_succ, List.getElem?_cons_zero]; rfl) (by rfl) ?_)
    | (refine seq_calc (by simp only [List.getElem?_toArray, List.getElem?_cons_succ, List.getElem?_cons_zero]; rfl) (by rfl) (fun u => by go_simp <;> with_reducible rfl) ?_)
  try simp only [Act.put, List.setIfInBounds_toArray, List.set_cons_zero, List.set_cons_succ]
  first
    | (refine seq_skip (by simp only [List.getElem?_toArray, List.getElem?_cons_succ, List.getElem?_cons_zero]; rfl) (by rfl) ?_)
    | (refine seq_loads [_, _, _, _, _, _, _, _] (by simp only [List.getElem?_toArray, List.getElem?_cons_succ, List.getElem?_cons_zero]; rfl) (by rfl) rfl rfl Tryd.underlying32 rfl (by kernel_rfl) (by first | (with_reducible assumption) | (refine cellsAre_range ?_; simp only [cellsAre]; (repeat' (first | exact True.intro | apply And.intro)); all_goals (go_simp <;> with_reducible rfl))) (by first | exact id | assumption | (simp; done) | (simp; omega)) ?_)
  try simp only [Act.put, List.setIfInBounds_toArray, List.set_cons_zero, List.set_cons_succ]
  first
    | (refine seq_skip (by simp only [List.getElem?_toArray, List.getElem?_cons_succ, List.getElem?_cons_zero]; rfl) (by rfl) ?_)
    | (refine seq_do (by simp only [List.getElem?_toArray, List.getElem?_cons_succ, List.getElem?_cons_zero]; rfl) (by rfl) (fun K hK => ?_); go_wp2_with (first | (go_at_call 8; refine (HW.out _).mono ?_; rintro e w1 ⟨rfl, hb1⟩; have hB1 : Below w.heap.size w w1 := (by first | exact hB1.trans (hb1.mono hB1.size) | exact Below.trans (by go_grown) (hb1.mono (by simp <;> omega))); obtain ⟨hr1, hr2⟩ := HR.out _ hB1) | (go_at_call 12; (first | (with_reducible refine (HO1.out _).mono ?_) | (with_reducible refine (HO2.out _).mono ?_)); rintro e w1 ⟨rfl, hb1⟩; have hB1 : Below w.heap.size w w1 := (by first | exact hB1.trans (hb1.mono hB1.size) | exact Below.trans (by go_grown) (hb1.mono (by simp <;> omega))); obtain ⟨hr1, hr2⟩ := HR.out _ hB1) | (go_at_call 13; refine (repeat_any b hb _).mono ?_; rintro e w1 ⟨rfl, rfl⟩) | (go_at_call 14; refine (unfold_any m hm _).mono ?_; simp only [byteL]; rintro e w1 ⟨rfl, hb1⟩; have hB1 : Below w.heap.size w w1 := (by first | exact hB1.trans (hb1.mono hB1.size) | exact Below.trans (by go_grown) (hb1.mono (by simp <;> omega))); obtain ⟨hr1, hr2⟩ := HR.out _ hB1) | (go_at_call 11; refine (refLanes_any m hm _).mono ?_; simp only [byteL]; rintro e w1 ⟨rfl, hb1⟩; have hB1 : Below w.heap.size w w1 := (by first | exact hB1.trans (hb1.mono hB1.size) | exact Below.trans (by go_grown) (hb1.mono (by simp <;> omega))); obtain ⟨hr1, hr2⟩ := HR.out _ hB1)); refine hK.out _ _ (by first | (with_reducible exact Chg.refl _ _) | (with_reducible assumption) | (refine Chg.of_below ?_; with_reducible assumption) | (with_reducible exact (Chg.refl _ _).alloc _) | (with_reducible exact (Chg.refl _ _).drewN _) | (with_reducible exact (Chg.refl _ _).drew) | exact ⟨rfl, rfl, rfl, Nat.le_refl _, fun _ _ _ => rfl⟩) ?_; clear hK K)
  try simp only [Act.put, List.setIfInBounds_toArray, List.set_cons_zero, List.set_cons_succ]
  first
    | (refine seq_skip (by simp only [List.getElem?_toArray, List.getElem?_cons_succ, List.getElem?_cons_zero]; rfl) (by rfl) ?_)
    | (refine seq_do (by simp only [List.getElem?_toArray, List.getElem?_cons_succ, List.getElem?_cons_zero]; rfl) (by rfl) (fun K hK => ?_); go_wp2_with (first | (go_at_call 8; refine (HW.out _).mono ?_; rintro e w1 ⟨rfl, hb1⟩; have hB1 : Below w.heap.size w w1 := (by first | exact hB1.trans (hb1.mono hB1.size) | exact Below.trans (by go_grown) (hb1.mono (by simp <;> omega))); obtain ⟨hr1, hr2⟩ := HR.out _ hB1) | (go_at_call 12; (first | (with_reducible refine (HO1.out _).mono ?_) | (with_reducible refine (HO2.out _).mono ?_)); rintro e w1 ⟨rfl, hb1⟩; have hB1 : Below w.heap.size w w1 := (by first | exact hB1.trans (hb1.mono hB1.size) | exact Below.trans (by go_grown) (hb1.mono (by simp <;> omega))); obtain ⟨hr1, hr2⟩ := HR.out _ hB1) | (go_at_call 13; refine (repeat_any b hb _).mono ?_; rintro e w1 ⟨rfl, rfl⟩) | (go_at_call 14; refine (unfold_any m hm _).mono ?_; simp only [byteL]; rintro e w1 ⟨rfl, hb1⟩; have hB1 : Below w.heap.size w w1 := (by first | exact hB1.trans (hb1.mono hB1.size) | exact Below.trans (by go_grown) (hb1.mono (by simp <;> omega))); obtain ⟨hr1, hr2⟩ := HR.out _ hB1) | (go_at_call 11; refine (refLanes_any m hm _).mono ?_; simp only [byteL]; rintro e w1 ⟨rfl, hb1⟩; have hB1 : Below w.heap.size w w1 := (by first | exact hB1.trans (hb1.mono hB1.size) | exact Below.trans (by go_grown) (hb1.mono (by simp <;> omega))); obtain ⟨hr1, hr2⟩ := HR.out _ hB1)); refine hK.out _ _ (by first | (with_reducible exact Chg.refl _ _) | (with_reducible assumption) | (refine Chg.of_below ?_; with_reducible assumption) | (with_reducible exact (Chg.refl _ _).alloc _) | (with_reducible exact (Chg.refl _ _).drewN _) | (with_reducible exact (Chg.refl _ _).drew) | exact ⟨rfl, rfl, rfl, Nat.le_refl _, fun _ _ _ => rfl⟩) ?_; clear hK K)
  try simp only [Act.put, List.setIfInBounds_toArray, List.set_cons_zero, List.set_cons_succ]
  first
    | (refine seq_skip (by simp only [List.getElem?_toArray, List.getElem?_cons_succ, List.getElem?_cons_zero]; rfl) (by rfl) ?_)
    | (refine seq_calc (by simp only [List.getElem?_toArray, List.getElem?_cons_succ, List.getElem?_cons_zero]; rfl) (by rfl) (fun u => by go_simp <;> with_reducible rfl) ?_)
  try simp only [Act.put, List.setIfInBounds_toArray, List.set_cons_zero, List.set_cons_succ]
  refine seq_calc (by simp only [List.getElem?_toArray, List.getElem?_cons_succ, List.getElem?_cons_zero]; rfl) (by rfl) (fun u => by go_simp <;> with_reducible rfl) ?_
  try simp only [Act.put, List.setIfInBounds_toArray, List.set_cons_zero, List.set_cons_succ]
  refine seq_calc (by simp only [List.getElem?_toArray, List.getElem?_cons_succ, List.getElem?_cons_zero]; rfl) (by rfl) (fun u => by go_simp <;> with_reducible rfl) ?_
  try simp only [Act.put, List.setIfInBounds_toArray, List.set_cons_zero, List.set_cons_succ]
  first
    | (refine seq_skip (by simp only [List.getElem?_toArray, List.getElem?_cons_succ, List.getElem?_cons_zero]; rfl) (by rfl) ?_)
    | (refine seq_calc (by simp only [List.getElem?_toArray, List.getElem?_cons_succ, List.getElem?_cons_zero]; rfl) (by rfl) (fun u => by go_simp <;> with_reducible rfl) ?_)
  try simp only [Act.put, List.setIfInBounds_toArray, List.set_cons_zero, List.set_cons_succ]
  first
    | (refine seq_skip (by simp only [List.getElem?_toArray, List.getElem?_cons_succ, List.getElem?_cons_zero]; rfl) (by rfl) ?_)
    | (refine seq_loads [_, _, _, _, _, _, _, _] (by simp only [List.getElem?_toArray, List.getElem?_cons_succ, List.getElem?_cons_zero]; rfl) (by rfl) rfl rfl Tryd.underlying32 rfl (by kernel_rfl) (by first | (with_reducible assumption) | (refine cellsAre_range ?_; simp only [cellsAre]; (repeat' (first | exact True.intro | apply And.intro)); all_goals (go_simp <;> with_reducible rfl))) (by first | exact id | assumption | (simp; done) | (simp; omega)) ?_)
  try simp only [Act.put, List.setIfInBounds_toArray, List.set_cons_zero, List.set_cons_succ]
  first
    | (refine seq_skip (by simp only [List.getElem?_toArray, List.getElem?_cons_succ, List.getElem?_cons_zero]; rfl) (by rfl) ?_)
    | (refine seq_do (by simp only [List.getElem?_toArray, List.getElem?_cons_succ, List.getElem?_cons_zero]; rfl) (by rfl) (fun K hK => ?_); go_wp2_with (first | (go_at_call 8; refine (HW.out _).mono ?_; rintro e w1 ⟨rfl, hb1⟩; have hB1 : Below w.heap.size w w1 := (by first | exact hB1.trans (hb1.mono hB1.size) | exact Below.trans (by go_grown) (hb1.mono (by simp <;> omega))); obtain ⟨hr1, hr2⟩ := HR.out _ hB1) | (go_at_call 12; (first | (with_reducible refine (HO1.out _).mono ?_) | (with_reducible refine (HO2.out _).mono ?_)); rintro e w1 ⟨rfl, hb1⟩; have hB1 : Below w.heap.size w w1 := (by first | exact hB1.trans (hb1.mono hB1.size) | exact Below.trans (by go_grown) (hb1.mono (by simp <;> omega))); obtain ⟨hr1, hr2⟩ := HR.out _ hB1) | (go_at_call 13; refine (repeat_any b hb _).mono ?_; rintro e w1 ⟨rfl, rfl⟩) | (go_at_call 14; refine (unfold_any m hm _).mono ?_; simp only [byteL]; rintro e w1 ⟨rfl, hb1⟩; have hB1 : Below w.heap.size w w1 := (by first | exact hB1.trans (hb1.mono hB1.size) | exact Below.trans (by go_grown) (hb1.mono (by simp <;> omega))); obtain ⟨hr1, hr2⟩ := HR.out _ hB1) | (go_at_call 11; refine (refLanes_any m hm _).mono ?_; simp only [byteL]; rintro e w1 ⟨rfl, hb1⟩; have hB1 : Below w.heap.size w w1 := (by first | exact hB1.trans (hb1.mono hB1.size) | exact Below.trans (by go_grown) (hb1.mono (by simp <;> omega))); obtain ⟨hr1, hr2⟩ := HR.out _ hB1)); refine hK.out _ _ (by first | (with_reducible exact Chg.refl _ _) | (with_reducible assumption) | (refine Chg.of_below ?_; with_reducible assumption) | (with_reducible exact (Chg.refl _ _).alloc _) | (with_reducible exact (Chg.refl _ _).drewN _) | (with_reducible exact (Chg.refl _ _).drew) | exact ⟨rfl, rfl, rfl, Nat.le_refl _, fun _ _ _ => rfl⟩) ?_; clear hK K)
  try simp only [Act.put, List.setIfInBounds_toArray, List.set_cons_zero, List.set_cons_succ]
  first
    | (refine seq_skip (by simp only [List.getElem?_toArray, List.getElem?_cons_succ, List.getElem?_cons_zero]; rfl) (by rfl) ?_)
    | (refine seq_last (by simp only [List.getElem?_toArray, List.getElem?_cons_succ, List.getElem?_cons_zero]; rfl) (by rfl) (fun K hK => ?_); go_wp2_with (first | (go_at_call 8; refine (HW.out _).mono ?_; rintro e w1 ⟨rfl, hb1⟩; have hB1 : Below w.heap.size w w1 := (by first | exact hB1.trans (hb1.mono hB1.size) | exact Below.trans (by go_grown) (hb1.mono (by simp <;> omega))); obtain ⟨hr1, hr2⟩ := HR.out _ hB1) | (go_at_call 12; (first | (with_reducible refine (HO1.out _).mono ?_) | (with_reducible refine (HO2.out _).mono ?_)); rintro e w1 ⟨rfl, hb1⟩; have hB1 : Below w.heap.size w w1 := (by first | exact hB1.trans (hb1.mono hB1.size) | exact Below.trans (by go_grown) (hb1.mono (by simp <;> omega))); obtain ⟨hr1, hr2⟩ := HR.out _ hB1) | (go_at_call 13; refine (repeat_any b hb _).mono ?_; rintro e w1 ⟨rfl, rfl⟩) | (go_at_call 14; refine (unfold_any m hm _).mono ?_; simp only [byteL]; rintro e w1 ⟨rfl, hb1⟩; have hB1 : Below w.heap.size w w1 := (by first | exact hB1.trans (hb1.mono hB1.size) | exact Below.trans (by go_grown) (hb1.mono (by simp <;> omega))); obtain ⟨hr1, hr2⟩ := HR.out _ hB1) | (go_at_call 11; refine (refLanes_any m hm _).mono ?_; simp only [byteL]; rintro e w1 ⟨rfl, hb1⟩; have hB1 : Below w.heap.size w w1 := (by first | exact hB1.trans (hb1.mono hB1.size) | exact Below.trans (by go_grown) (hb1.mono (by simp <;> omega))); obtain ⟨hr1, hr2⟩ := HR.out _ hB1)); refine hK.out _ _ ?_; clear hK K)
  try simp only [Act.put, List.setIfInBounds_toArray, List.set_cons_zero, List.set_cons_succ]
  first
    | (refine seq_skip (by simp only [List.getElem?_toArray, List.getElem?_cons_succ, List.getElem?_cons_zero]; rfl) (by rfl) ?_)
    | (refine seq_calc (by simp only [List.getElem?_toArray, List.getElem?_cons_succ, List.getElem?_cons_zero]; rfl) (by rfl) (fun u => by go_simp <;> with_reducible rfl) ?_)
  try simp only [Act.put, List.setIfInBounds_toArray, List.set_cons_zero, List.set_cons_succ]
  refine seq_calc (by simp only [List.getElem?_toArray, List.getElem?_cons_succ, List.getElem?_cons_zero]; rfl) (by rfl) (fun u => by go_simp <;> with_reducible rfl) ?_
  try simp only [Act.put, List.setIfInBounds_toArray, List.set_cons_zero, List.set_cons_succ]
  refine seq_calc (by simp only [List.getElem?_toArray, List.getElem?_cons_succ, List.getElem?_cons_zero]; rfl) (by rfl) (fun u => by go_simp <;> with_reducible rfl) ?_
  try simp only [Act.put, List.setIfInBounds_toArray, List.set_cons_zero, List.set_cons_succ]
  first
    | (refine seq_skip (by simp only [List.getElem?_toArray, List.getElem?_cons_succ, List.getElem?_cons_zero]; rfl) (by rfl) ?_)
    | (refine seq_calc (by simp only [List.getElem?_toArray, List.getElem?_cons_succ, List.getElem?_cons_zero]; rfl) (by rfl) (fun u => by go_simp <;> with_reducible rfl) ?_)
  try simp only [Act.put, List.setIfInBounds_toArray, List.set_cons_zero, List.set_cons_succ]
  first
    | (refine seq_skip (by simp only [List.getElem?_toArray, List.getElem?_cons_succ, List.getElem?_cons_zero]; rfl) (by rfl) ?_)
    | (refine seq_calc (by simp only [List.getElem?_toArray, List.getElem?_cons_succ, List.getElem?_cons_zero]; rfl) (by rfl) (fun u => by go_simp <;> with_reducible rfl) ?_)
  try simp only [Act.put, List.setIfInBounds_toArray, List.set_cons_zero, List.set_cons_succ]
  first
    | (refine seq_skip (by simp only [List.getElem?_toArray, List.getElem?_cons_succ, List.getElem?_cons_zero]; rfl) (by rfl) ?_)
    | (refine seq_last (by simp only [List.getElem?_toArray, List.getElem?_cons_succ, List.getElem?_cons_zero]; rfl) (by rfl) (fun K hK => ?_); go_wp2_with (first | (go_at_call 8; refine (HW.out _).mono ?_; rintro e w1 ⟨rfl, hb1⟩; have hB1 : Below w.heap.size w w1 := (by first | exact hB1.trans (hb1.mono hB1.size) | exact Below.trans (by go_grown) (hb1.mono (by simp <;> omega))); obtain ⟨hr1, hr2⟩ := HR.out _ hB1) | (go_at_call 12; (first | (with_reducible refine (HO1.out _).mono ?_) | (with_reducible refine (HO2.out _).mono ?_)); rintro e w1 ⟨rfl, hb1⟩; have hB1 : Below w.heap.size w w1 := (by first | exact hB1.trans (hb1.mono hB1.size) | exact Below.trans (by go_grown) (hb1.mono (by simp <;> omega))); obtain ⟨hr1, hr2⟩ := HR.out _ hB1) | (go_at_call 13; refine (repeat_any b hb _).mono ?_; rintro e w1 ⟨rfl, rfl⟩) | (go_at_call 14; refine (unfold_any m hm _).mono ?_; simp only [byteL]; rintro e w1 ⟨rfl, hb1⟩; have hB1 : Below w.heap.size w w1 := (by first | exact hB1.trans (hb1.mono hB1.size) | exact Below.trans (by go_grown) (hb1.mono (by simp <;> omega))); obtain ⟨hr1, hr2⟩ := HR.out _ hB1) | (go_at_call 11; refine (refLanes_any m hm _).mono ?_; simp only [byteL]; rintro e w1 ⟨rfl, hb1⟩; have hB1 : Below w.heap.size w w1 := (by first | exact hB1.trans (hb1.mono hB1.size) | exact Below.trans (by go_grown) (hb1.mono (by simp <;> omega))); obtain ⟨hr1, hr2⟩ := HR.out _ hB1)); refine hK.out _ _ ?_; clear hK K)
  try simp only [Act.put, List.setIfInBounds_toArray, List.set_cons_zero, List.set_cons_succ]
  first
    | (refine seq_skip (by simp only [List.getElem?_toArray, List.getElem?_cons_succ, List.getElem?_cons_zero]; rfl) (by rfl) ?_)
    | (refine seq_last (by simp only [List.getElem?_toArray, List.getElem?_cons_succ, List.getElem?_cons_zero]; rfl) (by rfl) (fun K hK => ?_); go_wp2_with (first | (go_at_call 8; refine (HW.out _).mono ?_; rintro e w1 ⟨rfl, hb1⟩; have hB1 : Below w.heap.size w w1 := (by first | exact hB1.trans (hb1.mono hB1.size) | exact Below.trans (by go_grown) (hb1.mono (by simp <;> omega))); obtain ⟨hr1, hr2⟩ := HR.out _ hB1) | (go_at_call 12; (first | (with_reducible refine (HO1.out _).mono ?_) | (with_reducible refine (HO2.out _).mono ?_)); rintro e w1 ⟨rfl, hb1⟩; have hB1 : Below w.heap.size w w1 := (by first | exact hB1.trans (hb1.mono hB1.size) | exact Below.trans (by go_grown) (hb1.mono (by simp <;> omega))); obtain ⟨hr1, hr2⟩ := HR.out _ hB1) | (go_at_call 13; refine (repeat_any b hb _).mono ?_; rintro e w1 ⟨rfl, rfl⟩) | (go_at_call 14; refine (unfold_any m hm _).mono ?_; simp only [byteL]; rintro e w1 ⟨rfl, hb1⟩; have hB1 : Below w.heap.size w w1 := (by first | exact hB1.trans (hb1.mono hB1.size) | exact Below.trans (by go_grown) (hb1.mono (by simp <;> omega))); obtain ⟨hr1, hr2⟩ := HR.out _ hB1) | (go_at_call 11; refine (refLanes_any m hm _).mono ?_; simp only [byteL]; rintro e w1 ⟨rfl, hb1⟩; have hB1 : Below w.heap.size w w1 := (by first | exact hB1.trans (hb1.mono hB1.size) | exact Below.trans (by go_grown) (hb1.mono (by simp <;> omega))); obtain ⟨hr1, hr2⟩ := HR.out _ hB1)); refine hK.out _ _ ?_; clear hK K)
  try simp only [Act.put, List.setIfInBounds_toArray, List.set_cons_zero, List.set_cons_succ]
  first
    | (refine seq_skip (by simp only [List.getElem?_toArray, List.getElem?_cons_succ, List.getElem?_cons_zero]; rfl) (by rfl) ?_)
    | (refine seq_calc (by simp only [List.getElem?_toArray, List.getElem?_cons_succ, List.getElem?_cons_zero]; rfl) (by rfl) (fun u => by go_simp <;> with_reducible rfl) ?_)
  try simp only [Act.put, List.setIfInBounds_toArray, List.set_cons_zero, List.set_cons_succ]
  refine seq_calc (by simp only [List.getElem?_toArray, List.getElem?_cons_succ, List.getElem?_cons_zero]; rfl) (by rfl) (fun u => by go_simp <;> with_reducible rfl) ?_
  try simp only [Act.put, List.setIfInBounds_toArray, List.set_cons_zero, List.set_cons_succ]
  refine seq_calc (by simp only [List.getElem?_toArray, List.getElem?_cons_succ, List.getElem?_cons_zero]; rfl) (by rfl) (fun u => by go_simp <;> with_reducible rfl) ?_
  try simp only [Act.put, List.setIfInBounds_toArray, List.set_cons_zero, List.set_cons_succ]
  refine seq_nil ?_
  go_wp2
  go_ret
  exact ⟨by rfl, hBw.out.trans (hB1.mono hBw.out.size)⟩
set_option maxRecDepth 100000 in
set_option maxHeartbeats 4000000 in
theorem swarLanes_high (m b : Nat) (i : Int) (hm : m < 18446744073709551616) (h : 8 ≤ i) (hb : b < 256) (w0 : World) (hT : Tab64 w0) :
    Calls Tryd.prog 4 #[.int .u64 (m : Int), .int .i64 i, .int .u8 (b : Int)] w0 fun e w' => e = .returned (.bool true) ∧ Below w0.heap.size w0 w' := by
  have hi : i < 0 ∨ 8 ≤ i := .inr h
  have HA := alive01_any w0 hT
  replace HA := Lib.hid HA
  clear hT
  have LN := Lib.hid (fun w => lane_out m i hi w)
  have hd : decide (0 ≤ i) = true := by simp; omega
  have hd' : decide (i < 8) = false := by simp; omega
  replace hi := Lib.hid hi
  go_enter Tryd.func4, Tryd.ntmps4
  go_upto_region 4 with (first | (go_at_call 7; refine HA.out.mono ?_; rintro e w' ⟨rfl, rfl⟩) | (go_at_call 11; refine (refLanes_any m hm _).mono ?_; simp only [byteL]; rintro e w1 ⟨rfl, hb1⟩))
  refine wp_at (fun W hW => ?_)
  have p1 : Blk W w1.heap.size 32 (byteL (ln m)).toArray := by rw [hW]; exact Blk.new_at rfl
  have q1 : Below w0.heap.size w0 W := by rw [hW]; exact hb1.alloc hb1.size _
  clear hW
  have hsz := q1.size
  have hB := hb1.size
  obtain ⟨B, hBe⟩ : ∃ B, B = w1.heap.size := ⟨_, rfl⟩
  rw [← hBe] at p1 hB ⊢
  have P1 := Lib.hid p1
  have Q1 := Lib.hid q1
  clear p1 q1 hb1 hBe
  go_wp2_with (go_at_call 9; refine (LN.out _).mono ?_; rintro e w' ⟨rfl, rfl⟩)
  refine wp_at (fun w hW => ?_)
  have p2 : Blk w B 32 (byteL (ln m)).toArray := by rw [hW]; exact P1.out.alloc _
  have p3 : Blk w W.heap.size 32 (byteL (fun _ => b)).toArray := by rw [hW]; exact Blk.new_at rfl
  have hBw : Below w0.heap.size w0 w := by rw [hW]; exact Q1.out.alloc (by omega) _
  clear hW
  obtain ⟨l, hl⟩ : ∃ l : Nat → Nat, l = ln m := ⟨_, rfl⟩
  obtain ⟨l', hl'⟩ : ∃ l : Nat → Nat, l = fun k => b := ⟨_, rfl⟩
  have e1 : ofL l = m := by rw [hl]; exact ofL_ln m hm
  have e2 : ofL l' = rep b := by rw [hl']; exact (rep_ofL b).symm
  have hlb : ∀ k, k < 8 → l k < 256 := by rw [hl]; exact fun k _ => ln_lt m k
  have hlb' : ∀ k, k < 8 → l' k < 256 := by rw [hl']; exact fun _ _ => hb
  rw [← hl] at p2
  rw [← hl'] at p3
  clear hl hl'
  have HW := Lib.hid (fun w => (with_out m b i hi.out w).mono fun e w' (h : e = _ ∧ w = w') => (⟨h.1, h.2 ▸ Below.refl _ _⟩ : e = .returned (.int .u64 (m : Int)) ∧ Below w.heap.size w w'))
  have HR0 := fun (w' : World) (h : Below w.heap.size w w') => (⟨(p2.below h p2.lt).whole, (p3.below h p3.lt).whole⟩ : w'.rangeAt B 0 (byteL l) ∧ w'.rangeAt W.heap.size 0 (byteL l'))
  have HO1 := word_any l hlb
  have HO2 := word_any l' hlb'
  have HE := eq_bytes (ln m) (ln m)
  simp only [decide_true] at HE
  simp only [byteL] at HR0 HO1 HO2 HE
  rw [e1] at HO1
  rw [e2] at HO2
  have HR := Lib.hid HR0
  replace HO1 := Lib.hid HO1
  replace HO2 := Lib.hid HO2
  clear HR0 p2 p3 e1 e2 hlb hlb'
  obtain ⟨hr1, hr2⟩ := HR.out w.drew (Below.refl _ _).drew
  replace hBw := Lib.hid hBw
  refine wp_region_seq (fun _ => False) #[⟨0, 0, 35184372088832, 256, 0⟩, ⟨0, 0, 70368744177664, 1024, 0⟩, ⟨3, 3, 140737488355328, 105553116266496, 0⟩, ⟨4, 7, 281474976710656, 140737488355328, 0⟩, ⟨8, 15, 562949953421312, 281474976711168, 0⟩, ⟨8, 15, 1125899906842624, 281474976712704, 0⟩, ⟨56, 63, 2251799813685248, 1970324836974592, 0⟩, ⟨72, 127, 4503599627370496, 2533274790395904, 0⟩, ⟨136, 255, 9007199254740992, 4503599627370496, 0⟩, ⟨256, 511, 18014398509481984, 9007199254740993, 0⟩, ⟨256, 511, 36028797018963968, 9007199254740994, 0⟩, ⟨256, 511, 72057594037927936, 9007199254740996, 0⟩, ⟨3840, 4095, 144115188075855872, 135107988821114880, 2⟩, ⟨256, 511, 288230376151711744, 9007199254741120, 1⟩, ⟨12544, 16383, 576460752303423488, 297237575406452736, 2⟩, ⟨20736, 32767, 1152921504606846976, 729583139634020352, 0⟩, ⟨33024, 65535, 2305843009213693952, 1161928703861587968, 0⟩, ⟨81920, 131071, 4611686018427387904, 2305843009213693952, 0⟩, ⟨131072, 262143, 9223372036854775808, 4611686018427387908, 0⟩, ⟨393216, 524287, 18446744073709551616, 13835058055282163712, 2⟩, ⟨131072, 262143, 36893488147419103232, 4611686018427392000, 1⟩, ⟨1703936, 2097151, 73786976294838206464, 41505174165846491136, 3⟩, ⟨2752512, 4194303, 147573952589676412928, 96845406386975145984, 0⟩, ⟨4325376, 8388607, 295147905179352825856, 152185638608103800832, 0⟩, ⟨10485760, 16777215, 590295810358705651712, 295147905179352825856, 0⟩, ⟨16777216, 33554431, 1180591620717411303424, 590295810358705651713, 0⟩, ⟨50331648, 67108863, 2361183241434822606848, 1770887431076116955136, 3⟩, ⟨16777216, 33554431, 4722366482869645213696, 590295810358705651713, 0⟩, ⟨218103808, 268435455, 9444732965739290427392, 5312662293228350865408, 3⟩, ⟨352321536, 536870911, 18889465931478580854784, 12396212017532818685952, 0⟩, ⟨553648128, 1073741823, 37778931862957161709568, 19479761741837286506496, 0⟩, ⟨2147483647, 2147483647, 64, 37778931862957161709568, 0⟩] 1056768 [(0, 0), (1, 0), (2, 0), (3, 0), (4, 0), (5, 0), (6, 0), (7, 0), (8, 0), (9, 0), (10, 0), (11, 0), (13, 1), (12, 2), (14, 2), (15, 0), (16, 0), (17, 0), (18, 0), (20, 1), (19, 2), (21, 3), (22, 0), (23, 0), (24, 0), (25, 0), (27, 0), (26, 3), (28, 3), (29, 0), (30, 0), (31, 0)] (by kernel_rfl) (by kernel_rfl) (by kernel_rfl) (by kernel_rfl) (by kernel_rfl) (by kernel_rfl) (fun c a d v w h => by cases d <;> exact h) ?_
  refine seq_calc (by simp only [List.getElem?_toArray, List.getElem?_cons_succ, List.getElem?_cons_zero]; rfl) (by rfl) (fun u => by go_simp <;> with_reducible rfl) ?_
  try simp only [Act.put, List.setIfInBounds_toArray, List.set_cons_zero, List.set_cons_succ]
  refine seq_calc (by simp only [List.getElem?_toArray, List.getElem?_cons_succ, List.getElem?_cons_zero]; rfl) (by rfl) (fun u => by go_simp <;> with_reducible rfl) ?_
  try simp only [Act.put, List.setIfInBounds_toArray, List.set_cons_zero, List.set_cons_succ]
  refine seq_calc (by simp only [List.getElem?_toArray, List.getElem?_cons_succ, List.getElem?_cons_zero]; rfl) (by rfl) (fun u => by go_simp <;> with_reducible rfl) ?_
  try simp only [Act.put, List.setIfInBounds_toArray, List.set_cons_zero, List.set_cons_succ]
  refine seq_calc (by simp only [List.getElem?_toArray, List.getElem?_cons_succ, List.getElem?_cons_zero]; rfl) (by rfl) (fun u => by go_simp <;> with_reducible rfl) ?_
  try simp only [Act.put, List.setIfInBounds_toArray, List.set_cons_zero, List.set_cons_succ]
  first
    | (refine seq_skip (by simp only [List.getElem?_toArray, List.getElem?_cons_succ, List.getElem?_cons_zero]; rfl) (by rfl) ?_)
    | (refine seq_calc (by simp only [List.getElem?_toArray, List.getElem?_cons_succ, List.getElem?_cons_zero]; rfl) (by rfl) (fun u => by go_simp <;> with_reducible rfl) ?_)
  try simp only [Act.put, List.setIfInBounds_toArray, List.set_cons_zero, List.set_cons_succ]
  first
    | (refine seq_skip (by simp only [List.getElem?_toArray, List.getElem?_cons_succ, List.getElem?_cons_zero]; rfl) (by rfl) ?_)
    | (refine seq_calc (by simp only [List.getElem?_toArray, List.getElem?_cons_succ, List.getElem?_cons_zero]; rfl) (by rfl) (fun u => by go_simp <;> with_reducible rfl) ?_)
  try simp only [Act.put, List.setIfInBounds_toArray, List.set_cons_zero, List.set_cons_succ]
  first
    | (refine seq_skip (by simp only [List.getElem?_toArray, List.getElem?_cons_succ, List.getElem?_cons_zero]; rfl) (by rfl) ?_)
    | (refine seq_calc (by simp only [List.getElem?_toArray, List.getElem?_cons_succ, List.getElem?_cons_zero]; rfl) (by rfl) (fun u => by go_simp <;> with_reducible rfl) ?_)
  try simp only [Act.put, List.setIfInBounds_toArray, List.set_cons_zero, List.set_cons_succ]
  refine seq_calc (by simp only [List.getElem?_toArray, List.getElem?_cons_succ, List.getElem?_cons_zero]; rfl) (by rfl) (fun u => by go_simp <;> with_reducible rfl) ?_
  try simp only [Act.put, List.setIfInBounds_toArray, List.set_cons_zero, List.set_cons_succ]
  refine seq_calc (by simp only [List.getElem?_toArray, List.getElem?_cons_succ, List.getElem?_cons_zero]; rfl) (by rfl) (fun u => by go_simp <;> with_reducible rfl) ?_
  try simp only [Act.put, List.setIfInBounds_toArray, List.set_cons_zero, List.set_cons_succ]
  first
    | (refine seq_skip (by simp only [List.getElem?_toArray, List.getElem?_cons_succ, List.getElem?_cons_zero]; rfl) (by rfl) ?_)
    | (refine seq_calc (by simp only [List.getElem?_toArray, List.getElem?_cons_succ, List.getElem?_cons_zero]; rfl) (by rfl) (fun u => by go_simp <;> with_reducible rfl) ?_)
  try simp only [Act.put, List.setIfInBounds_toArray, List.set_cons_zero, List.set_cons_succ]
  first
    | (refine seq_skip (by simp only [List.getElem?_toArray, List.getElem?_cons_succ, List.getElem?_cons_zero]; rfl) (by rfl) ?_)
    | (refine seq_calc (by simp only [List.getElem?_toArray, List.getElem?_cons_succ, List.getElem?_cons_zero]; rfl) (by rfl) (fun u => by go_simp <;> with_reducible rfl) ?_)
  try simp only [Act.put, List.setIfInBounds_toArray, List.set_cons_zero, List.set_cons_succ]
  first
    | (refine seq_skip (by simp only [List.getElem?_toArray, List.getElem?_cons_succ, List.getElem?_cons_zero]; rfl) (by rfl) ?_)
    | (refine seq_calc (by simp only [List.getElem?_toArray, List.getElem?_cons_succ, List.getElem?_cons_zero]; rfl) (by rfl) (fun u => by go_simp <;> with_reducible rfl) ?_)
  try simp only [Act.put, List.setIfInBounds_toArray, List.set_cons_zero, List.set_cons_succ]
  first
    | (refine seq_skip (by simp only [List.getElem?_toArray, List.getElem?_cons_succ, List.getElem?_cons_zero]; rfl) (by rfl) ?_)
    | (refine seq_loads [_, _, _, _, _, _, _, _] (by simp only [List.getElem?_toArray, List.getElem?_cons_succ, List.getElem?_cons_zero]; rfl) (by rfl) rfl rfl Tryd.underlying32 rfl (by kernel_rfl) (by first | (with_reducible assumption) | (refine cellsAre_range ?_; simp only [cellsAre]; (repeat' (first | exact True.intro | apply And.intro)); all_goals (go_simp <;> with_reducible rfl))) (by first | exact id | assumption | (simp; done) | (simp; omega)) ?_)
  try simp only [Act.put, List.setIfInBounds_toArray, List.set_cons_zero, List.set_cons_succ]
  first
    | (refine seq_skip (by simp only [List.getElem?_toArray, List.getElem?_cons_succ, List.getElem?_cons_zero]; rfl) (by rfl) ?_)
    | (refine seq_do (by simp only [List.getElem?_toArray, List.getElem?_cons_succ, List.getElem?_cons_zero]; rfl) (by rfl) (fun K hK => ?_); go_wp2_with (first | (go_at_call 8; refine (HW.out _).mono ?_; rintro e w1 ⟨rfl, hb1⟩; have hB1 : Below w.heap.size w w1 := (by first | exact hB1.trans (hb1.mono hB1.size) | exact Below.trans (by go_grown) (hb1.mono (by simp <;> omega))); obtain ⟨hr1, hr2⟩ := HR.out _ hB1) | (go_at_call 12; (first | (with_reducible refine (HO1.out _).mono ?_) | (with_reducible refine (HO2.out _).mono ?_)); rintro e w1 ⟨rfl, hb1⟩; have hB1 : Below w.heap.size w w1 := (by first | exact hB1.trans (hb1.mono hB1.size) | exact Below.trans (by go_grown) (hb1.mono (by simp <;> omega))); obtain ⟨hr1, hr2⟩ := HR.out _ hB1) | (go_at_call 13; refine (repeat_any b hb _).mono ?_; rintro e w1 ⟨rfl, rfl⟩) | (go_at_call 14; refine (unfold_any m hm _).mono ?_; simp only [byteL]; rintro e w1 ⟨rfl, hb1⟩; have hB1 : Below w.heap.size w w1 := (by first | exact hB1.trans (hb1.mono hB1.size) | exact Below.trans (by go_grown) (hb1.mono (by simp <;> omega))); obtain ⟨hr1, hr2⟩ := HR.out _ hB1) | (go_at_call 11; refine (refLanes_any m hm _).mono ?_; simp only [byteL]; rintro e w1 ⟨rfl, hb1⟩; have hB1 : Below w.heap.size w w1 := (by first | exact hB1.trans (hb1.mono hB1.size) | exact Below.trans (by go_grown) (hb1.mono (by simp <;> omega))); obtain ⟨hr1, hr2⟩ := HR.out _ hB1)); refine hK.out _ _ (by first | (with_reducible exact Chg.refl _ _) | (with_reducible assumption) | (refine Chg.of_below ?_; with_reducible assumption) | (with_reducible exact (Chg.refl _ _).alloc _) | (with_reducible exact (Chg.refl _ _).drewN _) | (with_reducible exact (Chg.refl _ _).drew) | exact ⟨rfl, rfl, rfl, Nat.le_refl _, fun _ _ _ => rfl⟩) ?_; clear hK K)
  try simp only [Act.put, List.setIfInBounds_toArray, List.set_cons_zero, List.set_cons_succ]
  first
    | (refine seq_skip (by simp only [List.getElem?_toArray, List.getElem?_cons_succ, List.getElem?_cons_zero]; rfl) (by rfl) ?_)
    | (refine seq_do (by simp only [List.getElem?_toArray, List.getElem?_cons_succ, List.getElem?_cons_zero]; rfl) (by rfl) (fun K hK => ?_); go_wp2_with (first | (go_at_call 8; refine (HW.out _).mono ?_; rintro e w1 ⟨rfl, hb1⟩; have hB1 : Below w.heap.size w w1 := (by first | exact hB1.trans (hb1.mono hB1.size) | exact Below.trans (by go_grown) (hb1.mono (by simp <;> omega))); obtain ⟨hr1, hr2⟩ := HR.out _ hB1) | (go_at_call 12; (first | (with_reducible refine (HO1.out _).mono ?_) | (with_reducible refine (HO2.out _).mono ?_)); rintro e w1 ⟨rfl, hb1⟩; have hB1 : Below w.heap.size w w1 := (by first | exact hB1.trans (hb1.mono hB1.size) | exact Below.trans (by go_grown) (hb1.mono (by simp <;> omega))); obtain ⟨hr1, hr2⟩ := HR.out _ hB1) | (go_at_call 13; refine (repeat_any b hb _).mono ?_; rintro e w1 ⟨rfl, rfl⟩) | (go_at_call 14; refine (unfold_any m hm _).mono ?_; simp only [byteL]; rintro e w1 ⟨rfl, hb1⟩; have hB1 : Below w.heap.size w w1 := (by first | exact hB1.trans (hb1.mono hB1.size) | exact Below.trans (by go_grown) (hb1.mono (by simp <;> omega))); obtain ⟨hr1, hr2⟩ := HR.out _ hB1) | (go_at_call 11; refine (refLanes_any m hm _).mono ?_; simp only [byteL]; rintro e w1 ⟨rfl, hb1⟩; have hB1 : Below w.heap.size w w1 := (by first | exact hB1.trans (hb1.mono hB1.size) | exact Below.trans (by go_grown) (hb1.mono (by simp <;> omega))); obtain ⟨hr1, hr2⟩ := HR.out _ hB1)); refine hK.out _ _ (by first | (with_reducible exact Chg.refl _ _) | (with_reducible assumption) | (refine Chg.of_below ?_; with_reducible assumption) | (with_reducible exact (Chg.refl _ _).alloc _) | (with_reducible exact (Chg.refl _ _).drewN _) | (with_reducible exact (Chg.refl _ _).drew) | exact ⟨rfl, rfl, rfl, Nat.le_refl _, fun _ _ _ => rfl⟩) ?_; clear hK K)
  try simp only [Act.put, List.setIfInBounds_toArray, List.set_cons_zero, List.set_cons_succ]
  first
    | (refine seq_skip (by simp only [List.getElem?_toArray, List.getElem?_cons_succ, List.getElem?_cons_zero]; rfl) (by rfl) ?_)
    | (refine seq_calc (by simp only [List.getElem?_toArray, List.getElem?_cons_succ, List.getElem?_cons_zero]; rfl) (by rfl) (fun u => by go_simp <;> with_reducible rfl) ?_)
  try simp only [Act.put, List.setIfInBounds_toArray, List.set_cons_zero, List.set_cons_succ]
  refine seq_calc (by simp only [List.getElem?_toArray, List.getElem?_cons_succ, List.getElem?_cons_zero]; rfl) (by rfl) (fun u => by go_simp <;> with_reducible rfl) ?_
  try simp only [Act.put, List.setIfInBounds_toArray, List.set_cons_zero, List.set_cons_succ]
  refine seq_calc (by simp only [List.getElem?_toArray, List.getElem?_cons_succ, List.getElem?_cons_zero]; rfl) (by rfl) (fun u => by go_simp <;> with_reducible rfl) ?_
  try simp only [Act.put, List.setIfInBounds_toArray, List.set_cons_zero, List.set_cons_succ]
  first
    | (refine seq_skip (by simp only [List.getElem?_toArray, List.getElem?_cons_succ, List.getElem?_cons_zero]; rfl) (by rfl) ?_)
    | (refine seq_calc (by simp only [List.getElem?_toArray, List.getElem?_cons_succ, List.getElem?_cons_zero]; rfl) (by rfl) (fun u => by go_simp <;> with_reducible rfl) ?_)
  try simp only [Act.put, List.setIfInBounds_toArray, List.set_cons_zero, List.set_cons_succ]
  first
    | (refine seq_skip (by simp only [List.getElem?_toArray, List.getElem?_cons_succ, List.getElem?_cons_zero]; rfl) (by rfl) ?_)
    | (refine seq_loads [_, _, _, _, _, _, _, _] (by simp only [List.getElem?_toArray, List.getElem?_cons_succ, List.getElem?_cons_zero]; rfl) (by rfl) rfl rfl Tryd.underlying32 rfl (by kernel_rfl) (by first | (with_reducible assumption) | (refine cellsAre_range ?_; simp only [cellsAre]; (repeat' (first | exact True.intro | apply And.intro)); all_goals (go_simp <;> with_reducible rfl))) (by first | exact id | assumption | (simp; done) | (simp; omega)) ?_)
  try simp only [Act.put, List.setIfInBounds_toArray, List.set_cons_zero, List.set_cons_succ]
  first
    | (refine seq_skip (by simp only [List.getElem?_toArray, List.getElem?_cons_succ, List.getElem?_cons_zero]; rfl) (by rfl) ?_)
    | (refine seq_do (by simp only [List.getElem?_toArray, List.getElem?_cons_succ, List.getElem?_cons_zero]; rfl) (by rfl) (fun K hK => ?_); go_wp2_with (first | (go_at_call 8; refine (HW.out _).mono ?_; rintro e w1 ⟨rfl, hb1⟩; have hB1 : Below w.heap.size w w1 := (by first | exact hB1.trans (hb1.mono hB1.size) | exact Below.trans (by go_grown) (hb1.mono (by simp <;> omega))); obtain ⟨hr1, hr2⟩ := HR.out _ hB1) | (go_at_call 12; (first | (with_reducible refine (HO1.out _).mono ?_) | (with_reducible refine (HO2.out _).mono ?_)); rintro e w1 ⟨rfl, hb1⟩; have hB1 : Below w.heap.size w w1 := (by first | exact hB1.trans (hb1.mono hB1.size) | exact Below.trans (by go_grown) (hb1.mono (by simp <;> omega))); obtain ⟨hr1, hr2⟩ := HR.out _ hB1) | (go_at_call 13; refine (repeat_any b hb _).mono ?_; rintro e w1 ⟨rfl, rfl⟩) | (go_at_call 14; refine (unfold_any m hm _).mono ?_; simp only [byteL]; rintro e w1 ⟨rfl, hb1⟩; have hB1 : Below w.heap.size w w1 := (by first | exact hB1.trans (hb1.mono hB1.size) | exact Below.trans (by go_grown) (hb1.mono (by simp <;> omega))); obtain ⟨hr1, hr2⟩ := HR.out _ hB1) | (go_at_call 11; refine (refLanes_any m hm _).mono ?_; simp only [byteL]; rintro e w1 ⟨rfl, hb1⟩; have hB1 : Below w.heap.size w w1 := (by first | exact hB1.trans (hb1.mono hB1.size) | exact Below.trans (by go_grown) (hb1.mono (by simp <;> omega))); obtain ⟨hr1, hr2⟩ := HR.out _ hB1)); refine hK.out _ _ (by first | (with_reducible exact Chg.refl _ _) | (with_reducible assumption) | (refine Chg.of_below ?_; with_reducible assumption) | (with_reducible exact (Chg.refl _ _).alloc _) | (with_reducible exact (Chg.refl _ _).drewN _) | (with_reducible exact (Chg.refl _ _).drew) | exact ⟨rfl, rfl, rfl, Nat.le_refl _, fun _ _ _ => rfl⟩) ?_; clear hK K)
  try simp only [Act.put, List.setIfInBounds_toArray, List.set_cons_zero, List.set_cons_succ]
  first
    | (refine seq_skip (by simp only [List.getElem?_toArray, List.getElem?_cons_succ, List.getElem?_cons_zero]; rfl) (by rfl) ?_)
    | (refine seq_last (by simp only [List.getElem?_toArray, List.getElem?_cons_succ, List.getElem?_cons_zero]; rfl) (by rfl) (fun K hK => ?_); go_wp2_with (first | (go_at_call 8; refine (HW.out _).mono ?_; rintro e w1 ⟨rfl, hb1⟩; have hB1 : Below w.heap.size w w1 := (by first | exact hB1.trans (hb1.mono hB1.size) | exact Below.trans (by go_grown) (hb1.mono (by simp <;> omega))); obtain ⟨hr1, hr2⟩ := HR.out _ hB1) | (go_at_call 12; (first | (with_reducible refine (HO1.out _).mono ?_) | (with_reducible refine (HO2.out _).mono ?_)); rintro e w1 ⟨rfl, hb1⟩; have hB1 : Below w.heap.size w w1 := (by first | exact hB1.trans (hb1.mono hB1.size) | exact Below.trans (by go_grown) (hb1.mono (by simp <;> omega))); obtain ⟨hr1, hr2⟩ := HR.out _ hB1) | (go_at_call 13; refine (repeat_any b hb _).mono ?_; rintro e w1 ⟨rfl, rfl⟩) | (go_at_call 14; refine (unfold_any m hm _).mono ?_; simp only [byteL]; rintro e w1 ⟨rfl, hb1⟩; have hB1 : Below w.heap.size w w1 := (by first | exact hB1.trans (hb1.mono hB1.size) | exact Below.trans (by go_grown) (hb1.mono (by simp <;> omega))); obtain ⟨hr1, hr2⟩ := HR.out _ hB1) | (go_at_call 11; refine (refLanes_any m hm _).mono ?_; simp only [byteL]; rintro e w1 ⟨rfl, hb1⟩; have hB1 : Below w.heap.size w w1 := (by first | exact hB1.trans (hb1.mono hB1.size) | exact Below.trans (by go_grown) (hb1.mono (by simp <;> omega))); obtain ⟨hr1, hr2⟩ := HR.out _ hB1)); refine hK.out _ _ ?_; clear hK K)
  try simp only [Act.put, List.setIfInBounds_toArray, List.set_cons_zero, List.set_cons_succ]
  first
    | (refine seq_skip (by simp only [List.getElem?_toArray, List.getElem?_cons_succ, List.getElem?_cons_zero]; rfl) (by rfl) ?_)
    | (refine seq_calc (by simp only [List.getElem?_toArray, List.getElem?_cons_succ, List.getElem?_cons_zero]; rfl) (by rfl) (fun u => by go_simp <;> with_reducible rfl) ?_)
  try simp only [Act.put, List.setIfInBounds_toArray, List.set_cons_zero, List.set_cons_succ]
  refine seq_calc (by simp only [List.getElem?_toArray, List.getElem?_cons_succ, List.getElem?_cons_zero]; rfl) (by rfl) (fun u => by go_simp <;> with_reducible rfl) ?_
  try simp only [Act.put, List.setIfInBounds_toArray, List.set_cons_zero, List.set_cons_succ]
  refine seq_calc (by simp only [List.getElem?_toArray, List.getElem?_cons_succ, List.getElem?_cons_zero]; rfl) (by rfl) (fun u => by go_simp <;> with_reducible rfl) ?_
  try simp only [Act.put, List.setIfInBounds_toArray, List.set_cons_zero, List.set_cons_succ]
  first
    | (refine seq_skip (by simp only [List.getElem?_toArray, List.getElem?_cons_succ, List.getElem?_cons_zero]; rfl) (by rfl) ?_)
    | (refine seq_calc (by simp only [List.getElem?_toArray, List.getElem?_cons_succ, List.getElem?_cons_zero]; rfl) (by rfl) (fun u => by go_simp <;> with_reducible rfl) ?_)
  try simp only [Act.put, List.setIfInBounds_toArray, List.set_cons_zero, List.set_cons_succ]
  first
    | (refine seq_skip (by simp only [List.getElem?_toArray, List.getElem?_cons_succ, List.getElem?_cons_zero]; rfl) (by rfl) ?_)
    | (refine seq_calc (by simp only [List.getElem?_toArray, List.getElem?_cons_succ, List.getElem?_cons_zero]; rfl) (by rfl) (fun u => by go_simp <;> with_reducible rfl) ?_)
  try simp only [Act.put, List.setIfInBounds_toArray, List.set_cons_zero, List.set_cons_succ]
  first
    | (refine seq_skip (by simp only [List.getElem?_toArray, List.getElem?_cons_succ, List.getElem?_cons_zero]; rfl) (by rfl) ?_)
    | (refine seq_last (by simp only [List.getElem?_toArray, List.getElem?_cons_succ, List.getElem?_cons_zero]; rfl) (by rfl) (fun K hK => ?_); go_wp2_with (first | (go_at_call 8; refine (HW.out _).mono ?_; rintro e w1 ⟨rfl, hb1⟩; have hB1 : Below w.heap.size w w1 := (by first | exact hB1.trans (hb1.mono hB1.size) | exact Below.trans (by go_grown) (hb1.mono (by simp <;> omega))); obtain ⟨hr1, hr2⟩ := HR.out _ hB1) | (go_at_call 12; (first | (with_reducible refine (HO1.out _).mono ?_) | (with_reducible refine (HO2.out _).mono ?_)); rintro e w1 ⟨rfl, hb1⟩; have hB1 : Below w.heap.size w w1 := (by first | exact hB1.trans (hb1.mono hB1.size) | exact Below.trans (by go_grown) (hb1.mono (by simp <;> omega))); obtain ⟨hr1, hr2⟩ := HR.out _ hB1) | (go_at_call 13; refine (repeat_any b hb _).mono ?_; rintro e w1 ⟨rfl, rfl⟩) | (go_at_call 14; refine (unfold_any m hm _).mono ?_; simp only [byteL]; rintro e w1 ⟨rfl, hb1⟩; have hB1 : Below w.heap.size w w1 := (by first | exact hB1.trans (hb1.mono hB1.size) | exact Below.trans (by go_grown) (hb1.mono (by simp <;> omega))); obtain ⟨hr1, hr2⟩ := HR.out _ hB1) | (go_at_call 11; refine (refLanes_any m hm _).mono ?_; simp only [byteL]; rintro e w1 ⟨rfl, hb1⟩; have hB1 : Below w.heap.size w w1 := (by first | exact hB1.trans (hb1.mono hB1.size) | exact Below.trans (by go_grown) (hb1.mono (by simp <;> omega))); obtain ⟨hr1, hr2⟩ := HR.out _ hB1)); refine hK.out _ _ ?_; clear hK K)
  try simp only [Act.put, List.setIfInBounds_toArray, List.set_cons_zero, List.set_cons_succ]
  first
    | (refine seq_skip (by simp only [List.getElem?_toArray, List.getElem?_cons_succ, List.getElem?_cons_zero]; rfl) (by rfl) ?_)
    | (refine seq_last (by simp only [List.getElem?_toArray, List.getElem?_cons_succ, List.getElem?_cons_zero]; rfl) (by rfl) (fun K hK => ?_); go_wp2_with (first | (go_at_call 8; refine (HW.out _).mono ?_; rintro e w1 ⟨rfl, hb1⟩; have hB1 : Below w.heap.size w w1 := (by first | exact hB1.trans (hb1.mono hB1.size) | exact Below.trans (by go_grown) (hb1.mono (by simp <;> omega))); obtain ⟨hr1, hr2⟩ := HR.out _ hB1) | (go_at_call 12; (first | (with_reducible refine (HO1.out _).mono ?_) | (with_reducible refine (HO2.out _).mono ?_)); rintro e w1 ⟨rfl, hb1⟩; have hB1 : Below w.heap.size w w1 := (by first | exact hB1.trans (hb1.mono hB1.size) | exact Below.trans (by go_grown) (hb1.mono (by simp <;> omega))); obtain ⟨hr1, hr2⟩ := HR.out _ hB1) | (go_at_call 13; refine (repeat_any b hb _).mono ?_; rintro e w1 ⟨rfl, rfl⟩) | (go_at_call 14; refine (unfold_any m hm _).mono ?_; simp only [byteL]; rintro e w1 ⟨rfl, hb1⟩; have hB1 : Below w.heap.size w w1 := (by first | exact hB1.trans (hb1.mono hB1.size) | exact Below.trans (by go_grown) (hb1.mono (by simp <;> omega))); obtain ⟨hr1, hr2⟩ := HR.out _ hB1) | (go_at_call 11; refine (refLanes_any m hm _).mono ?_; simp only [byteL]; rintro e w1 ⟨rfl, hb1⟩; have hB1 : Below w.heap.size w w1 := (by first | exact hB1.trans (hb1.mono hB1.size) | exact Below.trans (by go_grown) (hb1.mono (by simp <;> omega))); obtain ⟨hr1, hr2⟩ := HR.out _ hB1)); refine hK.out _ _ ?_; clear hK K)
  try simp only [Act.put, List.setIfInBounds_toArray, List.set_cons_zero, List.set_cons_succ]
  first
    | (refine seq_skip (by simp only [List.getElem?_toArray, List.getElem?_cons_succ, List.getElem?_cons_zero]; rfl) (by rfl) ?_)
    | (refine seq_calc (by simp only [List.getElem?_toArray, List.getElem?_cons_succ, List.getElem?_cons_zero]; rfl) (by rfl) (fun u => by go_simp <;> with_reducible rfl) ?_)
  try simp only [Act.put, List.setIfInBounds_toArray, List.set_cons_zero, List.set_cons_succ]
  refine seq_calc (by simp only [List.getElem?_toArray, List.getElem?_cons_succ, List.getElem?_cons_zero]; rfl) (by rfl) (fun u => by go_simp <;> with_reducible rfl) ?_
  try simp only [Act.put, List.setIfInBounds_toArray, List.set_cons_zero, List.set_cons_succ]
  refine seq_calc (by simp only [List.getElem?_toArray, List.getElem?_cons_succ, List.getElem?_cons_zero]; rfl) (by rfl) (fun u => by go_simp <;> with_reducible rfl) ?_
  try simp only [Act.put, List.setIfInBounds_toArray, List.set_cons_zero, List.set_cons_succ]
  refine seq_nil ?_
  go_wp2
  go_ret
  exact ⟨by rfl, hBw.out.trans (hB1.mono hBw.out.size)⟩
theorem swarLanes_any (m b : Nat) (i : Int) (hm : m < 18446744073709551616) (hb : b < 256) (w0 : World) (hT : Tab64 w0) :
    Calls Tryd.prog 4 #[.int .u64 (m : Int), .int .i64 i, .int .u8 (b : Int)] w0 fun e w' => e = .returned (.bool true) ∧ Below w0.heap.size w0 w' := by
  by_cases h : i < 0
  · exact swarLanes_low m b i hm h hb w0 hT
  · by_cases h8 : 8 ≤ i
    · exact swarLanes_high m b i hm h8 hb w0 hT
    · obtain ⟨n, rfl⟩ := Int.eq_ofNat_of_zero_le (show 0 ≤ i by omega)
      exact swarLanes_in m n b hm (by omega) hb w0 hT
end Go.Proofs.YtfdeoblciichmaaDoor
