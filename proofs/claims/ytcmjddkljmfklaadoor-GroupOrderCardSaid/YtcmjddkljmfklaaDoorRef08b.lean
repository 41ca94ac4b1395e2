/- The document's group: what changes it. No condition. -/
import Derived.Test.YtcmjddkljmfklaaDoorRef08
import Derived.Test.YtcmjddkljmfklaaDoorEnt
namespace Go.Proofs.YtcmjddkljmfklaaDoor
set_option linter.unusedVariables false
set_option linter.unusedSimpArgs false
open Go.RowKit Go.Proofs

theorem kind2 (m k : Nat) : (((kindN (ln m k) : Nat) : Int) == 2) = (ln m k == 254) := by
  have := kind_deleted m k
  rw [Bool.eq_iff_iff] at this ⊢
  unfold equalB at this
  simp at this ⊢
  omega
theorem kind_lt (q : Nat) (h : q < 128) : kindN q = 3 := by unfold kindN; rw [if_neg (by omega), if_neg (by omega), if_pos h]
theorem dec_not {p : Prop} [Decidable p] {b : Bool} (h : ¬ decide p = b) : decide p = !b := by cases b <;> simp_all
set_option maxRecDepth 100000 in
set_option maxHeartbeats 4000000 in
theorem dput_ok (R m k h : Nat) (s : Nat → EntS) (x0 x1 : Int) (hh : h < 18446744073709551616) (hk : k < 8) (hf : fullE m (k : Int) false = 0) (w : World) (hd : DW w R m s) :
    Calls Tryd.prog 46 #[.pointer (some ⟨R, 0, none⟩), .int .i64 (k : Int), .agg #[.int .u64 x0, .int .u64 x1, .int .u64 (h : Int)]] w fun e w' =>
      e = .returned (.tuple #[.bool (ln m k == 254), .int .i64 0]) ∧ DW w' R (setL m k (h % 128)) (putS s k ⟨x0, x1, h⟩) ∧ Chg (fun b => b = R) w w' := by
  have hl := hd.lt
  have hfl : fullB m k = false := by
    rw [fullE_in m k false hk] at hf
    rw [full_not]
    by_cases c : ln m k < 128
    · rw [if_neg (by simpa using c)] at hf; cases hf
    · exact c
  obtain ⟨c0, c1, c2, c3⟩ := hd.cells k hk
  have hfw := hd.frozen
  have k3 := kind3 m k
  rw [hfl] at k3
  have k2 := kind2 m k
  have HK := Lib.hid (kind_lt (h % 128) (by omega))
  have HD := Lib.hid hd
  have d0 : decide ((k : Int) < 0) = false := by simp
  have d7 : decide ((k : Int) > 7) = false := by simp; omega
  have hk8 : (k : Int) < 8 := by omega
  have hne : ¬ w.heap.size = R := by omega
  clear hf hfl hd
  obtain ⟨b2, hb2⟩ : ∃ b, b = (ln m k == 254) := ⟨_, rfl⟩
  rw [← hb2] at k2 ⊢
  clear hb2
  generalize hkn : kindN (ln m k) = kn at *
  clear hkn
  go_enter Tryd.func46, Tryd.ntmps46
  go_wp2
  refine wp_region_seq (fun b => b = R) #[⟨0, 0, 2147483648, 1, 0⟩, ⟨0, 0, 4294967296, 2, 0⟩, ⟨0, 0, 8589934592, 32, 1⟩, ⟨4, 4, 17179869184, 8589934592, 0⟩, ⟨1, 1, 34359738368, 2147483648, 0⟩, ⟨16, 17, 68719476736, 34359738368, 0⟩, ⟨47, 63, 137438953472, 73014444032, 0⟩, ⟨79, 127, 0, 154618822656, 3⟩] 4 [(0, 0), (1, 0), (2, 1), (3, 0), (4, 0), (5, 0), (6, 0), (7, 3)] (by kernel_rfl) (by kernel_rfl) (by kernel_rfl) (by kernel_rfl) (by kernel_rfl) (by kernel_rfl) (fun c a d v w h => by cases d <;> exact h) ?_
  refine seq_calc (by simp only [List.getElem?_toArray, List.getElem?_cons_succ, List.getElem?_cons_zero]; rfl) (by rfl) (fun u => by go_simp <;> with_reducible rfl) ?_
  try simp only [Act.put, List.setIfInBounds_toArray, List.set_cons_zero, List.set_cons_succ]
  refine seq_calc (by simp only [List.getElem?_toArray, List.getElem?_cons_succ, List.getElem?_cons_zero]; rfl) (by rfl) (fun u => by go_simp <;> with_reducible rfl) ?_
  try simp only [Act.put, List.setIfInBounds_toArray, List.set_cons_zero, List.set_cons_succ]
  refine seq_loads [_, _, _] (by simp only [List.getElem?_toArray, List.getElem?_cons_succ, List.getElem?_cons_zero]; rfl) (by rfl) rfl rfl Tryd.underlying62 rfl (by kernel_rfl) (by first | (with_reducible assumption) | (refine cellsAre_range ?_; simp only [cellsAre]; (repeat' (first | exact True.intro | apply And.intro)); all_goals (go_simp <;> with_reducible rfl))) (by first | exact id | assumption | (simp; done) | (simp; omega)) ?_
  try simp only [Act.put, List.setIfInBounds_toArray, List.set_cons_zero, List.set_cons_succ]
  refine seq_calc (by simp only [List.getElem?_toArray, List.getElem?_cons_succ, List.getElem?_cons_zero]; rfl) (by rfl) (fun u => by go_simp <;> with_reducible rfl) ?_
  try simp only [Act.put, List.setIfInBounds_toArray, List.set_cons_zero, List.set_cons_succ]
  refine seq_calc (by simp only [List.getElem?_toArray, List.getElem?_cons_succ, List.getElem?_cons_zero]; rfl) (by rfl) (fun u => by go_simp <;> with_reducible rfl) ?_
  try simp only [Act.put, List.setIfInBounds_toArray, List.set_cons_zero, List.set_cons_succ]
  refine seq_calc (by simp only [List.getElem?_toArray, List.getElem?_cons_succ, List.getElem?_cons_zero]; rfl) (by rfl) (fun u => by go_simp <;> with_reducible rfl) ?_
  try simp only [Act.put, List.setIfInBounds_toArray, List.set_cons_zero, List.set_cons_succ]
  refine seq_calc (by simp only [List.getElem?_toArray, List.getElem?_cons_succ, List.getElem?_cons_zero]; rfl) (by rfl) (fun u => by go_simp <;> with_reducible rfl) ?_
  try simp only [Act.put, List.setIfInBounds_toArray, List.set_cons_zero, List.set_cons_succ]
  refine seq_last (by simp only [List.getElem?_toArray, List.getElem?_cons_succ, List.getElem?_cons_zero]; rfl) (by rfl) (fun K hK => ?_); go_wp2_with (fail); refine hK.out _ _ ?_; clear hK K
  try simp only [Act.put, List.setIfInBounds_toArray, List.set_cons_zero, List.set_cons_succ]
  refine seq_nil ?_
  go_wp2
  go_ret2
  refine ⟨rfl, ?_, ((((((Chg.refl _ w).set1 _ _).set1 _ _).set1 _ _).set1 _ _).alloc _).drew⟩
  have := HD.out.setCell4 k (h % 128) hk (by omega) ⟨x0, x1, h⟩
  rw [HK.out] at this
  exact (this.alloc _).drew
set_option maxRecDepth 100000 in
set_option maxHeartbeats 4000000 in
theorem dput_bad (R m : Nat) (i : Int) (s : Nat → EntS) (x0 x1 x2 : Int) (hf : fullE m i false ≠ 0) (w : World) (hd : DW w R m s) :
    Calls Tryd.prog 46 #[.pointer (some ⟨R, 0, none⟩), .int .i64 i, .agg #[.int .u64 x0, .int .u64 x1, .int .u64 x2]] w fun e w' =>
      e = .returned (.tuple #[.bool false, .int .i64 ((fullE m i false : Nat) : Int)]) ∧ Below w.heap.size w w' := by
  have hl := hd.lt
  by_cases hio : i < 0 ∨ 8 ≤ i
  · rw [fullE_out m i false hio]
    clear hf
    by_cases h0 : i < 0
    · have d0 : decide (i < 0) = true := by simpa using h0
      clear h0 hio hd
      go_enter Tryd.func46, Tryd.ntmps46
      go_wp2
      go_ret2
      exact ⟨rfl, by go_grown⟩
    · have d0 : decide (i < 0) = false := by simpa using h0
      have d7 : decide (i > 7) = true := by simp; omega
      clear h0 hio hd
      go_enter Tryd.func46, Tryd.ntmps46
      go_wp2
      go_ret2
      exact ⟨rfl, by go_grown⟩
  obtain ⟨k, rfl⟩ : ∃ k : Nat, i = (k : Int) := ⟨i.toNat, by omega⟩
  have hk : k < 8 := by omega
  rw [fullE_in m k false hk] at hf ⊢
  have hq : ¬ decide (ln m k < 128) = false := fun c => hf (if_pos c)
  rw [if_neg hq]
  have hfl : fullB m k = true := by rw [full_iff]; simpa using hq
  have k3 := kind3 m k
  rw [hfl] at k3
  obtain ⟨c0, c1, c2, c3⟩ := hd.cells k hk
  have d0 : decide ((k : Int) < 0) = false := by simp
  have d7 : decide ((k : Int) > 7) = false := by simp; omega
  have hk8 : (k : Int) < 8 := by omega
  clear hf hq hfl hio hd
  generalize hkn : kindN (ln m k) = kn at *
  clear hkn
  go_enter Tryd.func46, Tryd.ntmps46
  go_wp2
  go_ret2
  exact ⟨rfl, by go_grown⟩
set_option maxRecDepth 100000 in
set_option maxHeartbeats 4000000 in
theorem dset_ok (R m k : Nat) (s : Nat → EntS) (v : Int) (hk : k < 8) (hf : fullE m (k : Int) true = 0) (w : World) (hd : DW w R m s) :
    Calls Tryd.prog 47 #[.pointer (some ⟨R, 0, none⟩), .int .i64 (k : Int), .int .u64 v] w fun e w' =>
      e = .returned (.int .i64 0) ∧ DW w' R m (putS s k { s k with val := v }) ∧ Chg (fun b => b = R) w w' := by
  have hl := hd.lt
  have hfl : fullB m k = true := by
    rw [fullE_in m k true hk] at hf
    rw [full_iff]
    by_cases c : ln m k < 128
    · exact c
    · rw [if_neg (by simpa using c)] at hf; cases hf
  obtain ⟨c0, c1, c2, c3⟩ := hd.cells k hk
  have hfw := hd.frozen
  have k3 := kindn3 m k
  rw [hfl] at k3
  have HD := Lib.hid hd
  have d0 : decide ((k : Int) < 0) = false := by simp
  have d7 : decide ((k : Int) > 7) = false := by simp; omega
  have hk8 : (k : Int) < 8 := by omega
  clear hf hfl hd
  generalize hkn : kindN (ln m k) = kn at *
  clear hkn
  go_enter Tryd.func47, Tryd.ntmps47
  go_wp2
  go_ret
  exact ⟨rfl, HD.out.setVal k hk v, (Chg.refl _ w).set1 _ _⟩
set_option maxRecDepth 100000 in
set_option maxHeartbeats 4000000 in
theorem dset_bad (R m : Nat) (i : Int) (s : Nat → EntS) (v : Int) (hf : fullE m i true ≠ 0) (w : World) (hd : DW w R m s) :
    Calls Tryd.prog 47 #[.pointer (some ⟨R, 0, none⟩), .int .i64 i, .int .u64 v] w fun e w' =>
      e = .returned (.int .i64 ((fullE m i true : Nat) : Int)) ∧ Below w.heap.size w w' := by
  have hl := hd.lt
  by_cases hio : i < 0 ∨ 8 ≤ i
  · rw [fullE_out m i true hio]
    clear hf
    by_cases h0 : i < 0
    · have d0 : decide (i < 0) = true := by simpa using h0
      clear h0 hio hd
      go_enter Tryd.func47, Tryd.ntmps47
      go_wp2
      go_ret
      exact ⟨rfl, by go_grown⟩
    · have d0 : decide (i < 0) = false := by simpa using h0
      have d7 : decide (i > 7) = true := by simp; omega
      clear h0 hio hd
      go_enter Tryd.func47, Tryd.ntmps47
      go_wp2
      go_ret
      exact ⟨rfl, by go_grown⟩
  obtain ⟨k, rfl⟩ : ∃ k : Nat, i = (k : Int) := ⟨i.toNat, by omega⟩
  have hk : k < 8 := by omega
  rw [fullE_in m k true hk] at hf ⊢
  have hq : ¬ decide (ln m k < 128) = true := fun c => hf (if_pos c)
  rw [if_neg hq]
  have hfl : fullB m k = false := by rw [full_not]; simpa using hq
  have k3 := kindn3 m k
  rw [hfl] at k3
  obtain ⟨c0, c1, c2, c3⟩ := hd.cells k hk
  have d0 : decide ((k : Int) < 0) = false := by simp
  have d7 : decide ((k : Int) > 7) = false := by simp; omega
  have hk8 : (k : Int) < 8 := by omega
  clear hf hq hfl hio hd
  generalize hkn : kindN (ln m k) = kn at *
  clear hkn
  go_enter Tryd.func47, Tryd.ntmps47
  go_wp2
  go_ret
  exact ⟨rfl, by go_grown⟩
set_option maxRecDepth 100000 in
set_option maxHeartbeats 4000000 in
theorem derase_ok (R m k : Nat) (s : Nat → EntS) (hk : k < 8) (hf : fullE m (k : Int) true = 0) (w : World) (hd : DW w R m s) :
    Calls Tryd.prog 48 #[.pointer (some ⟨R, 0, none⟩), .int .i64 (k : Int)] w fun e w' =>
      e = .returned (.tuple #[.bool (!openB m), .int .i64 0]) ∧ DW w' R (setL m k (goneN m)) (putS s k EntS.zero) ∧ Chg (fun b => b = R) w w' := by
  have hfl : fullB m k = true := by
    rw [fullE_in m k true hk] at hf
    rw [full_iff]
    by_cases c : ln m k < 128
    · exact c
    · rw [if_neg (by simpa using c)] at hf; cases hf
  clear hf
  by_cases ho : openB m = true
  · rw [ho]
    show Calls _ _ _ _ fun e w' => e = .returned (.tuple #[.bool false, .int .i64 0]) ∧ _
    have hl := hd.lt
    obtain ⟨c0, c1, c2, c3⟩ := hd.cells k hk
    have hfw := hd.frozen
    have k3 := kindn3 m k
    rw [hfl] at k3
    have CT := dcount_any R m 1 s
    have hcz : decide (((countK m 1 : Nat) : Int) > 0) = openB m := by rw [open_count, Bool.eq_iff_iff]; simp
    rw [ho] at hcz
    have HG : goneN m = 128 := by unfold goneN; rw [ho]; rfl
    have HGN := Lib.hid HG
    have CTH := Lib.hid (fun w' (hb : Below w.heap.size w w') => CT w' (hd.below hb hd.lt))
    have HD := Lib.hid hd
    have d0 : decide ((k : Int) < 0) = false := by simp
    have d7 : decide ((k : Int) > 7) = false := by simp; omega
    have hk8 : (k : Int) < 8 := by omega
    clear hfl hd HG ho CT
    generalize ((countK m 1 : Nat) : Int) = cn at *
    generalize hkn : kindN (ln m k) = kn at *
    clear hkn
    go_enter Tryd.func48, Tryd.ntmps48
    go_wp2_with (go_at_call 53; refine (CTH.out _ (by go_grown)).mono ?_; rintro e w1 ⟨rfl, hb1⟩; have hB1 : Below w.heap.size w w1 := (by first | exact hB1.trans (hb1.mono hB1.size) | exact hB1.trans (Below.undrew (hb1.mono hB1.size)) | exact hb1 | exact Below.trans (by go_grown) (hb1.mono (by simp <;> omega))); have hcR := fun (o : Nat) => hb1.cell (p := ⟨R, o, none⟩) (by first | assumption | (simp <;> omega)); have hfR := fun (o : Nat) => hb1.frozen (p := ⟨R, o, none⟩) (by first | assumption | (simp <;> omega)); have hzR : R < w1.heap.size := Nat.lt_of_lt_of_le (by first | assumption | (simp <;> omega)) hb1.size)
    go_ret2
    refine ⟨rfl, ?_, ((((Chg.of_below hB1).set1 _ _).set1 _ _).set1 _ _).set1 _ _⟩
    have := (HD.out.below hB1 hl).setCell4 k (goneN m) hk (goneN_lt m) EntS.zero
    rw [HGN.out] at this ⊢
    exact this
  · replace ho : openB m = false := by simpa using ho
    rw [ho]
    show Calls _ _ _ _ fun e w' => e = .returned (.tuple #[.bool true, .int .i64 0]) ∧ _
    have hl := hd.lt
    obtain ⟨c0, c1, c2, c3⟩ := hd.cells k hk
    have hfw := hd.frozen
    have k3 := kindn3 m k
    rw [hfl] at k3
    have CT := dcount_any R m 1 s
    have hcz : decide (((countK m 1 : Nat) : Int) > 0) = openB m := by rw [open_count, Bool.eq_iff_iff]; simp
    rw [ho] at hcz
    have HG : goneN m = 254 := by unfold goneN; rw [ho]; rfl
    have HGN := Lib.hid HG
    have CTH := Lib.hid (fun w' (hb : Below w.heap.size w w') => CT w' (hd.below hb hd.lt))
    have HD := Lib.hid hd
    have d0 : decide ((k : Int) < 0) = false := by simp
    have d7 : decide ((k : Int) > 7) = false := by simp; omega
    have hk8 : (k : Int) < 8 := by omega
    clear hfl hd HG ho CT
    generalize ((countK m 1 : Nat) : Int) = cn at *
    generalize hkn : kindN (ln m k) = kn at *
    clear hkn
    go_enter Tryd.func48, Tryd.ntmps48
    go_wp2_with (go_at_call 53; refine (CTH.out _ (by go_grown)).mono ?_; rintro e w1 ⟨rfl, hb1⟩; have hB1 : Below w.heap.size w w1 := (by first | exact hB1.trans (hb1.mono hB1.size) | exact hB1.trans (Below.undrew (hb1.mono hB1.size)) | exact hb1 | exact Below.trans (by go_grown) (hb1.mono (by simp <;> omega))); have hcR := fun (o : Nat) => hb1.cell (p := ⟨R, o, none⟩) (by first | assumption | (simp <;> omega)); have hfR := fun (o : Nat) => hb1.frozen (p := ⟨R, o, none⟩) (by first | assumption | (simp <;> omega)); have hzR : R < w1.heap.size := Nat.lt_of_lt_of_le (by first | assumption | (simp <;> omega)) hb1.size)
    go_ret2
    refine ⟨rfl, ?_, ((((Chg.of_below hB1).set1 _ _).set1 _ _).set1 _ _).set1 _ _⟩
    have := (HD.out.below hB1 hl).setCell4 k (goneN m) hk (goneN_lt m) EntS.zero
    rw [HGN.out] at this ⊢
    exact this
set_option maxRecDepth 100000 in
set_option maxHeartbeats 4000000 in
theorem derase_bad (R m : Nat) (i : Int) (s : Nat → EntS) (hf : fullE m i true ≠ 0) (w : World) (hd : DW w R m s) :
    Calls Tryd.prog 48 #[.pointer (some ⟨R, 0, none⟩), .int .i64 i] w fun e w' =>
      e = .returned (.tuple #[.bool false, .int .i64 ((fullE m i true : Nat) : Int)]) ∧ Below w.heap.size w w' := by
  have hl := hd.lt
  by_cases hio : i < 0 ∨ 8 ≤ i
  · rw [fullE_out m i true hio]
    clear hf
    by_cases h0 : i < 0
    · have d0 : decide (i < 0) = true := by simpa using h0
      clear h0 hio hd
      go_enter Tryd.func48, Tryd.ntmps48
      go_wp2
      go_ret2
      exact ⟨rfl, by go_grown⟩
    · have d0 : decide (i < 0) = false := by simpa using h0
      have d7 : decide (i > 7) = true := by simp; omega
      clear h0 hio hd
      go_enter Tryd.func48, Tryd.ntmps48
      go_wp2
      go_ret2
      exact ⟨rfl, by go_grown⟩
  obtain ⟨k, rfl⟩ : ∃ k : Nat, i = (k : Int) := ⟨i.toNat, by omega⟩
  have hk : k < 8 := by omega
  rw [fullE_in m k true hk] at hf ⊢
  have hq : ¬ decide (ln m k < 128) = true := fun c => hf (if_pos c)
  rw [if_neg hq]
  have hfl : fullB m k = false := by rw [full_not]; simpa using hq
  have k3 := kindn3 m k
  rw [hfl] at k3
  obtain ⟨c0, c1, c2, c3⟩ := hd.cells k hk
  have d0 : decide ((k : Int) < 0) = false := by simp
  have d7 : decide ((k : Int) > 7) = false := by simp; omega
  have hk8 : (k : Int) < 8 := by omega
  clear hf hq hfl hio hd
  generalize hkn : kindN (ln m k) = kn at *
  clear hkn
  go_enter Tryd.func48, Tryd.ntmps48
  go_wp2
  go_ret2
  exact ⟨rfl, by go_grown⟩
end Go.Proofs.YtcmjddkljmfklaaDoor
