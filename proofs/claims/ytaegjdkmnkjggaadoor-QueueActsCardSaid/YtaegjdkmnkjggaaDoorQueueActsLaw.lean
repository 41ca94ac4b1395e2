/- The walk of QueueActs. Condition: the errors. -/
import Derived.Test.YtaegjdkmnkjggaaDoorQueueRef
import Derived.Test.YtaegjdkmnkjggaaDoorQueueOrder
import Derived.Deep.Cut
namespace Go.Proofs.YtaegjdkmnkjggaaDoor
set_option linter.unusedVariables false
set_option linter.unusedSimpArgs false
open Go.RowKit Go.Proofs

/-- the number of an error that may be none -/
theorem num_any (E : Nat → Addr) (p : Nat) (hp : p ≤ 16) (w : World) (h : ErrsAre w E) :
    Calls Tryd.prog 23 #[errN E p] w fun e w' => e = .returned (.int .i64 (p : Int)) ∧ Below w.heap.size w w' := by
  unfold errN
  by_cases h0 : p = 0
  · subst h0; exact (num_nil w).mono fun e w' ⟨a, b⟩ => ⟨a, b ▸ Below.refl _ _⟩
  · rw [if_neg h0]; exact (num_err w E h p (by omega) hp).mono fun e w' ⟨a, b⟩ => ⟨a, b ▸ (Below.refl _ _).alloc (Nat.le_refl _) _⟩
def hdL (xs : List Int) : Int := xs.headD 0
def neL (xs : List Int) : Bool := !xs.isEmpty
theorem headV_eq (xs : List Int) : headV xs = .tuple #[.int .i64 (hdL xs), .bool (neL xs)] := by cases xs <;> rfl
theorem pushN_le (n : Nat) (xs : List Int) (x : Int) : pushN n xs x ≤ 16 := by
  unfold pushN; repeat' split
  all_goals omega
theorem pushL_len (n : Nat) (xs : List Int) (x : Int) : (pushL n xs x).length ≤ xs.length + 1 := by
  unfold pushL; split <;> simp
theorem cutL_head (x : Int) (xs : List Int) (h : (x :: xs).Nodup) : cutL (x :: xs) x = xs := by
  rw [List.nodup_cons] at h
  unfold cutL
  rw [List.filter_cons, if_neg (by simp)]
  exact filter_miss h.1
theorem RowsAt.cell2' {w : World} {v : Value} {n nf : Nat} {kd : IntKind} {f : Nat → Nat → Int} (h0 : 0 < nf) (h : RowsAt w v n nf kd f) : ∃ a cap, v = .slice a n cap ∧ (n ≠ 0 → ∃ b off, a = some ⟨b, off, none⟩ ∧ b < w.heap.size ∧ ∀ w', Below w.heap.size w w' → ∀ i, i < n → ∀ j, j < nf → w'.cell? ⟨b, off + (i * nf + j), none⟩ = some (.int kd (f i j))) := by
  obtain ⟨⟨a, cap, rfl, hx⟩, hwf, hm⟩ := h
  refine ⟨a, cap, rfl, fun hn => ?_⟩
  obtain ⟨b, off, rfl, hc⟩ := hx hn
  exact ⟨b, off, rfl, World.block_lt_of_cell? _ _ (hc 0 (by omega) 0 (by omega)), fun w' hb i hi j hj => (hb.cell (World.block_lt_of_cell? _ _ (hc i hi j hj))).trans (hc i hi j hj)⟩
set_option maxRecDepth 100000 in
set_option maxHeartbeats 16000000 in
theorem queueActs_any (most : Int) (v : Value) (n0 : Nat) (f : Nat → Nat → Int) (E : Nat → Addr) (w0 : World) (he : ErrsAre w0 E) (h1 : RowsAt w0 v n0 2 .i64 f) :
    Calls Tryd.prog 5 #[.int .i64 most, v] w0 fun e w' => e = .returned (.bool true) ∧ Below w0.heap.size w0 w' := by
  have m1 := h1.2.2
  obtain ⟨a, cap, rfl, hx⟩ := h1.cell2' (by decide)
  unfold maxLen at m1
  have HE := Lib.hid he
  have HX := Lib.hid hx
  have he3 : EC w0 E [1, 2, 16] := he.ec.sub (by decide)
  have HE3 := Lib.hid he3
  clear h1 hx he he3
  have ha := Lib.hid (alive18_any E w0 HE3.out)
  by_cases g1 : 120 < n0
  · have g1' : (120 : Int) < (n0 : Int) := by omega
    go_enter Tryd.func5, Tryd.ntmps5
    go_wp2_with (go_at_call 14; refine ha.out.mono ?_; rintro e w1 ⟨rfl, hb1⟩)
    go_ret
    exact ⟨rfl, hb1⟩
  have g1' : (n0 : Int) ≤ 120 := by omega
  by_cases g3 : most < 1 ∨ 40 < most
  · have HN := Lib.hid (fun (w' : World) h => new_bad most g3 E w' h)
    have HU := Lib.hid (fun (w' : World) h => num_err w' E h 1 (by decide) (by decide))
    simp only [errAt] at HU
    by_cases g4 : most < 1
    · have g4' : decide (most < 1) = true := by simpa using g4
      clear g3 g4
      go_enter Tryd.func5, Tryd.ntmps5
      go_wp2_with (first
        | (go_at_call 14; refine ha.out.mono ?_; rintro e w1 ⟨rfl, hb1⟩)
        | (go_at_call 15; refine (HN.out _ (HE3.out.below hb1)).mono ?_; rintro e w2 ⟨rfl, hb2⟩; have hb3 := hb1.trans (hb2.mono hb1.size))
        | (go_at_call 23; refine (HU.out _ (HE.out.below hb3)).mono ?_; rintro e w' ⟨rfl, rfl⟩))
      go_ret
      exact ⟨rfl, hb3.alloc hb3.size _⟩
    · have g4' : decide (most < 1) = false := by simpa using g4
      have g5' : decide (most > 40) = true := by simp; omega
      clear g3 g4
      go_enter Tryd.func5, Tryd.ntmps5
      go_wp2_with (first
        | (go_at_call 14; refine ha.out.mono ?_; rintro e w1 ⟨rfl, hb1⟩)
        | (go_at_call 15; refine (HN.out _ (HE3.out.below hb1)).mono ?_; rintro e w2 ⟨rfl, hb2⟩; have hb3 := hb1.trans (hb2.mono hb1.size))
        | (go_at_call 23; refine (HU.out _ (HE.out.below hb3)).mono ?_; rintro e w' ⟨rfl, rfl⟩))
      go_ret
      exact ⟨rfl, hb3.alloc hb3.size _⟩
  obtain ⟨n, rfl⟩ : ∃ n : Nat, most = (n : Int) := ⟨most.toNat, by omega⟩
  have n1 : 1 ≤ n := by omega
  have n2 : n ≤ 40 := by omega
  clear g3
  have g4' : decide ((n : Int) < 1) = false := by simp; omega
  have g5' : decide ((n : Int) > 40) = false := by simp; omega
  go_enter Tryd.func5, Tryd.ntmps5
  go_wp2_with (first
    | (go_at_call 14; refine ha.out.mono ?_; rintro e w1 ⟨rfl, hb1⟩)
    | (go_at_call 15; refine (new_any n n1 n2 _).mono ?_; rintro e w2 ⟨B, R, rfl, hq, hB, hR, hb2⟩; have hq2 := Lib.hid hq; clear hq))
  obtain ⟨M, hM⟩ : ∃ M, M = w2.heap.size := ⟨_, rfl⟩
  rw [← hM]
  refine wp_at (fun wa hwa => ?_)
  obtain ⟨Z0, hK⟩ : ∃ Z0, Z0 = M + 1 := ⟨_, rfl⟩
  have hBa : Below w0.heap.size w0 wa := by rw [hwa]; exact (hb1.trans (hb2.mono hb1.size)).alloc (by have := hb1.size; have := hb2.size; omega) _
  have hQa : QL wa B R n [] := by rw [hwa]; exact hq2.out.below ((Below.refl _ _).alloc (Nat.le_refl _) _)
  have hRa : RQ wa M Z0 n [] := ⟨.slice none 0 0, by rw [hwa, hM]; exact Blk.new _ _ _, rf_nil _ _⟩
  have hKz : Z0 ≤ wa.heap.size := by rw [hwa, hK, hM]; simp
  have hBK : B < M ∧ R < M ∧ B ≠ R := by rw [hM]; exact hq2.out.lt
  have hB0 : w0.heap.size ≤ B ∧ w0.heap.size ≤ R ∧ w0.heap.size ≤ M := by have := hb1.size; have := hb2.size; omega
  obtain ⟨hBM, hRM, hBR⟩ := hBK
  obtain ⟨hB1, hB2, hB3⟩ := hB0
  have hMK : M < Z0 := by omega
  replace hwa := Lib.hid hwa
  replace hK := Lib.hid hK
  replace hM := Lib.hid hM
  clear hb1 hb2 hq2 hB hR
  go_loopw [54] (fun v54 wr => ∃ (k : Nat) (xs : List Int), k ≤ n0 ∧ v54 = .int .i64 (k : Int) ∧ xs.Nodup ∧ QL wr B R n xs ∧ RQ wr M Z0 n xs ∧ Below w0.heap.size w0 wr ∧ Z0 ≤ wr.heap.size) (fun v54 _ => n0 - (intOf v54).toNat)
  case atStart => exact ⟨0, [], Nat.zero_le _, rfl, List.nodup_nil, hQa, hRa, hBa, hKz⟩
  case round =>
    obtain ⟨k, xs, hk, rfl, hnd, hQ, hR, hB, hKr⟩ := hrel
    clear hQa hRa hBa hKz
    have HND := Lib.hid hnd
    have HQ := Lib.hid hQ
    have HR := Lib.hid hR
    have hlx := hQ.len.1
    clear hnd hQ hR
    by_cases hlt : k < n0
    · obtain ⟨b, off, rfl, hbz, hcells⟩ := HX.out (by omega)
      have c0 : wr.cell? ⟨b, off + k * 2, none⟩ = some (.int .i64 (f k 0)) := by simpa using hcells wr hB k hlt 0 (by decide)
      have c1 : wr.cell? ⟨b, off + k * 2 + 1, none⟩ = some (.int .i64 (f k 1)) := by simpa [Nat.add_assoc] using hcells wr hB k hlt 1 (by decide)
      generalize f k 0 = q at c0
      generalize f k 1 = N at c1
      clear hcells
      obtain ⟨C, hC⟩ : ∃ C, C = wr.heap.size := ⟨_, rfl⟩
      by_cases q0 : q = 0
      · subst q0
        have hpl := pushL_len n xs N
        have hpd := Lib.hid (pushL_nodup (n := n) HND.out N)
        obtain ⟨p, hp⟩ : ∃ p, p = pushN n xs N := ⟨_, rfl⟩
        have PU := Lib.hid (fun (w' : World) h h' => push_any B R n xs N E w' h h')
        have RU := Lib.hid (fun (w' : World) h h2 => rpush_any M Z0 n xs N (by omega) w' h h2 hMK)
        have NU := Lib.hid (fun (w' : World) h => num_any E (pushN n xs N) (pushN_le n xs N) w' h)
        rw [← hp] at PU RU NU
        replace hp := Lib.hid hp
        have e0 : ((p : Int) != (p : Int)) = false := by simp
        go_upto_region 16 with (fail)
        refine wp_at (fun w hW => ?_)
        have NQ := Lib.hid (show QL w B R n xs by rw [hW]; exact HQ.out.below ((Below.refl _ _).alloc (Nat.le_refl _) _))
        have NR := Lib.hid (show RQ w M Z0 n xs by rw [hW]; exact HR.out.below ((Below.refl _ _).alloc (Nat.le_refl _) _))
        have NB := Lib.hid (show Below w0.heap.size w0 w by rw [hW]; exact hB.alloc hB.size _)
        have NC := Lib.hid (show Blk w C 46 #[.int .i64 0, .int .i64 N] by rw [hW, hC]; exact Blk.new _ _ _)
        have hCz : C < w.heap.size := by rw [hW, hC]; simp
        have hKw : Z0 ≤ w.heap.size := by rw [hW]; simp; omega
        have hCK : Z0 ≤ C := by rw [hC]; omega
        have c80 := NC.out.cell 0
        have c81 := NC.out.cell 1
        rw [← hC]
        replace hW := Lib.hid hW
        replace hC := Lib.hid hC
        have NB0 := NB.out.size
        refine wp_region_seq ((fun b => b = B ∨ b = R ∨ b = M)) #[⟨0, 0, 4611686018427387904, 32, 0⟩, ⟨0, 0, 9223372036854775808, 512, 0⟩, ⟨2, 2, 18446744073709551616, 9223372036854775808, 1⟩, ⟨5, 7, 36893488147419103232, 23058430092136939520, 2⟩, ⟨8, 15, 73786976294838206464, 36893488147419103232, 2⟩, ⟨0, 0, 147573952589676412928, 128, 0⟩, ⟨0, 0, 295147905179352825856, 512, 0⟩, ⟨64, 64, 590295810358705651712, 295147905179352825856, 1⟩, ⟨176, 255, 1180591620717411303424, 737869762948382064640, 3⟩, ⟨272, 511, 2361183241434822606848, 1254378597012249509888, 0⟩] 132 [(0, 0), (1, 0), (2, 1), (5, 0), (6, 0), (7, 1), (3, 2), (4, 2), (8, 3), (9, 0)] (by kernel_rfl) (by kernel_rfl) (by kernel_rfl) (by kernel_rfl) (by kernel_rfl) (by kernel_rfl) (fun c a d v w h => by cases d <;> exact h) ?_
        refine seq_calc (by simp only [List.getElem?_toArray, List.getElem?_cons_succ, List.getElem?_cons_zero]; rfl) (by rfl) (fun u => by go_simp <;> with_reducible rfl) ?_
        try simp only [Act.put, List.setIfInBounds_toArray, List.set_cons_zero, List.set_cons_succ]
        refine seq_calc (by simp only [List.getElem?_toArray, List.getElem?_cons_succ, List.getElem?_cons_zero]; rfl) (by rfl) (fun u => by go_simp <;> with_reducible rfl) ?_
        try simp only [Act.put, List.setIfInBounds_toArray, List.set_cons_zero, List.set_cons_succ]
        refine seq_load1 (by simp only [List.getElem?_toArray, List.getElem?_cons_succ, List.getElem?_cons_zero]; rfl) (by rfl) rfl rfl Tryd.underlying3 rfl (by go_simp <;> with_reducible rfl) (by first | exact id | assumption | (simp; done) | (simp; omega)) ?_
        try simp only [Act.put, List.setIfInBounds_toArray, List.set_cons_zero, List.set_cons_succ]
        refine seq_calc (by simp only [List.getElem?_toArray, List.getElem?_cons_succ, List.getElem?_cons_zero]; rfl) (by rfl) (fun u => by go_simp <;> with_reducible rfl) ?_
        try simp only [Act.put, List.setIfInBounds_toArray, List.set_cons_zero, List.set_cons_succ]
        refine seq_calc (by simp only [List.getElem?_toArray, List.getElem?_cons_succ, List.getElem?_cons_zero]; rfl) (by rfl) (fun u => by go_simp <;> with_reducible rfl) ?_
        try simp only [Act.put, List.setIfInBounds_toArray, List.set_cons_zero, List.set_cons_succ]
        refine seq_load1 (by simp only [List.getElem?_toArray, List.getElem?_cons_succ, List.getElem?_cons_zero]; rfl) (by rfl) rfl rfl Tryd.underlying3 rfl (by go_simp <;> with_reducible rfl) (by first | exact id | assumption | (simp; done) | (simp; omega)) ?_
        try simp only [Act.put, List.setIfInBounds_toArray, List.set_cons_zero, List.set_cons_succ]
        refine seq_do (by simp only [List.getElem?_toArray, List.getElem?_cons_succ, List.getElem?_cons_zero]; rfl) (by rfl) (fun K hK => ?_); go_wp2_with (first | (go_at_call 17; refine (PU.out _ (NQ.out.below (by go_grown)) (HE3.out.below NB.out.drew)).mono ?_; rintro e w2 ⟨rfl, hq2, hc2⟩; have hX2 : Chg (fun b => b = B ∨ b = R ∨ b = M) _ w2 := hc2.mono (fun i _ e => by omega); have NR2 := Lib.hid ((NR.out.below (Below.refl _ _).drew).chg hc2 (by omega) (fun b hb e => by omega)); have NB2 := NB.out.drew.trans (hc2.below NB0 (fun k hk e => by omega)); have c82 := (hc2.cells C 1 hCz (by omega)).trans c81; have hz2 := hc2.size; replace hq2 := Lib.hid hq2; have hK2 : Z0 ≤ w2.heap.size := Nat.le_trans hKw hz2; have hC2 : C < w2.heap.size := Nat.lt_of_lt_of_le hCz hz2) | (go_at_call 23; refine (NU.out _ (HE.out.below NB2)).mono ?_; rintro e w3 ⟨rfl, hb3⟩; have NR3 := Lib.hid (NR2.out.below hb3); have hq3 := Lib.hid (hq2.out.below hb3); have NB3 := NB2.trans (hb3.mono NB2.size); have c83 := (hb3.cell (p := ⟨C, 1, none⟩) hC2).trans c82; have hK3 : Z0 ≤ w3.heap.size := Nat.le_trans hK2 hb3.size; have hC3 : C < w3.heap.size := Nat.lt_of_lt_of_le hC2 hb3.size) | (go_at_call 24; refine (RU.out _ NR3.out hK3).mono ?_; rintro e w4 ⟨rfl, hr4, hc4⟩; have NQ := Lib.hid (hq3.out.chg hc4 (by omega) (by omega)); have NR := Lib.hid hr4; have NB := Lib.hid (NB3.trans (hc4.below NB3.size (fun k hk e => by omega))); have c81 := (hc4.cells C 1 hC3 (by omega)).trans c83; have hCz : C < w4.heap.size := Nat.lt_of_lt_of_le hC3 hc4.size; have hKw : Z0 ≤ w4.heap.size := Nat.le_trans hK3 hc4.size)); refine hK.out _ _ (by first | (with_reducible exact Chg.refl _ _) | (with_reducible assumption) | (refine Chg.of_below ?_; with_reducible assumption) | (with_reducible exact (Chg.refl _ _).alloc _) | (with_reducible exact (Chg.refl _ _).drewN _) | (with_reducible exact (Chg.refl _ _).drew) | exact ⟨rfl, rfl, rfl, Nat.le_refl _, fun _ _ _ => rfl⟩) ?_; clear hK K
        try simp only [Act.put, List.setIfInBounds_toArray, List.set_cons_zero, List.set_cons_succ]
        refine seq_do (by simp only [List.getElem?_toArray, List.getElem?_cons_succ, List.getElem?_cons_zero]; rfl) (by rfl) (fun K hK => ?_); go_wp2_with (first | (go_at_call 17; refine (PU.out _ (NQ.out.below (by go_grown)) (HE3.out.below NB.out.drew)).mono ?_; rintro e w2 ⟨rfl, hq2, hc2⟩; have hX2 : Chg (fun b => b = B ∨ b = R ∨ b = M) _ w2 := hc2.mono (fun i _ e => by omega); have NR2 := Lib.hid ((NR.out.below (Below.refl _ _).drew).chg hc2 (by omega) (fun b hb e => by omega)); have NB2 := NB.out.drew.trans (hc2.below NB0 (fun k hk e => by omega)); have c82 := (hc2.cells C 1 hCz (by omega)).trans c81; have hz2 := hc2.size; replace hq2 := Lib.hid hq2; have hK2 : Z0 ≤ w2.heap.size := Nat.le_trans hKw hz2; have hC2 : C < w2.heap.size := Nat.lt_of_lt_of_le hCz hz2) | (go_at_call 23; refine (NU.out _ (HE.out.below NB2)).mono ?_; rintro e w3 ⟨rfl, hb3⟩; have NR3 := Lib.hid (NR2.out.below hb3); have hq3 := Lib.hid (hq2.out.below hb3); have NB3 := NB2.trans (hb3.mono NB2.size); have c83 := (hb3.cell (p := ⟨C, 1, none⟩) hC2).trans c82; have hK3 : Z0 ≤ w3.heap.size := Nat.le_trans hK2 hb3.size; have hC3 : C < w3.heap.size := Nat.lt_of_lt_of_le hC2 hb3.size) | (go_at_call 24; refine (RU.out _ NR3.out hK3).mono ?_; rintro e w4 ⟨rfl, hr4, hc4⟩; have NQ := Lib.hid (hq3.out.chg hc4 (by omega) (by omega)); have NR := Lib.hid hr4; have NB := Lib.hid (NB3.trans (hc4.below NB3.size (fun k hk e => by omega))); have c81 := (hc4.cells C 1 hC3 (by omega)).trans c83; have hCz : C < w4.heap.size := Nat.lt_of_lt_of_le hC3 hc4.size; have hKw : Z0 ≤ w4.heap.size := Nat.le_trans hK3 hc4.size)); refine hK.out _ _ (by first | (with_reducible exact Chg.refl _ _) | (with_reducible assumption) | (refine Chg.of_below ?_; with_reducible assumption) | (with_reducible exact (Chg.refl _ _).alloc _) | (with_reducible exact (Chg.refl _ _).drewN _) | (with_reducible exact (Chg.refl _ _).drew) | exact ⟨rfl, rfl, rfl, Nat.le_refl _, fun _ _ _ => rfl⟩) ?_; clear hK K
        try simp only [Act.put, List.setIfInBounds_toArray, List.set_cons_zero, List.set_cons_succ]
        refine seq_last (by simp only [List.getElem?_toArray, List.getElem?_cons_succ, List.getElem?_cons_zero]; rfl) (by rfl) (fun K hK => ?_); go_wp2_with (first | (go_at_call 17; refine (PU.out _ (NQ.out.below (by go_grown)) (HE3.out.below NB.out.drew)).mono ?_; rintro e w2 ⟨rfl, hq2, hc2⟩; have hX2 : Chg (fun b => b = B ∨ b = R ∨ b = M) _ w2 := hc2.mono (fun i _ e => by omega); have NR2 := Lib.hid ((NR.out.below (Below.refl _ _).drew).chg hc2 (by omega) (fun b hb e => by omega)); have NB2 := NB.out.drew.trans (hc2.below NB0 (fun k hk e => by omega)); have c82 := (hc2.cells C 1 hCz (by omega)).trans c81; have hz2 := hc2.size; replace hq2 := Lib.hid hq2; have hK2 : Z0 ≤ w2.heap.size := Nat.le_trans hKw hz2; have hC2 : C < w2.heap.size := Nat.lt_of_lt_of_le hCz hz2) | (go_at_call 23; refine (NU.out _ (HE.out.below NB2)).mono ?_; rintro e w3 ⟨rfl, hb3⟩; have NR3 := Lib.hid (NR2.out.below hb3); have hq3 := Lib.hid (hq2.out.below hb3); have NB3 := NB2.trans (hb3.mono NB2.size); have c83 := (hb3.cell (p := ⟨C, 1, none⟩) hC2).trans c82; have hK3 : Z0 ≤ w3.heap.size := Nat.le_trans hK2 hb3.size; have hC3 : C < w3.heap.size := Nat.lt_of_lt_of_le hC2 hb3.size) | (go_at_call 24; refine (RU.out _ NR3.out hK3).mono ?_; rintro e w4 ⟨rfl, hr4, hc4⟩; have NQ := Lib.hid (hq3.out.chg hc4 (by omega) (by omega)); have NR := Lib.hid hr4; have NB := Lib.hid (NB3.trans (hc4.below NB3.size (fun k hk e => by omega))); have c81 := (hc4.cells C 1 hC3 (by omega)).trans c83; have hCz : C < w4.heap.size := Nat.lt_of_lt_of_le hC3 hc4.size; have hKw : Z0 ≤ w4.heap.size := Nat.le_trans hK3 hc4.size)); refine hK.out _ _ ?_; clear hK K
        try simp only [Act.put, List.setIfInBounds_toArray, List.set_cons_zero, List.set_cons_succ]
        refine seq_calc (by simp only [List.getElem?_toArray, List.getElem?_cons_succ, List.getElem?_cons_zero]; rfl) (by rfl) (fun u => by go_simp <;> with_reducible rfl) ?_
        try simp only [Act.put, List.setIfInBounds_toArray, List.set_cons_zero, List.set_cons_succ]
        refine seq_nil ?_
        go_upto_region 31 with (fail)
        have HT1 := Lib.hid (all_any18 B R n (pushL n xs N) _ NQ.out)
        have hlen2 := NQ.out.len
        obtain ⟨v2, hm1, hm2⟩ := NR.out
        have M1 := Lib.hid hm1
        have M2 := Lib.hid hm2
        obtain ⟨la, lc, rfl, -⟩ := id hm2.1
        have HHD := Lib.hid (fun (w' : World) h => head_any B R n (pushL n xs N) w' h)
        have HRH := Lib.hid (fun (w' : World) h => rhead_any M Z0 n (pushL n xs N) (by omega) w' h)
        have HLN := Lib.hid (fun (w' : World) h => len_any B R n (pushL n xs N) w' h)
        have HHS := Lib.hid (fun (w' : World) h => has_any B R n (pushL n xs N) N w' h)
        have HRS := Lib.hid (fun (w' : World) v h => numHas_any v (pushL n xs N) N w' h (by omega))
        rw [headV_eq] at HHD HRH
        generalize hdL (pushL n xs N) = hd at HHD HRH
        generalize neL (pushL n xs N) = ne at HHD HRH
        generalize decide (N ∈ (pushL n xs N)) = hs at HHS HRS
        have e1 : (hd != hd) = false := by simp
        have e2 : (ne != ne) = false := by simp
        have e3 : (hs != hs) = false := by simp
        have e4 : ((((pushL n xs N)).length : Int) != (((pushL n xs N)).length : Int)) = false := by simp
        have hbM := hm1.lt
        have hbq := NQ.out.lt
        clear hm1 hm2
        have NB0 := NB.out.size
        go_wp2_with (first
          | (go_at_call 19; refine HT1.out.mono ?_; rintro e w6 ⟨v6, rfl, hr6, hb6⟩; replace hr6 := Lib.hid hr6; have NB6 := NB.out.trans (hb6.mono NB0); have Q6 := Lib.hid (NQ.out.below hb6); have R6 := Lib.hid (NR.out.below hb6))
          | (go_at_call 28; refine (HHD.out _ Q6.out).mono ?_; rintro e w7 ⟨rfl, hb7⟩; have hr7 := Lib.hid (hr6.out.later hb7); have NB7 := NB6.trans (hb7.mono NB6.size); have Q7 := Lib.hid (Q6.out.below hb7); have R7 := Lib.hid (R6.out.below hb7); have b67 := Lib.hid (hb6.trans (hb7.mono hb6.size)))
          | (go_at_call 25; refine (HRH.out _ R7.out).mono ?_; rintro e w' ⟨rfl, rfl⟩))
        have m7 := (M1.out.below b67.out hbM).cell 0
        have c7 := (b67.out.cell (p := ⟨C, 1, none⟩) hCz).trans c81
        have NW := Lib.hid (M2.out.1.later b67.out)
        have hM7 : M < w7.heap.size := Nat.lt_of_lt_of_le hbM b67.out.size
        have hC7 : C < w7.heap.size := Nat.lt_of_lt_of_le hCz b67.out.size
        refine wp_region_seq (fun _ => False) #[⟨0, 0, 680564733841876926926749214863536422912, 32768, 0⟩, ⟨1, 1, 1361129467683753853853498429727072845824, 680564733841876926926749214863536422912, 0⟩, ⟨2, 3, 2722258935367507707706996859454145691648, 1361129467683753853853498429727072845824, 0⟩, ⟨4, 7, 5444517870735015415413993718908291383296, 2722258935367507707706996859454145708032, 0⟩, ⟨4, 7, 10889035741470030830827987437816582766592, 2722258935367507707706996859454145691776, 0⟩, ⟨20, 23, 21778071482940061661655974875633165533184, 13611294676837538538534984297270728458240, 0⟩, ⟨36, 55, 43556142965880123323311949751266331066368, 24500330418307569369362971735087311224832, 0⟩, ⟨68, 119, 87112285931760246646623899502532662132736, 46278401901247631031018946610720476758016, 1⟩, ⟨140, 255, 174224571863520493293247799005065324265472, 95279062737862769769744890080895099207680, 2⟩, ⟨260, 511, 348449143727040986586495598010130648530944, 176946830798888001000954795864519469957120, 0⟩, ⟨516, 1023, 696898287454081973172991196020261297061888, 351171402662408494294202594869584794222592, 0⟩, ⟨1280, 2047, 1393796574908163946345982392040522594123776, 696898287454081973172991196020261297061888, 0⟩, ⟨2048, 4095, 2787593149816327892691964784081045188247552, 1393796574908163946345982392040522594189312, 0⟩, ⟨2048, 4095, 5575186299632655785383929568162090376495104, 1393796574908163946345982392040522594385920, 0⟩, ⟨14336, 16383, 11150372599265311570767859136324180752990208, 9756576024357147624421876744283658158866432, 0⟩, ⟨18432, 32767, 22300745198530623141535718272648361505980416, 12544169174173475517113841528364703347113984, 0⟩, ⟨34816, 65535, 44601490397061246283071436545296723011960832, 22300745198530623141535718272648361505980416, 0⟩, ⟨65536, 131071, 89202980794122492566142873090593446023921664, 44601490397061246283071436545296723012091904, 0⟩, ⟨65536, 131071, 178405961588244985132285746181186892047843328, 44601490397061246283071436545296723012485120, 0⟩, ⟨458752, 524287, 356811923176489970264571492362373784095686656, 312210432779428723981500055817077061083725824, 0⟩, ⟨589824, 1048575, 713623846352979940529142984724747568191373312, 401413413573551216547642928907670507107647488, 0⟩, ⟨1114112, 2097151, 1427247692705959881058285969449495136382746624, 713623846352979940529142984724747568191373312, 0⟩, ⟨2097152, 4194303, 2854495385411919762116571938898990272765493248, 1427247692705959881058285969449495136382746656, 0⟩, ⟨6291456, 8388607, 5708990770823839524233143877797980545530986496, 4281743078117879643174857908348485409148239872, 2⟩, ⟨2097152, 4194303, 11417981541647679048466287755595961091061972992, 1427247692705959881058285969449495136382746752, 0⟩, ⟨18874368, 20971519, 22835963083295358096932575511191922182123945984, 12845229234353638929524573725045456227444719616, 0⟩, ⟨35651584, 54525951, 45671926166590716193865151022383844364247891968, 24263210776001317977990861480641417318506692608, 0⟩, ⟨69206016, 121634815, 91343852333181432387730302044767688728495783936, 47099173859296676074923436991833339500630638592, 1⟩, ⟨136314880, 255852543, 182687704666362864775460604089535377456991567872, 92771100025887392268788588014217183864878530560, 0⟩, ⟨278921216, 536870911, 365375409332725729550921208179070754913983135744, 189823943129892664180752033936782853138905300992, 0⟩, ⟨538968064, 1073741823, 730750818665451459101842416358141509827966271488, 366802657025431689431979494148520250050365882368, 0⟩, ⟨1082130432, 2147483647, 1461501637330902918203684832716283019655932542976, 730750818665451459101842416358141509827966271488, 0⟩, ⟨2147483648, 4294967295, 2923003274661805836407369665432566039311865085952, 1461501637330902918203684832716283019655932543008, 0⟩, ⟨2147483648, 4294967295, 5846006549323611672814739330865132078623730171904, 1461501637330902918203684832716283019655932543488, 0⟩, ⟨10737418240, 12884901887, 11692013098647223345629478661730264157247460343808, 7307508186654514591018424163581415098279662714880, 1⟩, ⟨23622320128, 34359738367, 23384026197294446691258957323460528314494920687616, 16076518010639932100240533159879113216215257972736, 2⟩, ⟨2147483648, 4294967295, 46768052394588893382517914646921056628989841375232, 1461501637330902918203684832716283019655932543104, 0⟩, ⟨70866960384, 73014444031, 93536104789177786765035829293842113257979682750464, 48229554031919796300721599479637339648645773918208, 0⟩, ⟨139586437120, 210453397503, 187072209578355573530071658587684226515959365500928, 94997606426508689683239514126558396277635615293440, 0⟩, ⟨277025390592, 485331304447, 374144419156711147060143317175368453031918731001856, 188533711215686476448275343420400509535615298043904, 1⟩, ⟨2147483648, 4294967295, 748288838313422294120286634350736906063837462003712, 1461501637330902918203684832716283019655932543488, 0⟩, ⟨1101659111424, 1103806595071, 1496577676626844588240573268701473812127674924007424, 749750339950753197038490319183453189083493394546688, 1⟩, ⟨2785286291456, 4398046511103, 2993155353253689176481146537402947624255349848014848, 1872183597420886638218920270709558548179249587552256, 3⟩, ⟨4434553733120, 8796093022207, 5986310706507378352962293074805895248510699696029696, 3018000881088314526090609179559124435589500701245440, 0⟩, ⟨8798240505856, 17592186044415, 11972621413014756705924586149611790497021399392059392, 5987772208144709255880496759638611531530355628572672, 0⟩] 2766093156480 [(0, 0), (1, 0), (2, 0), (3, 0), (4, 0), (5, 0), (6, 0), (7, 1), (8, 2), (9, 0), (10, 0), (11, 0), (12, 0), (13, 0), (14, 0), (15, 0), (16, 0), (17, 0), (18, 0), (19, 0), (20, 0), (21, 0), (22, 0), (24, 0), (25, 0), (26, 0), (27, 1), (28, 0), (23, 2), (29, 0), (30, 0), (31, 0), (32, 0), (33, 0), (34, 1), (36, 0), (37, 0), (38, 0), (39, 1), (40, 0), (41, 1), (35, 2), (42, 3), (43, 0), (44, 0)] (by kernel_rfl) (by kernel_rfl) (by kernel_rfl) (by kernel_rfl) (by kernel_rfl) (by kernel_rfl) (fun c a d v w h => by cases d <;> exact h) ?_
        refine seq_calc (by simp only [List.getElem?_toArray, List.getElem?_cons_succ, List.getElem?_cons_zero]; rfl) (by rfl) (fun u => by go_simp <;> with_reducible rfl) ?_
        try simp only [Act.put, List.setIfInBounds_toArray, List.set_cons_zero, List.set_cons_succ]
        refine seq_calc (by simp only [List.getElem?_toArray, List.getElem?_cons_succ, List.getElem?_cons_zero]; rfl) (by rfl) (fun u => by go_simp <;> with_reducible rfl) ?_
        try simp only [Act.put, List.setIfInBounds_toArray, List.set_cons_zero, List.set_cons_succ]
        refine seq_calc (by simp only [List.getElem?_toArray, List.getElem?_cons_succ, List.getElem?_cons_zero]; rfl) (by rfl) (fun u => by go_simp <;> with_reducible rfl) ?_
        try simp only [Act.put, List.setIfInBounds_toArray, List.set_cons_zero, List.set_cons_succ]
        first
          | (refine seq_skip (by simp only [List.getElem?_toArray, List.getElem?_cons_succ, List.getElem?_cons_zero]; rfl) (by rfl) ?_)
          | (refine seq_calc (by simp only [List.getElem?_toArray, List.getElem?_cons_succ, List.getElem?_cons_zero]; rfl) (by rfl) (fun u => by go_simp <;> with_reducible rfl) ?_)
        try simp only [Act.put, List.setIfInBounds_toArray, List.set_cons_zero, List.set_cons_succ]
        first
          | (refine seq_skip (by simp only [List.getElem?_toArray, List.getElem?_cons_succ, List.getElem?_cons_zero]; rfl) (by rfl) ?_)
          | (refine seq_calc (by simp only [List.getElem?_toArray, List.getElem?_cons_succ, List.getElem?_cons_zero]; rfl) (by rfl) (fun u => by go_simp <;> with_reducible rfl) ?_)
        try simp only [Act.put, List.setIfInBounds_toArray, List.set_cons_zero, List.set_cons_succ]
        first
          | (refine seq_skip (by simp only [List.getElem?_toArray, List.getElem?_cons_succ, List.getElem?_cons_zero]; rfl) (by rfl) ?_)
          | (refine seq_calc (by simp only [List.getElem?_toArray, List.getElem?_cons_succ, List.getElem?_cons_zero]; rfl) (by rfl) (fun u => by go_simp <;> with_reducible rfl) ?_)
        try simp only [Act.put, List.setIfInBounds_toArray, List.set_cons_zero, List.set_cons_succ]
        first
          | (refine seq_skip (by simp only [List.getElem?_toArray, List.getElem?_cons_succ, List.getElem?_cons_zero]; rfl) (by rfl) ?_)
          | (refine seq_calc (by simp only [List.getElem?_toArray, List.getElem?_cons_succ, List.getElem?_cons_zero]; rfl) (by rfl) (fun u => by go_simp <;> with_reducible rfl) ?_)
        try simp only [Act.put, List.setIfInBounds_toArray, List.set_cons_zero, List.set_cons_succ]
        first
          | (refine seq_skip (by simp only [List.getElem?_toArray, List.getElem?_cons_succ, List.getElem?_cons_zero]; rfl) (by rfl) ?_)
          | (refine seq_load1 (by simp only [List.getElem?_toArray, List.getElem?_cons_succ, List.getElem?_cons_zero]; rfl) (by rfl) rfl rfl Tryd.underlying22 rfl (by go_simp <;> with_reducible rfl) (by first | exact id | assumption | (simp; done) | (simp; omega)) ?_)
        try simp only [Act.put, List.setIfInBounds_toArray, List.set_cons_zero, List.set_cons_succ]
        first
          | (refine seq_skip (by simp only [List.getElem?_toArray, List.getElem?_cons_succ, List.getElem?_cons_zero]; rfl) (by rfl) ?_)
          | (refine seq_do (by simp only [List.getElem?_toArray, List.getElem?_cons_succ, List.getElem?_cons_zero]; rfl) (by rfl) (fun K hK => ?_); go_wp2_with (first | (go_at_call 20; refine (sameInts_any _ _ (pushL n xs N) (pushL n xs N) _ (hr7.out.later (by go_grown)) (NW.out.later (by go_grown)) (by omega)).mono ?_; simp only [decide_true]; rintro e w' ⟨rfl, rfl⟩) | (go_at_call 22; refine (HLN.out _ (Q7.out.below (by go_grown))).mono ?_; rintro e w' ⟨rfl, rfl⟩) | (go_at_call 29; refine (HHS.out _ (Q7.out.below (by go_grown))).mono ?_; rintro e w8 ⟨rfl, hb8⟩; have hM8 := hb8.cell (p := ⟨M, 0, none⟩) hM7; have hC8 := hb8.cell (p := ⟨C, 1, none⟩) hC7; have hb8' := Below.undrew hb8; have NW8 := Lib.hid (NW.out.later hb8')) | (go_at_call 16; refine (HRS.out _ _ NW8.out).mono ?_; rintro e w' ⟨rfl, rfl⟩)); refine hK.out _ _ (by first | (with_reducible exact Chg.refl _ _) | (with_reducible assumption) | (refine Chg.of_below ?_; with_reducible assumption) | (with_reducible exact (Chg.refl _ _).alloc _) | (with_reducible exact (Chg.refl _ _).drewN _) | (with_reducible exact (Chg.refl _ _).drew) | exact ⟨rfl, rfl, rfl, Nat.le_refl _, fun _ _ _ => rfl⟩) ?_; clear hK K)
        try simp only [Act.put, List.setIfInBounds_toArray, List.set_cons_zero, List.set_cons_succ]
        first
          | (refine seq_skip (by simp only [List.getElem?_toArray, List.getElem?_cons_succ, List.getElem?_cons_zero]; rfl) (by rfl) ?_)
          | (refine seq_calc (by simp only [List.getElem?_toArray, List.getElem?_cons_succ, List.getElem?_cons_zero]; rfl) (by rfl) (fun u => by go_simp <;> with_reducible rfl) ?_)
        try simp only [Act.put, List.setIfInBounds_toArray, List.set_cons_zero, List.set_cons_succ]
        refine seq_calc (by simp only [List.getElem?_toArray, List.getElem?_cons_succ, List.getElem?_cons_zero]; rfl) (by rfl) (fun u => by go_simp <;> with_reducible rfl) ?_
        try simp only [Act.put, List.setIfInBounds_toArray, List.set_cons_zero, List.set_cons_succ]
        refine seq_calc (by simp only [List.getElem?_toArray, List.getElem?_cons_succ, List.getElem?_cons_zero]; rfl) (by rfl) (fun u => by go_simp <;> with_reducible rfl) ?_
        try simp only [Act.put, List.setIfInBounds_toArray, List.set_cons_zero, List.set_cons_succ]
        first
          | (refine seq_skip (by simp only [List.getElem?_toArray, List.getElem?_cons_succ, List.getElem?_cons_zero]; rfl) (by rfl) ?_)
          | (refine seq_calc (by simp only [List.getElem?_toArray, List.getElem?_cons_succ, List.getElem?_cons_zero]; rfl) (by rfl) (fun u => by go_simp <;> with_reducible rfl) ?_)
        try simp only [Act.put, List.setIfInBounds_toArray, List.set_cons_zero, List.set_cons_succ]
        first
          | (refine seq_skip (by simp only [List.getElem?_toArray, List.getElem?_cons_succ, List.getElem?_cons_zero]; rfl) (by rfl) ?_)
          | (refine seq_calc (by simp only [List.getElem?_toArray, List.getElem?_cons_succ, List.getElem?_cons_zero]; rfl) (by rfl) (fun u => by go_simp <;> with_reducible rfl) ?_)
        try simp only [Act.put, List.setIfInBounds_toArray, List.set_cons_zero, List.set_cons_succ]
        first
          | (refine seq_skip (by simp only [List.getElem?_toArray, List.getElem?_cons_succ, List.getElem?_cons_zero]; rfl) (by rfl) ?_)
          | (refine seq_calc (by simp only [List.getElem?_toArray, List.getElem?_cons_succ, List.getElem?_cons_zero]; rfl) (by rfl) (fun u => by go_simp <;> with_reducible rfl) ?_)
        try simp only [Act.put, List.setIfInBounds_toArray, List.set_cons_zero, List.set_cons_succ]
        refine seq_calc (by simp only [List.getElem?_toArray, List.getElem?_cons_succ, List.getElem?_cons_zero]; rfl) (by rfl) (fun u => by go_simp <;> with_reducible rfl) ?_
        try simp only [Act.put, List.setIfInBounds_toArray, List.set_cons_zero, List.set_cons_succ]
        refine seq_calc (by simp only [List.getElem?_toArray, List.getElem?_cons_succ, List.getElem?_cons_zero]; rfl) (by rfl) (fun u => by go_simp <;> with_reducible rfl) ?_
        try simp only [Act.put, List.setIfInBounds_toArray, List.set_cons_zero, List.set_cons_succ]
        first
          | (refine seq_skip (by simp only [List.getElem?_toArray, List.getElem?_cons_succ, List.getElem?_cons_zero]; rfl) (by rfl) ?_)
          | (refine seq_calc (by simp only [List.getElem?_toArray, List.getElem?_cons_succ, List.getElem?_cons_zero]; rfl) (by rfl) (fun u => by go_simp <;> with_reducible rfl) ?_)
        try simp only [Act.put, List.setIfInBounds_toArray, List.set_cons_zero, List.set_cons_succ]
        first
          | (refine seq_skip (by simp only [List.getElem?_toArray, List.getElem?_cons_succ, List.getElem?_cons_zero]; rfl) (by rfl) ?_)
          | (refine seq_calc (by simp only [List.getElem?_toArray, List.getElem?_cons_succ, List.getElem?_cons_zero]; rfl) (by rfl) (fun u => by go_simp <;> with_reducible rfl) ?_)
        try simp only [Act.put, List.setIfInBounds_toArray, List.set_cons_zero, List.set_cons_succ]
        first
          | (refine seq_skip (by simp only [List.getElem?_toArray, List.getElem?_cons_succ, List.getElem?_cons_zero]; rfl) (by rfl) ?_)
          | (refine seq_calc (by simp only [List.getElem?_toArray, List.getElem?_cons_succ, List.getElem?_cons_zero]; rfl) (by rfl) (fun u => by go_simp <;> with_reducible rfl) ?_)
        try simp only [Act.put, List.setIfInBounds_toArray, List.set_cons_zero, List.set_cons_succ]
        refine seq_calc (by simp only [List.getElem?_toArray, List.getElem?_cons_succ, List.getElem?_cons_zero]; rfl) (by rfl) (fun u => by go_simp <;> with_reducible rfl) ?_
        try simp only [Act.put, List.setIfInBounds_toArray, List.set_cons_zero, List.set_cons_succ]
        refine seq_calc (by simp only [List.getElem?_toArray, List.getElem?_cons_succ, List.getElem?_cons_zero]; rfl) (by rfl) (fun u => by go_simp <;> with_reducible rfl) ?_
        try simp only [Act.put, List.setIfInBounds_toArray, List.set_cons_zero, List.set_cons_succ]
        first
          | (refine seq_skip (by simp only [List.getElem?_toArray, List.getElem?_cons_succ, List.getElem?_cons_zero]; rfl) (by rfl) ?_)
          | (refine seq_calc (by simp only [List.getElem?_toArray, List.getElem?_cons_succ, List.getElem?_cons_zero]; rfl) (by rfl) (fun u => by go_simp <;> with_reducible rfl) ?_)
        try simp only [Act.put, List.setIfInBounds_toArray, List.set_cons_zero, List.set_cons_succ]
        first
          | (refine seq_skip (by simp only [List.getElem?_toArray, List.getElem?_cons_succ, List.getElem?_cons_zero]; rfl) (by rfl) ?_)
          | (refine seq_calc (by simp only [List.getElem?_toArray, List.getElem?_cons_succ, List.getElem?_cons_zero]; rfl) (by rfl) (fun u => by go_simp <;> with_reducible rfl) ?_)
        try simp only [Act.put, List.setIfInBounds_toArray, List.set_cons_zero, List.set_cons_succ]
        first
          | (refine seq_skip (by simp only [List.getElem?_toArray, List.getElem?_cons_succ, List.getElem?_cons_zero]; rfl) (by rfl) ?_)
          | (refine seq_calc (by simp only [List.getElem?_toArray, List.getElem?_cons_succ, List.getElem?_cons_zero]; rfl) (by rfl) (fun u => by go_simp <;> with_reducible rfl) ?_)
        try simp only [Act.put, List.setIfInBounds_toArray, List.set_cons_zero, List.set_cons_succ]
        first
          | (refine seq_skip (by simp only [List.getElem?_toArray, List.getElem?_cons_succ, List.getElem?_cons_zero]; rfl) (by rfl) ?_)
          | (refine seq_calc (by simp only [List.getElem?_toArray, List.getElem?_cons_succ, List.getElem?_cons_zero]; rfl) (by rfl) (fun u => by go_simp <;> with_reducible rfl) ?_)
        try simp only [Act.put, List.setIfInBounds_toArray, List.set_cons_zero, List.set_cons_succ]
        first
          | (refine seq_skip (by simp only [List.getElem?_toArray, List.getElem?_cons_succ, List.getElem?_cons_zero]; rfl) (by rfl) ?_)
          | (refine seq_load1 (by simp only [List.getElem?_toArray, List.getElem?_cons_succ, List.getElem?_cons_zero]; rfl) (by rfl) rfl rfl Tryd.underlying22 rfl (by go_simp <;> with_reducible rfl) (by first | exact id | assumption | (simp; done) | (simp; omega)) ?_)
        try simp only [Act.put, List.setIfInBounds_toArray, List.set_cons_zero, List.set_cons_succ]
        first
          | (refine seq_skip (by simp only [List.getElem?_toArray, List.getElem?_cons_succ, List.getElem?_cons_zero]; rfl) (by rfl) ?_)
          | (refine seq_calc (by simp only [List.getElem?_toArray, List.getElem?_cons_succ, List.getElem?_cons_zero]; rfl) (by rfl) (fun u => by go_simp <;> with_reducible rfl) ?_)
        try simp only [Act.put, List.setIfInBounds_toArray, List.set_cons_zero, List.set_cons_succ]
        first
          | (refine seq_skip (by simp only [List.getElem?_toArray, List.getElem?_cons_succ, List.getElem?_cons_zero]; rfl) (by rfl) ?_)
          | (refine seq_do (by simp only [List.getElem?_toArray, List.getElem?_cons_succ, List.getElem?_cons_zero]; rfl) (by rfl) (fun K hK => ?_); go_wp2_with (first | (go_at_call 20; refine (sameInts_any _ _ (pushL n xs N) (pushL n xs N) _ (hr7.out.later (by go_grown)) (NW.out.later (by go_grown)) (by omega)).mono ?_; simp only [decide_true]; rintro e w' ⟨rfl, rfl⟩) | (go_at_call 22; refine (HLN.out _ (Q7.out.below (by go_grown))).mono ?_; rintro e w' ⟨rfl, rfl⟩) | (go_at_call 29; refine (HHS.out _ (Q7.out.below (by go_grown))).mono ?_; rintro e w8 ⟨rfl, hb8⟩; have hM8 := hb8.cell (p := ⟨M, 0, none⟩) hM7; have hC8 := hb8.cell (p := ⟨C, 1, none⟩) hC7; have hb8' := Below.undrew hb8; have NW8 := Lib.hid (NW.out.later hb8')) | (go_at_call 16; refine (HRS.out _ _ NW8.out).mono ?_; rintro e w' ⟨rfl, rfl⟩)); refine hK.out _ _ (by first | (with_reducible exact Chg.refl _ _) | (with_reducible assumption) | (refine Chg.of_below ?_; with_reducible assumption) | (with_reducible exact (Chg.refl _ _).alloc _) | (with_reducible exact (Chg.refl _ _).drewN _) | (with_reducible exact (Chg.refl _ _).drew) | exact ⟨rfl, rfl, rfl, Nat.le_refl _, fun _ _ _ => rfl⟩) ?_; clear hK K)
        try simp only [Act.put, List.setIfInBounds_toArray, List.set_cons_zero, List.set_cons_succ]
        first
          | (refine seq_skip (by simp only [List.getElem?_toArray, List.getElem?_cons_succ, List.getElem?_cons_zero]; rfl) (by rfl) ?_)
          | (refine seq_calc (by simp only [List.getElem?_toArray, List.getElem?_cons_succ, List.getElem?_cons_zero]; rfl) (by rfl) (fun u => by go_simp <;> with_reducible rfl) ?_)
        try simp only [Act.put, List.setIfInBounds_toArray, List.set_cons_zero, List.set_cons_succ]
        refine seq_calc (by simp only [List.getElem?_toArray, List.getElem?_cons_succ, List.getElem?_cons_zero]; rfl) (by rfl) (fun u => by go_simp <;> with_reducible rfl) ?_
        try simp only [Act.put, List.setIfInBounds_toArray, List.set_cons_zero, List.set_cons_succ]
        refine seq_calc (by simp only [List.getElem?_toArray, List.getElem?_cons_succ, List.getElem?_cons_zero]; rfl) (by rfl) (fun u => by go_simp <;> with_reducible rfl) ?_
        try simp only [Act.put, List.setIfInBounds_toArray, List.set_cons_zero, List.set_cons_succ]
        first
          | (refine seq_skip (by simp only [List.getElem?_toArray, List.getElem?_cons_succ, List.getElem?_cons_zero]; rfl) (by rfl) ?_)
          | (refine seq_calc (by simp only [List.getElem?_toArray, List.getElem?_cons_succ, List.getElem?_cons_zero]; rfl) (by rfl) (fun u => by go_simp <;> with_reducible rfl) ?_)
        try simp only [Act.put, List.setIfInBounds_toArray, List.set_cons_zero, List.set_cons_succ]
        first
          | (refine seq_skip (by simp only [List.getElem?_toArray, List.getElem?_cons_succ, List.getElem?_cons_zero]; rfl) (by rfl) ?_)
          | (refine seq_calc (by simp only [List.getElem?_toArray, List.getElem?_cons_succ, List.getElem?_cons_zero]; rfl) (by rfl) (fun u => by go_simp <;> with_reducible rfl) ?_)
        try simp only [Act.put, List.setIfInBounds_toArray, List.set_cons_zero, List.set_cons_succ]
        first
          | (refine seq_skip (by simp only [List.getElem?_toArray, List.getElem?_cons_succ, List.getElem?_cons_zero]; rfl) (by rfl) ?_)
          | (refine seq_load1 (by simp only [List.getElem?_toArray, List.getElem?_cons_succ, List.getElem?_cons_zero]; rfl) (by rfl) rfl rfl Tryd.underlying3 rfl (by go_simp <;> with_reducible rfl) (by first | exact id | assumption | (simp; done) | (simp; omega)) ?_)
        try simp only [Act.put, List.setIfInBounds_toArray, List.set_cons_zero, List.set_cons_succ]
        first
          | (refine seq_skip (by simp only [List.getElem?_toArray, List.getElem?_cons_succ, List.getElem?_cons_zero]; rfl) (by rfl) ?_)
          | (refine seq_calc (by simp only [List.getElem?_toArray, List.getElem?_cons_succ, List.getElem?_cons_zero]; rfl) (by rfl) (fun u => by go_simp <;> with_reducible rfl) ?_)
        try simp only [Act.put, List.setIfInBounds_toArray, List.set_cons_zero, List.set_cons_succ]
        first
          | (refine seq_skip (by simp only [List.getElem?_toArray, List.getElem?_cons_succ, List.getElem?_cons_zero]; rfl) (by rfl) ?_)
          | (refine seq_calc (by simp only [List.getElem?_toArray, List.getElem?_cons_succ, List.getElem?_cons_zero]; rfl) (by rfl) (fun u => by go_simp <;> with_reducible rfl) ?_)
        try simp only [Act.put, List.setIfInBounds_toArray, List.set_cons_zero, List.set_cons_succ]
        first
          | (refine seq_skip (by simp only [List.getElem?_toArray, List.getElem?_cons_succ, List.getElem?_cons_zero]; rfl) (by rfl) ?_)
          | (refine seq_calc (by simp only [List.getElem?_toArray, List.getElem?_cons_succ, List.getElem?_cons_zero]; rfl) (by rfl) (fun u => by go_simp <;> with_reducible rfl) ?_)
        try simp only [Act.put, List.setIfInBounds_toArray, List.set_cons_zero, List.set_cons_succ]
        first
          | (refine seq_skip (by simp only [List.getElem?_toArray, List.getElem?_cons_succ, List.getElem?_cons_zero]; rfl) (by rfl) ?_)
          | (refine seq_load1 (by simp only [List.getElem?_toArray, List.getElem?_cons_succ, List.getElem?_cons_zero]; rfl) (by rfl) rfl rfl Tryd.underlying22 rfl (by go_simp <;> with_reducible rfl) (by first | exact id | assumption | (simp; done) | (simp; omega)) ?_)
        try simp only [Act.put, List.setIfInBounds_toArray, List.set_cons_zero, List.set_cons_succ]
        first
          | (refine seq_skip (by simp only [List.getElem?_toArray, List.getElem?_cons_succ, List.getElem?_cons_zero]; rfl) (by rfl) ?_)
          | (refine seq_calc (by simp only [List.getElem?_toArray, List.getElem?_cons_succ, List.getElem?_cons_zero]; rfl) (by rfl) (fun u => by go_simp <;> with_reducible rfl) ?_)
        try simp only [Act.put, List.setIfInBounds_toArray, List.set_cons_zero, List.set_cons_succ]
        first
          | (refine seq_skip (by simp only [List.getElem?_toArray, List.getElem?_cons_succ, List.getElem?_cons_zero]; rfl) (by rfl) ?_)
          | (refine seq_load1 (by simp only [List.getElem?_toArray, List.getElem?_cons_succ, List.getElem?_cons_zero]; rfl) (by rfl) rfl rfl Tryd.underlying3 rfl (by go_simp <;> with_reducible rfl) (by first | exact id | assumption | (simp; done) | (simp; omega)) ?_)
        try simp only [Act.put, List.setIfInBounds_toArray, List.set_cons_zero, List.set_cons_succ]
        first
          | (refine seq_skip (by simp only [List.getElem?_toArray, List.getElem?_cons_succ, List.getElem?_cons_zero]; rfl) (by rfl) ?_)
          | (refine seq_do (by simp only [List.getElem?_toArray, List.getElem?_cons_succ, List.getElem?_cons_zero]; rfl) (by rfl) (fun K hK => ?_); go_wp2_with (first | (go_at_call 20; refine (sameInts_any _ _ (pushL n xs N) (pushL n xs N) _ (hr7.out.later (by go_grown)) (NW.out.later (by go_grown)) (by omega)).mono ?_; simp only [decide_true]; rintro e w' ⟨rfl, rfl⟩) | (go_at_call 22; refine (HLN.out _ (Q7.out.below (by go_grown))).mono ?_; rintro e w' ⟨rfl, rfl⟩) | (go_at_call 29; refine (HHS.out _ (Q7.out.below (by go_grown))).mono ?_; rintro e w8 ⟨rfl, hb8⟩; have hM8 := hb8.cell (p := ⟨M, 0, none⟩) hM7; have hC8 := hb8.cell (p := ⟨C, 1, none⟩) hC7; have hb8' := Below.undrew hb8; have NW8 := Lib.hid (NW.out.later hb8')) | (go_at_call 16; refine (HRS.out _ _ NW8.out).mono ?_; rintro e w' ⟨rfl, rfl⟩)); refine hK.out _ _ (by first | (with_reducible exact Chg.refl _ _) | (with_reducible assumption) | (refine Chg.of_below ?_; with_reducible assumption) | (with_reducible exact (Chg.refl _ _).alloc _) | (with_reducible exact (Chg.refl _ _).drewN _) | (with_reducible exact (Chg.refl _ _).drew) | exact ⟨rfl, rfl, rfl, Nat.le_refl _, fun _ _ _ => rfl⟩) ?_; clear hK K)
        try simp only [Act.put, List.setIfInBounds_toArray, List.set_cons_zero, List.set_cons_succ]
        first
          | (refine seq_skip (by simp only [List.getElem?_toArray, List.getElem?_cons_succ, List.getElem?_cons_zero]; rfl) (by rfl) ?_)
          | (refine seq_last (by simp only [List.getElem?_toArray, List.getElem?_cons_succ, List.getElem?_cons_zero]; rfl) (by rfl) (fun K hK => ?_); go_wp2_with (first | (go_at_call 20; refine (sameInts_any _ _ (pushL n xs N) (pushL n xs N) _ (hr7.out.later (by go_grown)) (NW.out.later (by go_grown)) (by omega)).mono ?_; simp only [decide_true]; rintro e w' ⟨rfl, rfl⟩) | (go_at_call 22; refine (HLN.out _ (Q7.out.below (by go_grown))).mono ?_; rintro e w' ⟨rfl, rfl⟩) | (go_at_call 29; refine (HHS.out _ (Q7.out.below (by go_grown))).mono ?_; rintro e w8 ⟨rfl, hb8⟩; have hM8 := hb8.cell (p := ⟨M, 0, none⟩) hM7; have hC8 := hb8.cell (p := ⟨C, 1, none⟩) hC7; have hb8' := Below.undrew hb8; have NW8 := Lib.hid (NW.out.later hb8')) | (go_at_call 16; refine (HRS.out _ _ NW8.out).mono ?_; rintro e w' ⟨rfl, rfl⟩)); refine hK.out _ _ ?_; clear hK K)
        try simp only [Act.put, List.setIfInBounds_toArray, List.set_cons_zero, List.set_cons_succ]
        first
          | (refine seq_skip (by simp only [List.getElem?_toArray, List.getElem?_cons_succ, List.getElem?_cons_zero]; rfl) (by rfl) ?_)
          | (refine seq_calc (by simp only [List.getElem?_toArray, List.getElem?_cons_succ, List.getElem?_cons_zero]; rfl) (by rfl) (fun u => by go_simp <;> with_reducible rfl) ?_)
        try simp only [Act.put, List.setIfInBounds_toArray, List.set_cons_zero, List.set_cons_succ]
        refine seq_calc (by simp only [List.getElem?_toArray, List.getElem?_cons_succ, List.getElem?_cons_zero]; rfl) (by rfl) (fun u => by go_simp <;> with_reducible rfl) ?_
        try simp only [Act.put, List.setIfInBounds_toArray, List.set_cons_zero, List.set_cons_succ]
        refine seq_nil ?_
        go_wp2
        go_roundw
        case rel => exact ⟨k + 1, (pushL n xs N), by omega, by go_num, hpd.out, Q7.out.below hb8', R7.out.below hb8', NB7.trans (hb8'.mono NB7.size), by have := b67.out.size; have := hb8'.size; omega⟩
        case measure => simp [intOf]; omega
      by_cases q1 : q = 1
      · subst q1
        cases xs with
        | nil =>
          have PO := Lib.hid (fun (w' : World) h => pop_any B R n [] w' h)
          have RH := Lib.hid (fun (w' : World) h => rhead_any M Z0 n [] (by decide) w' h)
          simp only [headV, List.tail_nil] at PO RH
          go_upto_region 19 with (fail)
          obtain ⟨xs, hxs⟩ : ∃ xs : List Int, xs = [] := ⟨_, rfl⟩
          rw [← hxs] at HQ HR HND PO RH
          replace hxs := Lib.hid hxs
          refine wp_at (fun w hW => ?_)
          have NQ := Lib.hid (show QL w B R n xs by rw [hW]; exact HQ.out.below ((Below.refl _ _).alloc (Nat.le_refl _) _))
          have NR := Lib.hid (show RQ w M Z0 n xs by rw [hW]; exact HR.out.below ((Below.refl _ _).alloc (Nat.le_refl _) _))
          have NB := Lib.hid (show Below w0.heap.size w0 w by rw [hW]; exact hB.alloc hB.size _)
          have NC := Lib.hid (show Blk w C 46 #[.int .i64 1, .int .i64 N] by rw [hW, hC]; exact Blk.new _ _ _)
          have hCz : C < w.heap.size := by rw [hW, hC]; simp
          have hKw : Z0 ≤ w.heap.size := by rw [hW]; simp; omega
          have hCK : Z0 ≤ C := by rw [hC]; omega
          have c80 := NC.out.cell 0
          have c81 := NC.out.cell 1
          rw [← hC]
          replace hW := Lib.hid hW
          replace hC := Lib.hid hC
          have NB0 := NB.out.size
          go_upto_region 31 with (first
            | (go_at_call 21; refine (PO.out _ NQ.out).mono ?_; rintro e w4 ⟨rfl, hq4, hc4⟩; have NR4 := Lib.hid (NR.out.chg hc4 (by omega) (fun b hb e => by omega)); have NQ4 := Lib.hid hq4; have NB4 := Lib.hid (NB.out.trans (hc4.below NB0 (fun k hk e => by omega))); have c84 := (hc4.cells C 1 hCz (by omega)).trans c81; have hC4 : C < w4.heap.size := Nat.lt_of_lt_of_le hCz hc4.size; have hK4 : Z0 ≤ w4.heap.size := Nat.le_trans hKw hc4.size; clear NQ NR NB c81 c80 hCz hKw; have NQ := NQ4; have NR := NR4; have NB := NB4; have c81 := c84; have hCz := hC4; have hKw := hK4)
            | (go_at_call 25; refine (RH.out _ NR.out).mono ?_; rintro e w' ⟨rfl, rfl⟩))
          have HT1 := Lib.hid (all_any18 B R n (xs) _ NQ.out)
          have hlen2 := NQ.out.len
          obtain ⟨v2, hm1, hm2⟩ := NR.out
          have M1 := Lib.hid hm1
          have M2 := Lib.hid hm2
          obtain ⟨la, lc, rfl, -⟩ := id hm2.1
          have HHD := Lib.hid (fun (w' : World) h => head_any B R n (xs) w' h)
          have HRH := Lib.hid (fun (w' : World) h => rhead_any M Z0 n (xs) (by omega) w' h)
          have HLN := Lib.hid (fun (w' : World) h => len_any B R n (xs) w' h)
          have HHS := Lib.hid (fun (w' : World) h => has_any B R n (xs) N w' h)
          have HRS := Lib.hid (fun (w' : World) v h => numHas_any v (xs) N w' h (by omega))
          rw [headV_eq] at HHD HRH
          generalize hdL (xs) = hd at HHD HRH
          generalize neL (xs) = ne at HHD HRH
          generalize decide (N ∈ (xs)) = hs at HHS HRS
          have e1 : (hd != hd) = false := by simp
          have e2 : (ne != ne) = false := by simp
          have e3 : (hs != hs) = false := by simp
          have e4 : ((((xs)).length : Int) != (((xs)).length : Int)) = false := by simp
          have hbM := hm1.lt
          have hbq := NQ.out.lt
          clear hm1 hm2
          have NB0 := NB.out.size
          go_wp2_with (first
            | (go_at_call 19; refine HT1.out.mono ?_; rintro e w6 ⟨v6, rfl, hr6, hb6⟩; replace hr6 := Lib.hid hr6; have NB6 := NB.out.trans (hb6.mono NB0); have Q6 := Lib.hid (NQ.out.below hb6); have R6 := Lib.hid (NR.out.below hb6))
            | (go_at_call 28; refine (HHD.out _ Q6.out).mono ?_; rintro e w7 ⟨rfl, hb7⟩; have hr7 := Lib.hid (hr6.out.later hb7); have NB7 := NB6.trans (hb7.mono NB6.size); have Q7 := Lib.hid (Q6.out.below hb7); have R7 := Lib.hid (R6.out.below hb7); have b67 := Lib.hid (hb6.trans (hb7.mono hb6.size)))
            | (go_at_call 25; refine (HRH.out _ R7.out).mono ?_; rintro e w' ⟨rfl, rfl⟩))
          have m7 := (M1.out.below b67.out hbM).cell 0
          have c7 := (b67.out.cell (p := ⟨C, 1, none⟩) hCz).trans c81
          have NW := Lib.hid (M2.out.1.later b67.out)
          have hM7 : M < w7.heap.size := Nat.lt_of_lt_of_le hbM b67.out.size
          have hC7 : C < w7.heap.size := Nat.lt_of_lt_of_le hCz b67.out.size
          refine wp_region_seq (fun _ => False) #[⟨0, 0, 680564733841876926926749214863536422912, 32768, 0⟩, ⟨1, 1, 1361129467683753853853498429727072845824, 680564733841876926926749214863536422912, 0⟩, ⟨2, 3, 2722258935367507707706996859454145691648, 1361129467683753853853498429727072845824, 0⟩, ⟨4, 7, 5444517870735015415413993718908291383296, 2722258935367507707706996859454145708032, 0⟩, ⟨4, 7, 10889035741470030830827987437816582766592, 2722258935367507707706996859454145691776, 0⟩, ⟨20, 23, 21778071482940061661655974875633165533184, 13611294676837538538534984297270728458240, 0⟩, ⟨36, 55, 43556142965880123323311949751266331066368, 24500330418307569369362971735087311224832, 0⟩, ⟨68, 119, 87112285931760246646623899502532662132736, 46278401901247631031018946610720476758016, 1⟩, ⟨140, 255, 174224571863520493293247799005065324265472, 95279062737862769769744890080895099207680, 2⟩, ⟨260, 511, 348449143727040986586495598010130648530944, 176946830798888001000954795864519469957120, 0⟩, ⟨516, 1023, 696898287454081973172991196020261297061888, 351171402662408494294202594869584794222592, 0⟩, ⟨1280, 2047, 1393796574908163946345982392040522594123776, 696898287454081973172991196020261297061888, 0⟩, ⟨2048, 4095, 2787593149816327892691964784081045188247552, 1393796574908163946345982392040522594189312, 0⟩, ⟨2048, 4095, 5575186299632655785383929568162090376495104, 1393796574908163946345982392040522594385920, 0⟩, ⟨14336, 16383, 11150372599265311570767859136324180752990208, 9756576024357147624421876744283658158866432, 0⟩, ⟨18432, 32767, 22300745198530623141535718272648361505980416, 12544169174173475517113841528364703347113984, 0⟩, ⟨34816, 65535, 44601490397061246283071436545296723011960832, 22300745198530623141535718272648361505980416, 0⟩, ⟨65536, 131071, 89202980794122492566142873090593446023921664, 44601490397061246283071436545296723012091904, 0⟩, ⟨65536, 131071, 178405961588244985132285746181186892047843328, 44601490397061246283071436545296723012485120, 0⟩, ⟨458752, 524287, 356811923176489970264571492362373784095686656, 312210432779428723981500055817077061083725824, 0⟩, ⟨589824, 1048575, 713623846352979940529142984724747568191373312, 401413413573551216547642928907670507107647488, 0⟩, ⟨1114112, 2097151, 1427247692705959881058285969449495136382746624, 713623846352979940529142984724747568191373312, 0⟩, ⟨2097152, 4194303, 2854495385411919762116571938898990272765493248, 1427247692705959881058285969449495136382746656, 0⟩, ⟨6291456, 8388607, 5708990770823839524233143877797980545530986496, 4281743078117879643174857908348485409148239872, 2⟩, ⟨2097152, 4194303, 11417981541647679048466287755595961091061972992, 1427247692705959881058285969449495136382746752, 0⟩, ⟨18874368, 20971519, 22835963083295358096932575511191922182123945984, 12845229234353638929524573725045456227444719616, 0⟩, ⟨35651584, 54525951, 45671926166590716193865151022383844364247891968, 24263210776001317977990861480641417318506692608, 0⟩, ⟨69206016, 121634815, 91343852333181432387730302044767688728495783936, 47099173859296676074923436991833339500630638592, 1⟩, ⟨136314880, 255852543, 182687704666362864775460604089535377456991567872, 92771100025887392268788588014217183864878530560, 0⟩, ⟨278921216, 536870911, 365375409332725729550921208179070754913983135744, 189823943129892664180752033936782853138905300992, 0⟩, ⟨538968064, 1073741823, 730750818665451459101842416358141509827966271488, 366802657025431689431979494148520250050365882368, 0⟩, ⟨1082130432, 2147483647, 1461501637330902918203684832716283019655932542976, 730750818665451459101842416358141509827966271488, 0⟩, ⟨2147483648, 4294967295, 2923003274661805836407369665432566039311865085952, 1461501637330902918203684832716283019655932543008, 0⟩, ⟨2147483648, 4294967295, 5846006549323611672814739330865132078623730171904, 1461501637330902918203684832716283019655932543488, 0⟩, ⟨10737418240, 12884901887, 11692013098647223345629478661730264157247460343808, 7307508186654514591018424163581415098279662714880, 1⟩, ⟨23622320128, 34359738367, 23384026197294446691258957323460528314494920687616, 16076518010639932100240533159879113216215257972736, 2⟩, ⟨2147483648, 4294967295, 46768052394588893382517914646921056628989841375232, 1461501637330902918203684832716283019655932543104, 0⟩, ⟨70866960384, 73014444031, 93536104789177786765035829293842113257979682750464, 48229554031919796300721599479637339648645773918208, 0⟩, ⟨139586437120, 210453397503, 187072209578355573530071658587684226515959365500928, 94997606426508689683239514126558396277635615293440, 0⟩, ⟨277025390592, 485331304447, 374144419156711147060143317175368453031918731001856, 188533711215686476448275343420400509535615298043904, 1⟩, ⟨2147483648, 4294967295, 748288838313422294120286634350736906063837462003712, 1461501637330902918203684832716283019655932543488, 0⟩, ⟨1101659111424, 1103806595071, 1496577676626844588240573268701473812127674924007424, 749750339950753197038490319183453189083493394546688, 1⟩, ⟨2785286291456, 4398046511103, 2993155353253689176481146537402947624255349848014848, 1872183597420886638218920270709558548179249587552256, 3⟩, ⟨4434553733120, 8796093022207, 5986310706507378352962293074805895248510699696029696, 3018000881088314526090609179559124435589500701245440, 0⟩, ⟨8798240505856, 17592186044415, 11972621413014756705924586149611790497021399392059392, 5987772208144709255880496759638611531530355628572672, 0⟩] 2766093156480 [(0, 0), (1, 0), (2, 0), (3, 0), (4, 0), (5, 0), (6, 0), (7, 1), (8, 2), (9, 0), (10, 0), (11, 0), (12, 0), (13, 0), (14, 0), (15, 0), (16, 0), (17, 0), (18, 0), (19, 0), (20, 0), (21, 0), (22, 0), (24, 0), (25, 0), (26, 0), (27, 1), (28, 0), (23, 2), (29, 0), (30, 0), (31, 0), (32, 0), (33, 0), (34, 1), (36, 0), (37, 0), (38, 0), (39, 1), (40, 0), (41, 1), (35, 2), (42, 3), (43, 0), (44, 0)] (by kernel_rfl) (by kernel_rfl) (by kernel_rfl) (by kernel_rfl) (by kernel_rfl) (by kernel_rfl) (fun c a d v w h => by cases d <;> exact h) ?_
          refine seq_calc (by simp only [List.getElem?_toArray, List.getElem?_cons_succ, List.getElem?_cons_zero]; rfl) (by rfl) (fun u => by go_simp <;> with_reducible rfl) ?_
          try simp only [Act.put, List.setIfInBounds_toArray, List.set_cons_zero, List.set_cons_succ]
          refine seq_calc (by simp only [List.getElem?_toArray, List.getElem?_cons_succ, List.getElem?_cons_zero]; rfl) (by rfl) (fun u => by go_simp <;> with_reducible rfl) ?_
          try simp only [Act.put, List.setIfInBounds_toArray, List.set_cons_zero, List.set_cons_succ]
          refine seq_calc (by simp only [List.getElem?_toArray, List.getElem?_cons_succ, List.getElem?_cons_zero]; rfl) (by rfl) (fun u => by go_simp <;> with_reducible rfl) ?_
          try simp only [Act.put, List.setIfInBounds_toArray, List.set_cons_zero, List.set_cons_succ]
          first
            | (refine seq_skip (by simp only [List.getElem?_toArray, List.getElem?_cons_succ, List.getElem?_cons_zero]; rfl) (by rfl) ?_)
            | (refine seq_calc (by simp only [List.getElem?_toArray, List.getElem?_cons_succ, List.getElem?_cons_zero]; rfl) (by rfl) (fun u => by go_simp <;> with_reducible rfl) ?_)
          try simp only [Act.put, List.setIfInBounds_toArray, List.set_cons_zero, List.set_cons_succ]
          first
            | (refine seq_skip (by simp only [List.getElem?_toArray, List.getElem?_cons_succ, List.getElem?_cons_zero]; rfl) (by rfl) ?_)
            | (refine seq_calc (by simp only [List.getElem?_toArray, List.getElem?_cons_succ, List.getElem?_cons_zero]; rfl) (by rfl) (fun u => by go_simp <;> with_reducible rfl) ?_)
          try simp only [Act.put, List.setIfInBounds_toArray, List.set_cons_zero, List.set_cons_succ]
          first
            | (refine seq_skip (by simp only [List.getElem?_toArray, List.getElem?_cons_succ, List.getElem?_cons_zero]; rfl) (by rfl) ?_)
            | (refine seq_calc (by simp only [List.getElem?_toArray, List.getElem?_cons_succ, List.getElem?_cons_zero]; rfl) (by rfl) (fun u => by go_simp <;> with_reducible rfl) ?_)
          try simp only [Act.put, List.setIfInBounds_toArray, List.set_cons_zero, List.set_cons_succ]
          first
            | (refine seq_skip (by simp only [List.getElem?_toArray, List.getElem?_cons_succ, List.getElem?_cons_zero]; rfl) (by rfl) ?_)
            | (refine seq_calc (by simp only [List.getElem?_toArray, List.getElem?_cons_succ, List.getElem?_cons_zero]; rfl) (by rfl) (fun u => by go_simp <;> with_reducible rfl) ?_)
          try simp only [Act.put, List.setIfInBounds_toArray, List.set_cons_zero, List.set_cons_succ]
          first
            | (refine seq_skip (by simp only [List.getElem?_toArray, List.getElem?_cons_succ, List.getElem?_cons_zero]; rfl) (by rfl) ?_)
            | (refine seq_load1 (by simp only [List.getElem?_toArray, List.getElem?_cons_succ, List.getElem?_cons_zero]; rfl) (by rfl) rfl rfl Tryd.underlying22 rfl (by go_simp <;> with_reducible rfl) (by first | exact id | assumption | (simp; done) | (simp; omega)) ?_)
          try simp only [Act.put, List.setIfInBounds_toArray, List.set_cons_zero, List.set_cons_succ]
          first
            | (refine seq_skip (by simp only [List.getElem?_toArray, List.getElem?_cons_succ, List.getElem?_cons_zero]; rfl) (by rfl) ?_)
            | (refine seq_do (by simp only [List.getElem?_toArray, List.getElem?_cons_succ, List.getElem?_cons_zero]; rfl) (by rfl) (fun K hK => ?_); go_wp2_with (first | (go_at_call 20; refine (sameInts_any _ _ (xs) (xs) _ (hr7.out.later (by go_grown)) (NW.out.later (by go_grown)) (by omega)).mono ?_; simp only [decide_true]; rintro e w' ⟨rfl, rfl⟩) | (go_at_call 22; refine (HLN.out _ (Q7.out.below (by go_grown))).mono ?_; rintro e w' ⟨rfl, rfl⟩) | (go_at_call 29; refine (HHS.out _ (Q7.out.below (by go_grown))).mono ?_; rintro e w8 ⟨rfl, hb8⟩; have hM8 := hb8.cell (p := ⟨M, 0, none⟩) hM7; have hC8 := hb8.cell (p := ⟨C, 1, none⟩) hC7; have hb8' := Below.undrew hb8; have NW8 := Lib.hid (NW.out.later hb8')) | (go_at_call 16; refine (HRS.out _ _ NW8.out).mono ?_; rintro e w' ⟨rfl, rfl⟩)); refine hK.out _ _ (by first | (with_reducible exact Chg.refl _ _) | (with_reducible assumption) | (refine Chg.of_below ?_; with_reducible assumption) | (with_reducible exact (Chg.refl _ _).alloc _) | (with_reducible exact (Chg.refl _ _).drewN _) | (with_reducible exact (Chg.refl _ _).drew) | exact ⟨rfl, rfl, rfl, Nat.le_refl _, fun _ _ _ => rfl⟩) ?_; clear hK K)
          try simp only [Act.put, List.setIfInBounds_toArray, List.set_cons_zero, List.set_cons_succ]
          first
            | (refine seq_skip (by simp only [List.getElem?_toArray, List.getElem?_cons_succ, List.getElem?_cons_zero]; rfl) (by rfl) ?_)
            | (refine seq_calc (by simp only [List.getElem?_toArray, List.getElem?_cons_succ, List.getElem?_cons_zero]; rfl) (by rfl) (fun u => by go_simp <;> with_reducible rfl) ?_)
          try simp only [Act.put, List.setIfInBounds_toArray, List.set_cons_zero, List.set_cons_succ]
          refine seq_calc (by simp only [List.getElem?_toArray, List.getElem?_cons_succ, List.getElem?_cons_zero]; rfl) (by rfl) (fun u => by go_simp <;> with_reducible rfl) ?_
          try simp only [Act.put, List.setIfInBounds_toArray, List.set_cons_zero, List.set_cons_succ]
          refine seq_calc (by simp only [List.getElem?_toArray, List.getElem?_cons_succ, List.getElem?_cons_zero]; rfl) (by rfl) (fun u => by go_simp <;> with_reducible rfl) ?_
          try simp only [Act.put, List.setIfInBounds_toArray, List.set_cons_zero, List.set_cons_succ]
          first
            | (refine seq_skip (by simp only [List.getElem?_toArray, List.getElem?_cons_succ, List.getElem?_cons_zero]; rfl) (by rfl) ?_)
            | (refine seq_calc (by simp only [List.getElem?_toArray, List.getElem?_cons_succ, List.getElem?_cons_zero]; rfl) (by rfl) (fun u => by go_simp <;> with_reducible rfl) ?_)
          try simp only [Act.put, List.setIfInBounds_toArray, List.set_cons_zero, List.set_cons_succ]
          first
            | (refine seq_skip (by simp only [List.getElem?_toArray, List.getElem?_cons_succ, List.getElem?_cons_zero]; rfl) (by rfl) ?_)
            | (refine seq_calc (by simp only [List.getElem?_toArray, List.getElem?_cons_succ, List.getElem?_cons_zero]; rfl) (by rfl) (fun u => by go_simp <;> with_reducible rfl) ?_)
          try simp only [Act.put, List.setIfInBounds_toArray, List.set_cons_zero, List.set_cons_succ]
          first
            | (refine seq_skip (by simp only [List.getElem?_toArray, List.getElem?_cons_succ, List.getElem?_cons_zero]; rfl) (by rfl) ?_)
            | (refine seq_calc (by simp only [List.getElem?_toArray, List.getElem?_cons_succ, List.getElem?_cons_zero]; rfl) (by rfl) (fun u => by go_simp <;> with_reducible rfl) ?_)
          try simp only [Act.put, List.setIfInBounds_toArray, List.set_cons_zero, List.set_cons_succ]
          refine seq_calc (by simp only [List.getElem?_toArray, List.getElem?_cons_succ, List.getElem?_cons_zero]; rfl) (by rfl) (fun u => by go_simp <;> with_reducible rfl) ?_
          try simp only [Act.put, List.setIfInBounds_toArray, List.set_cons_zero, List.set_cons_succ]
          refine seq_calc (by simp only [List.getElem?_toArray, List.getElem?_cons_succ, List.getElem?_cons_zero]; rfl) (by rfl) (fun u => by go_simp <;> with_reducible rfl) ?_
          try simp only [Act.put, List.setIfInBounds_toArray, List.set_cons_zero, List.set_cons_succ]
          first
            | (refine seq_skip (by simp only [List.getElem?_toArray, List.getElem?_cons_succ, List.getElem?_cons_zero]; rfl) (by rfl) ?_)
            | (refine seq_calc (by simp only [List.getElem?_toArray, List.getElem?_cons_succ, List.getElem?_cons_zero]; rfl) (by rfl) (fun u => by go_simp <;> with_reducible rfl) ?_)
          try simp only [Act.put, List.setIfInBounds_toArray, List.set_cons_zero, List.set_cons_succ]
          first
            | (refine seq_skip (by simp only [List.getElem?_toArray, List.getElem?_cons_succ, List.getElem?_cons_zero]; rfl) (by rfl) ?_)
            | (refine seq_calc (by simp only [List.getElem?_toArray, List.getElem?_cons_succ, List.getElem?_cons_zero]; rfl) (by rfl) (fun u => by go_simp <;> with_reducible rfl) ?_)
          try simp only [Act.put, List.setIfInBounds_toArray, List.set_cons_zero, List.set_cons_succ]
          first
            | (refine seq_skip (by simp only [List.getElem?_toArray, List.getElem?_cons_succ, List.getElem?_cons_zero]; rfl) (by rfl) ?_)
            | (refine seq_calc (by simp only [List.getElem?_toArray, List.getElem?_cons_succ, List.getElem?_cons_zero]; rfl) (by rfl) (fun u => by go_simp <;> with_reducible rfl) ?_)
          try simp only [Act.put, List.setIfInBounds_toArray, List.set_cons_zero, List.set_cons_succ]
          refine seq_calc (by simp only [List.getElem?_toArray, List.getElem?_cons_succ, List.getElem?_cons_zero]; rfl) (by rfl) (fun u => by go_simp <;> with_reducible rfl) ?_
          try simp only [Act.put, List.setIfInBounds_toArray, List.set_cons_zero, List.set_cons_succ]
          refine seq_calc (by simp only [List.getElem?_toArray, List.getElem?_cons_succ, List.getElem?_cons_zero]; rfl) (by rfl) (fun u => by go_simp <;> with_reducible rfl) ?_
          try simp only [Act.put, List.setIfInBounds_toArray, List.set_cons_zero, List.set_cons_succ]
          first
            | (refine seq_skip (by simp only [List.getElem?_toArray, List.getElem?_cons_succ, List.getElem?_cons_zero]; rfl) (by rfl) ?_)
            | (refine seq_calc (by simp only [List.getElem?_toArray, List.getElem?_cons_succ, List.getElem?_cons_zero]; rfl) (by rfl) (fun u => by go_simp <;> with_reducible rfl) ?_)
          try simp only [Act.put, List.setIfInBounds_toArray, List.set_cons_zero, List.set_cons_succ]
          first
            | (refine seq_skip (by simp only [List.getElem?_toArray, List.getElem?_cons_succ, List.getElem?_cons_zero]; rfl) (by rfl) ?_)
            | (refine seq_calc (by simp only [List.getElem?_toArray, List.getElem?_cons_succ, List.getElem?_cons_zero]; rfl) (by rfl) (fun u => by go_simp <;> with_reducible rfl) ?_)
          try simp only [Act.put, List.setIfInBounds_toArray, List.set_cons_zero, List.set_cons_succ]
          first
            | (refine seq_skip (by simp only [List.getElem?_toArray, List.getElem?_cons_succ, List.getElem?_cons_zero]; rfl) (by rfl) ?_)
            | (refine seq_calc (by simp only [List.getElem?_toArray, List.getElem?_cons_succ, List.getElem?_cons_zero]; rfl) (by rfl) (fun u => by go_simp <;> with_reducible rfl) ?_)
          try simp only [Act.put, List.setIfInBounds_toArray, List.set_cons_zero, List.set_cons_succ]
          first
            | (refine seq_skip (by simp only [List.getElem?_toArray, List.getElem?_cons_succ, List.getElem?_cons_zero]; rfl) (by rfl) ?_)
            | (refine seq_calc (by simp only [List.getElem?_toArray, List.getElem?_cons_succ, List.getElem?_cons_zero]; rfl) (by rfl) (fun u => by go_simp <;> with_reducible rfl) ?_)
          try simp only [Act.put, List.setIfInBounds_toArray, List.set_cons_zero, List.set_cons_succ]
          first
            | (refine seq_skip (by simp only [List.getElem?_toArray, List.getElem?_cons_succ, List.getElem?_cons_zero]; rfl) (by rfl) ?_)
            | (refine seq_load1 (by simp only [List.getElem?_toArray, List.getElem?_cons_succ, List.getElem?_cons_zero]; rfl) (by rfl) rfl rfl Tryd.underlying22 rfl (by go_simp <;> with_reducible rfl) (by first | exact id | assumption | (simp; done) | (simp; omega)) ?_)
          try simp only [Act.put, List.setIfInBounds_toArray, List.set_cons_zero, List.set_cons_succ]
          first
            | (refine seq_skip (by simp only [List.getElem?_toArray, List.getElem?_cons_succ, List.getElem?_cons_zero]; rfl) (by rfl) ?_)
            | (refine seq_calc (by simp only [List.getElem?_toArray, List.getElem?_cons_succ, List.getElem?_cons_zero]; rfl) (by rfl) (fun u => by go_simp <;> with_reducible rfl) ?_)
          try simp only [Act.put, List.setIfInBounds_toArray, List.set_cons_zero, List.set_cons_succ]
          first
            | (refine seq_skip (by simp only [List.getElem?_toArray, List.getElem?_cons_succ, List.getElem?_cons_zero]; rfl) (by rfl) ?_)
            | (refine seq_do (by simp only [List.getElem?_toArray, List.getElem?_cons_succ, List.getElem?_cons_zero]; rfl) (by rfl) (fun K hK => ?_); go_wp2_with (first | (go_at_call 20; refine (sameInts_any _ _ (xs) (xs) _ (hr7.out.later (by go_grown)) (NW.out.later (by go_grown)) (by omega)).mono ?_; simp only [decide_true]; rintro e w' ⟨rfl, rfl⟩) | (go_at_call 22; refine (HLN.out _ (Q7.out.below (by go_grown))).mono ?_; rintro e w' ⟨rfl, rfl⟩) | (go_at_call 29; refine (HHS.out _ (Q7.out.below (by go_grown))).mono ?_; rintro e w8 ⟨rfl, hb8⟩; have hM8 := hb8.cell (p := ⟨M, 0, none⟩) hM7; have hC8 := hb8.cell (p := ⟨C, 1, none⟩) hC7; have hb8' := Below.undrew hb8; have NW8 := Lib.hid (NW.out.later hb8')) | (go_at_call 16; refine (HRS.out _ _ NW8.out).mono ?_; rintro e w' ⟨rfl, rfl⟩)); refine hK.out _ _ (by first | (with_reducible exact Chg.refl _ _) | (with_reducible assumption) | (refine Chg.of_below ?_; with_reducible assumption) | (with_reducible exact (Chg.refl _ _).alloc _) | (with_reducible exact (Chg.refl _ _).drewN _) | (with_reducible exact (Chg.refl _ _).drew) | exact ⟨rfl, rfl, rfl, Nat.le_refl _, fun _ _ _ => rfl⟩) ?_; clear hK K)
          try simp only [Act.put, List.setIfInBounds_toArray, List.set_cons_zero, List.set_cons_succ]
          first
            | (refine seq_skip (by simp only [List.getElem?_toArray, List.getElem?_cons_succ, List.getElem?_cons_zero]; rfl) (by rfl) ?_)
            | (refine seq_calc (by simp only [List.getElem?_toArray, List.getElem?_cons_succ, List.getElem?_cons_zero]; rfl) (by rfl) (fun u => by go_simp <;> with_reducible rfl) ?_)
          try simp only [Act.put, List.setIfInBounds_toArray, List.set_cons_zero, List.set_cons_succ]
          refine seq_calc (by simp only [List.getElem?_toArray, List.getElem?_cons_succ, List.getElem?_cons_zero]; rfl) (by rfl) (fun u => by go_simp <;> with_reducible rfl) ?_
          try simp only [Act.put, List.setIfInBounds_toArray, List.set_cons_zero, List.set_cons_succ]
          refine seq_calc (by simp only [List.getElem?_toArray, List.getElem?_cons_succ, List.getElem?_cons_zero]; rfl) (by rfl) (fun u => by go_simp <;> with_reducible rfl) ?_
          try simp only [Act.put, List.setIfInBounds_toArray, List.set_cons_zero, List.set_cons_succ]
          first
            | (refine seq_skip (by simp only [List.getElem?_toArray, List.getElem?_cons_succ, List.getElem?_cons_zero]; rfl) (by rfl) ?_)
            | (refine seq_calc (by simp only [List.getElem?_toArray, List.getElem?_cons_succ, List.getElem?_cons_zero]; rfl) (by rfl) (fun u => by go_simp <;> with_reducible rfl) ?_)
          try simp only [Act.put, List.setIfInBounds_toArray, List.set_cons_zero, List.set_cons_succ]
          first
            | (refine seq_skip (by simp only [List.getElem?_toArray, List.getElem?_cons_succ, List.getElem?_cons_zero]; rfl) (by rfl) ?_)
            | (refine seq_calc (by simp only [List.getElem?_toArray, List.getElem?_cons_succ, List.getElem?_cons_zero]; rfl) (by rfl) (fun u => by go_simp <;> with_reducible rfl) ?_)
          try simp only [Act.put, List.setIfInBounds_toArray, List.set_cons_zero, List.set_cons_succ]
          first
            | (refine seq_skip (by simp only [List.getElem?_toArray, List.getElem?_cons_succ, List.getElem?_cons_zero]; rfl) (by rfl) ?_)
            | (refine seq_load1 (by simp only [List.getElem?_toArray, List.getElem?_cons_succ, List.getElem?_cons_zero]; rfl) (by rfl) rfl rfl Tryd.underlying3 rfl (by go_simp <;> with_reducible rfl) (by first | exact id | assumption | (simp; done) | (simp; omega)) ?_)
          try simp only [Act.put, List.setIfInBounds_toArray, List.set_cons_zero, List.set_cons_succ]
          first
            | (refine seq_skip (by simp only [List.getElem?_toArray, List.getElem?_cons_succ, List.getElem?_cons_zero]; rfl) (by rfl) ?_)
            | (refine seq_calc (by simp only [List.getElem?_toArray, List.getElem?_cons_succ, List.getElem?_cons_zero]; rfl) (by rfl) (fun u => by go_simp <;> with_reducible rfl) ?_)
          try simp only [Act.put, List.setIfInBounds_toArray, List.set_cons_zero, List.set_cons_succ]
          first
            | (refine seq_skip (by simp only [List.getElem?_toArray, List.getElem?_cons_succ, List.getElem?_cons_zero]; rfl) (by rfl) ?_)
            | (refine seq_calc (by simp only [List.getElem?_toArray, List.getElem?_cons_succ, List.getElem?_cons_zero]; rfl) (by rfl) (fun u => by go_simp <;> with_reducible rfl) ?_)
          try simp only [Act.put, List.setIfInBounds_toArray, List.set_cons_zero, List.set_cons_succ]
          first
            | (refine seq_skip (by simp only [List.getElem?_toArray, List.getElem?_cons_succ, List.getElem?_cons_zero]; rfl) (by rfl) ?_)
            | (refine seq_calc (by simp only [List.getElem?_toArray, List.getElem?_cons_succ, List.getElem?_cons_zero]; rfl) (by rfl) (fun u => by go_simp <;> with_reducible rfl) ?_)
          try simp only [Act.put, List.setIfInBounds_toArray, List.set_cons_zero, List.set_cons_succ]
          first
            | (refine seq_skip (by simp only [List.getElem?_toArray, List.getElem?_cons_succ, List.getElem?_cons_zero]; rfl) (by rfl) ?_)
            | (refine seq_load1 (by simp only [List.getElem?_toArray, List.getElem?_cons_succ, List.getElem?_cons_zero]; rfl) (by rfl) rfl rfl Tryd.underlying22 rfl (by go_simp <;> with_reducible rfl) (by first | exact id | assumption | (simp; done) | (simp; omega)) ?_)
          try simp only [Act.put, List.setIfInBounds_toArray, List.set_cons_zero, List.set_cons_succ]
          first
            | (refine seq_skip (by simp only [List.getElem?_toArray, List.getElem?_cons_succ, List.getElem?_cons_zero]; rfl) (by rfl) ?_)
            | (refine seq_calc (by simp only [List.getElem?_toArray, List.getElem?_cons_succ, List.getElem?_cons_zero]; rfl) (by rfl) (fun u => by go_simp <;> with_reducible rfl) ?_)
          try simp only [Act.put, List.setIfInBounds_toArray, List.set_cons_zero, List.set_cons_succ]
          first
            | (refine seq_skip (by simp only [List.getElem?_toArray, List.getElem?_cons_succ, List.getElem?_cons_zero]; rfl) (by rfl) ?_)
            | (refine seq_load1 (by simp only [List.getElem?_toArray, List.getElem?_cons_succ, List.getElem?_cons_zero]; rfl) (by rfl) rfl rfl Tryd.underlying3 rfl (by go_simp <;> with_reducible rfl) (by first | exact id | assumption | (simp; done) | (simp; omega)) ?_)
          try simp only [Act.put, List.setIfInBounds_toArray, List.set_cons_zero, List.set_cons_succ]
          first
            | (refine seq_skip (by simp only [List.getElem?_toArray, List.getElem?_cons_succ, List.getElem?_cons_zero]; rfl) (by rfl) ?_)
            | (refine seq_do (by simp only [List.getElem?_toArray, List.getElem?_cons_succ, List.getElem?_cons_zero]; rfl) (by rfl) (fun K hK => ?_); go_wp2_with (first | (go_at_call 20; refine (sameInts_any _ _ (xs) (xs) _ (hr7.out.later (by go_grown)) (NW.out.later (by go_grown)) (by omega)).mono ?_; simp only [decide_true]; rintro e w' ⟨rfl, rfl⟩) | (go_at_call 22; refine (HLN.out _ (Q7.out.below (by go_grown))).mono ?_; rintro e w' ⟨rfl, rfl⟩) | (go_at_call 29; refine (HHS.out _ (Q7.out.below (by go_grown))).mono ?_; rintro e w8 ⟨rfl, hb8⟩; have hM8 := hb8.cell (p := ⟨M, 0, none⟩) hM7; have hC8 := hb8.cell (p := ⟨C, 1, none⟩) hC7; have hb8' := Below.undrew hb8; have NW8 := Lib.hid (NW.out.later hb8')) | (go_at_call 16; refine (HRS.out _ _ NW8.out).mono ?_; rintro e w' ⟨rfl, rfl⟩)); refine hK.out _ _ (by first | (with_reducible exact Chg.refl _ _) | (with_reducible assumption) | (refine Chg.of_below ?_; with_reducible assumption) | (with_reducible exact (Chg.refl _ _).alloc _) | (with_reducible exact (Chg.refl _ _).drewN _) | (with_reducible exact (Chg.refl _ _).drew) | exact ⟨rfl, rfl, rfl, Nat.le_refl _, fun _ _ _ => rfl⟩) ?_; clear hK K)
          try simp only [Act.put, List.setIfInBounds_toArray, List.set_cons_zero, List.set_cons_succ]
          first
            | (refine seq_skip (by simp only [List.getElem?_toArray, List.getElem?_cons_succ, List.getElem?_cons_zero]; rfl) (by rfl) ?_)
            | (refine seq_last (by simp only [List.getElem?_toArray, List.getElem?_cons_succ, List.getElem?_cons_zero]; rfl) (by rfl) (fun K hK => ?_); go_wp2_with (first | (go_at_call 20; refine (sameInts_any _ _ (xs) (xs) _ (hr7.out.later (by go_grown)) (NW.out.later (by go_grown)) (by omega)).mono ?_; simp only [decide_true]; rintro e w' ⟨rfl, rfl⟩) | (go_at_call 22; refine (HLN.out _ (Q7.out.below (by go_grown))).mono ?_; rintro e w' ⟨rfl, rfl⟩) | (go_at_call 29; refine (HHS.out _ (Q7.out.below (by go_grown))).mono ?_; rintro e w8 ⟨rfl, hb8⟩; have hM8 := hb8.cell (p := ⟨M, 0, none⟩) hM7; have hC8 := hb8.cell (p := ⟨C, 1, none⟩) hC7; have hb8' := Below.undrew hb8; have NW8 := Lib.hid (NW.out.later hb8')) | (go_at_call 16; refine (HRS.out _ _ NW8.out).mono ?_; rintro e w' ⟨rfl, rfl⟩)); refine hK.out _ _ ?_; clear hK K)
          try simp only [Act.put, List.setIfInBounds_toArray, List.set_cons_zero, List.set_cons_succ]
          first
            | (refine seq_skip (by simp only [List.getElem?_toArray, List.getElem?_cons_succ, List.getElem?_cons_zero]; rfl) (by rfl) ?_)
            | (refine seq_calc (by simp only [List.getElem?_toArray, List.getElem?_cons_succ, List.getElem?_cons_zero]; rfl) (by rfl) (fun u => by go_simp <;> with_reducible rfl) ?_)
          try simp only [Act.put, List.setIfInBounds_toArray, List.set_cons_zero, List.set_cons_succ]
          refine seq_calc (by simp only [List.getElem?_toArray, List.getElem?_cons_succ, List.getElem?_cons_zero]; rfl) (by rfl) (fun u => by go_simp <;> with_reducible rfl) ?_
          try simp only [Act.put, List.setIfInBounds_toArray, List.set_cons_zero, List.set_cons_succ]
          refine seq_nil ?_
          go_wp2
          go_roundw
          case rel => exact ⟨k + 1, (xs), by omega, by go_num, HND.out, Q7.out.below hb8', R7.out.below hb8', NB7.trans (hb8'.mono NB7.size), by have := b67.out.size; have := hb8'.size; omega⟩
          case measure => simp [intOf]; omega
        | cons y ys =>
          have PO := Lib.hid (fun (w' : World) h => pop_any B R n (y :: ys) w' h)
          have RH := Lib.hid (fun (w' : World) h => rhead_any M Z0 n (y :: ys) (by omega) w' h)
          have RV := Lib.hid (fun (w' : World) h h2 => rremove_any M Z0 n (y :: ys) y (by omega) w' h h2 hMK)
          have hcd := HND.out
          rw [cutL_head y ys hcd] at RV
          simp only [headV, List.tail_cons] at PO RH
          have hnd3 := Lib.hid (List.nodup_cons.1 hcd).2
          have e1 : (y != y) = false := by simp
          simp only [List.length_cons] at hlx
          clear hcd
          go_upto_region 19 with (fail)
          obtain ⟨xs, hxs⟩ : ∃ xs : List Int, xs = y :: ys := ⟨_, rfl⟩
          rw [← hxs] at HQ HR HND PO RH RV
          replace hxs := Lib.hid hxs
          refine wp_at (fun w hW => ?_)
          have NQ := Lib.hid (show QL w B R n xs by rw [hW]; exact HQ.out.below ((Below.refl _ _).alloc (Nat.le_refl _) _))
          have NR := Lib.hid (show RQ w M Z0 n xs by rw [hW]; exact HR.out.below ((Below.refl _ _).alloc (Nat.le_refl _) _))
          have NB := Lib.hid (show Below w0.heap.size w0 w by rw [hW]; exact hB.alloc hB.size _)
          have NC := Lib.hid (show Blk w C 46 #[.int .i64 1, .int .i64 N] by rw [hW, hC]; exact Blk.new _ _ _)
          have hCz : C < w.heap.size := by rw [hW, hC]; simp
          have hKw : Z0 ≤ w.heap.size := by rw [hW]; simp; omega
          have hCK : Z0 ≤ C := by rw [hC]; omega
          have c80 := NC.out.cell 0
          have c81 := NC.out.cell 1
          rw [← hC]
          replace hW := Lib.hid hW
          replace hC := Lib.hid hC
          have NB0 := NB.out.size
          go_upto_region 31 with (first
            | (go_at_call 21; refine (PO.out _ NQ.out).mono ?_; rintro e w4 ⟨rfl, hq4, hc4⟩; have NR4 := Lib.hid (NR.out.chg hc4 (by omega) (fun b hb e => by omega)); have NQ4 := Lib.hid hq4; have NB4 := Lib.hid (NB.out.trans (hc4.below NB0 (fun k hk e => by omega))); have c84 := (hc4.cells C 1 hCz (by omega)).trans c81; have hC4 : C < w4.heap.size := Nat.lt_of_lt_of_le hCz hc4.size; have hK4 : Z0 ≤ w4.heap.size := Nat.le_trans hKw hc4.size; clear NQ NR NB c81 c80 hCz hKw; have NB := NB4)
            | (go_at_call 25; refine (RH.out _ NR4.out).mono ?_; rintro e w' ⟨rfl, rfl⟩)
            | (go_at_call 26; refine (RV.out _ NR4.out hK4).mono ?_; rintro e w5 ⟨rfl, hr5, hc5⟩; have NQ := Lib.hid (NQ4.out.chg hc5 (by omega) (by omega)); have NR := Lib.hid hr5; have c81 := (hc5.cells C 1 hC4 (by omega)).trans c84; have NB5 := Lib.hid (NB.out.trans (hc5.below NB.out.size (fun k hk e => by omega))); clear NB; have NB := NB5; have hCz : C < w5.heap.size := Nat.lt_of_lt_of_le hC4 hc5.size; have hKw : Z0 ≤ w5.heap.size := Nat.le_trans hK4 hc5.size))
          have HT1 := Lib.hid (all_any18 B R n (ys) _ NQ.out)
          have hlen2 := NQ.out.len
          obtain ⟨v2, hm1, hm2⟩ := NR.out
          have M1 := Lib.hid hm1
          have M2 := Lib.hid hm2
          obtain ⟨la, lc, rfl, -⟩ := id hm2.1
          have HHD := Lib.hid (fun (w' : World) h => head_any B R n (ys) w' h)
          have HRH := Lib.hid (fun (w' : World) h => rhead_any M Z0 n (ys) (by omega) w' h)
          have HLN := Lib.hid (fun (w' : World) h => len_any B R n (ys) w' h)
          have HHS := Lib.hid (fun (w' : World) h => has_any B R n (ys) N w' h)
          have HRS := Lib.hid (fun (w' : World) v h => numHas_any v (ys) N w' h (by omega))
          rw [headV_eq] at HHD HRH
          generalize hdL (ys) = hd at HHD HRH
          generalize neL (ys) = ne at HHD HRH
          generalize decide (N ∈ (ys)) = hs at HHS HRS
          have e1 : (hd != hd) = false := by simp
          have e2 : (ne != ne) = false := by simp
          have e3 : (hs != hs) = false := by simp
          have e4 : ((((ys)).length : Int) != (((ys)).length : Int)) = false := by simp
          have hbM := hm1.lt
          have hbq := NQ.out.lt
          clear hm1 hm2
          have NB0 := NB.out.size
          go_wp2_with (first
            | (go_at_call 19; refine HT1.out.mono ?_; rintro e w6 ⟨v6, rfl, hr6, hb6⟩; replace hr6 := Lib.hid hr6; have NB6 := NB.out.trans (hb6.mono NB0); have Q6 := Lib.hid (NQ.out.below hb6); have R6 := Lib.hid (NR.out.below hb6))
            | (go_at_call 28; refine (HHD.out _ Q6.out).mono ?_; rintro e w7 ⟨rfl, hb7⟩; have hr7 := Lib.hid (hr6.out.later hb7); have NB7 := NB6.trans (hb7.mono NB6.size); have Q7 := Lib.hid (Q6.out.below hb7); have R7 := Lib.hid (R6.out.below hb7); have b67 := Lib.hid (hb6.trans (hb7.mono hb6.size)))
            | (go_at_call 25; refine (HRH.out _ R7.out).mono ?_; rintro e w' ⟨rfl, rfl⟩))
          have m7 := (M1.out.below b67.out hbM).cell 0
          have c7 := (b67.out.cell (p := ⟨C, 1, none⟩) hCz).trans c81
          have NW := Lib.hid (M2.out.1.later b67.out)
          have hM7 : M < w7.heap.size := Nat.lt_of_lt_of_le hbM b67.out.size
          have hC7 : C < w7.heap.size := Nat.lt_of_lt_of_le hCz b67.out.size
          refine wp_region_seq (fun _ => False) #[⟨0, 0, 680564733841876926926749214863536422912, 32768, 0⟩, ⟨1, 1, 1361129467683753853853498429727072845824, 680564733841876926926749214863536422912, 0⟩, ⟨2, 3, 2722258935367507707706996859454145691648, 1361129467683753853853498429727072845824, 0⟩, ⟨4, 7, 5444517870735015415413993718908291383296, 2722258935367507707706996859454145708032, 0⟩, ⟨4, 7, 10889035741470030830827987437816582766592, 2722258935367507707706996859454145691776, 0⟩, ⟨20, 23, 21778071482940061661655974875633165533184, 13611294676837538538534984297270728458240, 0⟩, ⟨36, 55, 43556142965880123323311949751266331066368, 24500330418307569369362971735087311224832, 0⟩, ⟨68, 119, 87112285931760246646623899502532662132736, 46278401901247631031018946610720476758016, 1⟩, ⟨140, 255, 174224571863520493293247799005065324265472, 95279062737862769769744890080895099207680, 2⟩, ⟨260, 511, 348449143727040986586495598010130648530944, 176946830798888001000954795864519469957120, 0⟩, ⟨516, 1023, 696898287454081973172991196020261297061888, 351171402662408494294202594869584794222592, 0⟩, ⟨1280, 2047, 1393796574908163946345982392040522594123776, 696898287454081973172991196020261297061888, 0⟩, ⟨2048, 4095, 2787593149816327892691964784081045188247552, 1393796574908163946345982392040522594189312, 0⟩, ⟨2048, 4095, 5575186299632655785383929568162090376495104, 1393796574908163946345982392040522594385920, 0⟩, ⟨14336, 16383, 11150372599265311570767859136324180752990208, 9756576024357147624421876744283658158866432, 0⟩, ⟨18432, 32767, 22300745198530623141535718272648361505980416, 12544169174173475517113841528364703347113984, 0⟩, ⟨34816, 65535, 44601490397061246283071436545296723011960832, 22300745198530623141535718272648361505980416, 0⟩, ⟨65536, 131071, 89202980794122492566142873090593446023921664, 44601490397061246283071436545296723012091904, 0⟩, ⟨65536, 131071, 178405961588244985132285746181186892047843328, 44601490397061246283071436545296723012485120, 0⟩, ⟨458752, 524287, 356811923176489970264571492362373784095686656, 312210432779428723981500055817077061083725824, 0⟩, ⟨589824, 1048575, 713623846352979940529142984724747568191373312, 401413413573551216547642928907670507107647488, 0⟩, ⟨1114112, 2097151, 1427247692705959881058285969449495136382746624, 713623846352979940529142984724747568191373312, 0⟩, ⟨2097152, 4194303, 2854495385411919762116571938898990272765493248, 1427247692705959881058285969449495136382746656, 0⟩, ⟨6291456, 8388607, 5708990770823839524233143877797980545530986496, 4281743078117879643174857908348485409148239872, 2⟩, ⟨2097152, 4194303, 11417981541647679048466287755595961091061972992, 1427247692705959881058285969449495136382746752, 0⟩, ⟨18874368, 20971519, 22835963083295358096932575511191922182123945984, 12845229234353638929524573725045456227444719616, 0⟩, ⟨35651584, 54525951, 45671926166590716193865151022383844364247891968, 24263210776001317977990861480641417318506692608, 0⟩, ⟨69206016, 121634815, 91343852333181432387730302044767688728495783936, 47099173859296676074923436991833339500630638592, 1⟩, ⟨136314880, 255852543, 182687704666362864775460604089535377456991567872, 92771100025887392268788588014217183864878530560, 0⟩, ⟨278921216, 536870911, 365375409332725729550921208179070754913983135744, 189823943129892664180752033936782853138905300992, 0⟩, ⟨538968064, 1073741823, 730750818665451459101842416358141509827966271488, 366802657025431689431979494148520250050365882368, 0⟩, ⟨1082130432, 2147483647, 1461501637330902918203684832716283019655932542976, 730750818665451459101842416358141509827966271488, 0⟩, ⟨2147483648, 4294967295, 2923003274661805836407369665432566039311865085952, 1461501637330902918203684832716283019655932543008, 0⟩, ⟨2147483648, 4294967295, 5846006549323611672814739330865132078623730171904, 1461501637330902918203684832716283019655932543488, 0⟩, ⟨10737418240, 12884901887, 11692013098647223345629478661730264157247460343808, 7307508186654514591018424163581415098279662714880, 1⟩, ⟨23622320128, 34359738367, 23384026197294446691258957323460528314494920687616, 16076518010639932100240533159879113216215257972736, 2⟩, ⟨2147483648, 4294967295, 46768052394588893382517914646921056628989841375232, 1461501637330902918203684832716283019655932543104, 0⟩, ⟨70866960384, 73014444031, 93536104789177786765035829293842113257979682750464, 48229554031919796300721599479637339648645773918208, 0⟩, ⟨139586437120, 210453397503, 187072209578355573530071658587684226515959365500928, 94997606426508689683239514126558396277635615293440, 0⟩, ⟨277025390592, 485331304447, 374144419156711147060143317175368453031918731001856, 188533711215686476448275343420400509535615298043904, 1⟩, ⟨2147483648, 4294967295, 748288838313422294120286634350736906063837462003712, 1461501637330902918203684832716283019655932543488, 0⟩, ⟨1101659111424, 1103806595071, 1496577676626844588240573268701473812127674924007424, 749750339950753197038490319183453189083493394546688, 1⟩, ⟨2785286291456, 4398046511103, 2993155353253689176481146537402947624255349848014848, 1872183597420886638218920270709558548179249587552256, 3⟩, ⟨4434553733120, 8796093022207, 5986310706507378352962293074805895248510699696029696, 3018000881088314526090609179559124435589500701245440, 0⟩, ⟨8798240505856, 17592186044415, 11972621413014756705924586149611790497021399392059392, 5987772208144709255880496759638611531530355628572672, 0⟩] 2766093156480 [(0, 0), (1, 0), (2, 0), (3, 0), (4, 0), (5, 0), (6, 0), (7, 1), (8, 2), (9, 0), (10, 0), (11, 0), (12, 0), (13, 0), (14, 0), (15, 0), (16, 0), (17, 0), (18, 0), (19, 0), (20, 0), (21, 0), (22, 0), (24, 0), (25, 0), (26, 0), (27, 1), (28, 0), (23, 2), (29, 0), (30, 0), (31, 0), (32, 0), (33, 0), (34, 1), (36, 0), (37, 0), (38, 0), (39, 1), (40, 0), (41, 1), (35, 2), (42, 3), (43, 0), (44, 0)] (by kernel_rfl) (by kernel_rfl) (by kernel_rfl) (by kernel_rfl) (by kernel_rfl) (by kernel_rfl) (fun c a d v w h => by cases d <;> exact h) ?_
          refine seq_calc (by simp only [List.getElem?_toArray, List.getElem?_cons_succ, List.getElem?_cons_zero]; rfl) (by rfl) (fun u => by go_simp <;> with_reducible rfl) ?_
          try simp only [Act.put, List.setIfInBounds_toArray, List.set_cons_zero, List.set_cons_succ]
          refine seq_calc (by simp only [List.getElem?_toArray, List.getElem?_cons_succ, List.getElem?_cons_zero]; rfl) (by rfl) (fun u => by go_simp <;> with_reducible rfl) ?_
          try simp only [Act.put, List.setIfInBounds_toArray, List.set_cons_zero, List.set_cons_succ]
          refine seq_calc (by simp only [List.getElem?_toArray, List.getElem?_cons_succ, List.getElem?_cons_zero]; rfl) (by rfl) (fun u => by go_simp <;> with_reducible rfl) ?_
          try simp only [Act.put, List.setIfInBounds_toArray, List.set_cons_zero, List.set_cons_succ]
          first
            | (refine seq_skip (by simp only [List.getElem?_toArray, List.getElem?_cons_succ, List.getElem?_cons_zero]; rfl) (by rfl) ?_)
            | (refine seq_calc (by simp only [List.getElem?_toArray, List.getElem?_cons_succ, List.getElem?_cons_zero]; rfl) (by rfl) (fun u => by go_simp <;> with_reducible rfl) ?_)
          try simp only [Act.put, List.setIfInBounds_toArray, List.set_cons_zero, List.set_cons_succ]
          first
            | (refine seq_skip (by simp only [List.getElem?_toArray, List.getElem?_cons_succ, List.getElem?_cons_zero]; rfl) (by rfl) ?_)
            | (refine seq_calc (by simp only [List.getElem?_toArray, List.getElem?_cons_succ, List.getElem?_cons_zero]; rfl) (by rfl) (fun u => by go_simp <;> with_reducible rfl) ?_)
          try simp only [Act.put, List.setIfInBounds_toArray, List.set_cons_zero, List.set_cons_succ]
          first
            | (refine seq_skip (by simp only [List.getElem?_toArray, List.getElem?_cons_succ, List.getElem?_cons_zero]; rfl) (by rfl) ?_)
            | (refine seq_calc (by simp only [List.getElem?_toArray, List.getElem?_cons_succ, List.getElem?_cons_zero]; rfl) (by rfl) (fun u => by go_simp <;> with_reducible rfl) ?_)
          try simp only [Act.put, List.setIfInBounds_toArray, List.set_cons_zero, List.set_cons_succ]
          first
            | (refine seq_skip (by simp only [List.getElem?_toArray, List.getElem?_cons_succ, List.getElem?_cons_zero]; rfl) (by rfl) ?_)
            | (refine seq_calc (by simp only [List.getElem?_toArray, List.getElem?_cons_succ, List.getElem?_cons_zero]; rfl) (by rfl) (fun u => by go_simp <;> with_reducible rfl) ?_)
          try simp only [Act.put, List.setIfInBounds_toArray, List.set_cons_zero, List.set_cons_succ]
          first
            | (refine seq_skip (by simp only [List.getElem?_toArray, List.getElem?_cons_succ, List.getElem?_cons_zero]; rfl) (by rfl) ?_)
            | (refine seq_load1 (by simp only [List.getElem?_toArray, List.getElem?_cons_succ, List.getElem?_cons_zero]; rfl) (by rfl) rfl rfl Tryd.underlying22 rfl (by go_simp <;> with_reducible rfl) (by first | exact id | assumption | (simp; done) | (simp; omega)) ?_)
          try simp only [Act.put, List.setIfInBounds_toArray, List.set_cons_zero, List.set_cons_succ]
          first
            | (refine seq_skip (by simp only [List.getElem?_toArray, List.getElem?_cons_succ, List.getElem?_cons_zero]; rfl) (by rfl) ?_)
            | (refine seq_do (by simp only [List.getElem?_toArray, List.getElem?_cons_succ, List.getElem?_cons_zero]; rfl) (by rfl) (fun K hK => ?_); go_wp2_with (first | (go_at_call 20; refine (sameInts_any _ _ (ys) (ys) _ (hr7.out.later (by go_grown)) (NW.out.later (by go_grown)) (by omega)).mono ?_; simp only [decide_true]; rintro e w' ⟨rfl, rfl⟩) | (go_at_call 22; refine (HLN.out _ (Q7.out.below (by go_grown))).mono ?_; rintro e w' ⟨rfl, rfl⟩) | (go_at_call 29; refine (HHS.out _ (Q7.out.below (by go_grown))).mono ?_; rintro e w8 ⟨rfl, hb8⟩; have hM8 := hb8.cell (p := ⟨M, 0, none⟩) hM7; have hC8 := hb8.cell (p := ⟨C, 1, none⟩) hC7; have hb8' := Below.undrew hb8; have NW8 := Lib.hid (NW.out.later hb8')) | (go_at_call 16; refine (HRS.out _ _ NW8.out).mono ?_; rintro e w' ⟨rfl, rfl⟩)); refine hK.out _ _ (by first | (with_reducible exact Chg.refl _ _) | (with_reducible assumption) | (refine Chg.of_below ?_; with_reducible assumption) | (with_reducible exact (Chg.refl _ _).alloc _) | (with_reducible exact (Chg.refl _ _).drewN _) | (with_reducible exact (Chg.refl _ _).drew) | exact ⟨rfl, rfl, rfl, Nat.le_refl _, fun _ _ _ => rfl⟩) ?_; clear hK K)
          try simp only [Act.put, List.setIfInBounds_toArray, List.set_cons_zero, List.set_cons_succ]
          first
            | (refine seq_skip (by simp only [List.getElem?_toArray, List.getElem?_cons_succ, List.getElem?_cons_zero]; rfl) (by rfl) ?_)
            | (refine seq_calc (by simp only [List.getElem?_toArray, List.getElem?_cons_succ, List.getElem?_cons_zero]; rfl) (by rfl) (fun u => by go_simp <;> with_reducible rfl) ?_)
          try simp only [Act.put, List.setIfInBounds_toArray, List.set_cons_zero, List.set_cons_succ]
          refine seq_calc (by simp only [List.getElem?_toArray, List.getElem?_cons_succ, List.getElem?_cons_zero]; rfl) (by rfl) (fun u => by go_simp <;> with_reducible rfl) ?_
          try simp only [Act.put, List.setIfInBounds_toArray, List.set_cons_zero, List.set_cons_succ]
          refine seq_calc (by simp only [List.getElem?_toArray, List.getElem?_cons_succ, List.getElem?_cons_zero]; rfl) (by rfl) (fun u => by go_simp <;> with_reducible rfl) ?_
          try simp only [Act.put, List.setIfInBounds_toArray, List.set_cons_zero, List.set_cons_succ]
          first
            | (refine seq_skip (by simp only [List.getElem?_toArray, List.getElem?_cons_succ, List.getElem?_cons_zero]; rfl) (by rfl) ?_)
            | (refine seq_calc (by simp only [List.getElem?_toArray, List.getElem?_cons_succ, List.getElem?_cons_zero]; rfl) (by rfl) (fun u => by go_simp <;> with_reducible rfl) ?_)
          try simp only [Act.put, List.setIfInBounds_toArray, List.set_cons_zero, List.set_cons_succ]
          first
            | (refine seq_skip (by simp only [List.getElem?_toArray, List.getElem?_cons_succ, List.getElem?_cons_zero]; rfl) (by rfl) ?_)
            | (refine seq_calc (by simp only [List.getElem?_toArray, List.getElem?_cons_succ, List.getElem?_cons_zero]; rfl) (by rfl) (fun u => by go_simp <;> with_reducible rfl) ?_)
          try simp only [Act.put, List.setIfInBounds_toArray, List.set_cons_zero, List.set_cons_succ]
          first
            | (refine seq_skip (by simp only [List.getElem?_toArray, List.getElem?_cons_succ, List.getElem?_cons_zero]; rfl) (by rfl) ?_)
            | (refine seq_calc (by simp only [List.getElem?_toArray, List.getElem?_cons_succ, List.getElem?_cons_zero]; rfl) (by rfl) (fun u => by go_simp <;> with_reducible rfl) ?_)
          try simp only [Act.put, List.setIfInBounds_toArray, List.set_cons_zero, List.set_cons_succ]
          refine seq_calc (by simp only [List.getElem?_toArray, List.getElem?_cons_succ, List.getElem?_cons_zero]; rfl) (by rfl) (fun u => by go_simp <;> with_reducible rfl) ?_
          try simp only [Act.put, List.setIfInBounds_toArray, List.set_cons_zero, List.set_cons_succ]
          refine seq_calc (by simp only [List.getElem?_toArray, List.getElem?_cons_succ, List.getElem?_cons_zero]; rfl) (by rfl) (fun u => by go_simp <;> with_reducible rfl) ?_
          try simp only [Act.put, List.setIfInBounds_toArray, List.set_cons_zero, List.set_cons_succ]
          first
            | (refine seq_skip (by simp only [List.getElem?_toArray, List.getElem?_cons_succ, List.getElem?_cons_zero]; rfl) (by rfl) ?_)
            | (refine seq_calc (by simp only [List.getElem?_toArray, List.getElem?_cons_succ, List.getElem?_cons_zero]; rfl) (by rfl) (fun u => by go_simp <;> with_reducible rfl) ?_)
          try simp only [Act.put, List.setIfInBounds_toArray, List.set_cons_zero, List.set_cons_succ]
          first
            | (refine seq_skip (by simp only [List.getElem?_toArray, List.getElem?_cons_succ, List.getElem?_cons_zero]; rfl) (by rfl) ?_)
            | (refine seq_calc (by simp only [List.getElem?_toArray, List.getElem?_cons_succ, List.getElem?_cons_zero]; rfl) (by rfl) (fun u => by go_simp <;> with_reducible rfl) ?_)
          try simp only [Act.put, List.setIfInBounds_toArray, List.set_cons_zero, List.set_cons_succ]
          first
            | (refine seq_skip (by simp only [List.getElem?_toArray, List.getElem?_cons_succ, List.getElem?_cons_zero]; rfl) (by rfl) ?_)
            | (refine seq_calc (by simp only [List.getElem?_toArray, List.getElem?_cons_succ, List.getElem?_cons_zero]; rfl) (by rfl) (fun u => by go_simp <;> with_reducible rfl) ?_)
          try simp only [Act.put, List.setIfInBounds_toArray, List.set_cons_zero, List.set_cons_succ]
          refine seq_calc (by simp only [List.getElem?_toArray, List.getElem?_cons_succ, List.getElem?_cons_zero]; rfl) (by rfl) (fun u => by go_simp <;> with_reducible rfl) ?_
          try simp only [Act.put, List.setIfInBounds_toArray, List.set_cons_zero, List.set_cons_succ]
          refine seq_calc (by simp only [List.getElem?_toArray, List.getElem?_cons_succ, List.getElem?_cons_zero]; rfl) (by rfl) (fun u => by go_simp <;> with_reducible rfl) ?_
          try simp only [Act.put, List.setIfInBounds_toArray, List.set_cons_zero, List.set_cons_succ]
          first
            | (refine seq_skip (by simp only [List.getElem?_toArray, List.getElem?_cons_succ, List.getElem?_cons_zero]; rfl) (by rfl) ?_)
            | (refine seq_calc (by simp only [List.getElem?_toArray, List.getElem?_cons_succ, List.getElem?_cons_zero]; rfl) (by rfl) (fun u => by go_simp <;> with_reducible rfl) ?_)
          try simp only [Act.put, List.setIfInBounds_toArray, List.set_cons_zero, List.set_cons_succ]
          first
            | (refine seq_skip (by simp only [List.getElem?_toArray, List.getElem?_cons_succ, List.getElem?_cons_zero]; rfl) (by rfl) ?_)
            | (refine seq_calc (by simp only [List.getElem?_toArray, List.getElem?_cons_succ, List.getElem?_cons_zero]; rfl) (by rfl) (fun u => by go_simp <;> with_reducible rfl) ?_)
          try simp only [Act.put, List.setIfInBounds_toArray, List.set_cons_zero, List.set_cons_succ]
          first
            | (refine seq_skip (by simp only [List.getElem?_toArray, List.getElem?_cons_succ, List.getElem?_cons_zero]; rfl) (by rfl) ?_)
            | (refine seq_calc (by simp only [List.getElem?_toArray, List.getElem?_cons_succ, List.getElem?_cons_zero]; rfl) (by rfl) (fun u => by go_simp <;> with_reducible rfl) ?_)
          try simp only [Act.put, List.setIfInBounds_toArray, List.set_cons_zero, List.set_cons_succ]
          first
            | (refine seq_skip (by simp only [List.getElem?_toArray, List.getElem?_cons_succ, List.getElem?_cons_zero]; rfl) (by rfl) ?_)
            | (refine seq_calc (by simp only [List.getElem?_toArray, List.getElem?_cons_succ, List.getElem?_cons_zero]; rfl) (by rfl) (fun u => by go_simp <;> with_reducible rfl) ?_)
          try simp only [Act.put, List.setIfInBounds_toArray, List.set_cons_zero, List.set_cons_succ]
          first
            | (refine seq_skip (by simp only [List.getElem?_toArray, List.getElem?_cons_succ, List.getElem?_cons_zero]; rfl) (by rfl) ?_)
            | (refine seq_load1 (by simp only [List.getElem?_toArray, List.getElem?_cons_succ, List.getElem?_cons_zero]; rfl) (by rfl) rfl rfl Tryd.underlying22 rfl (by go_simp <;> with_reducible rfl) (by first | exact id | assumption | (simp; done) | (simp; omega)) ?_)
          try simp only [Act.put, List.setIfInBounds_toArray, List.set_cons_zero, List.set_cons_succ]
          first
            | (refine seq_skip (by simp only [List.getElem?_toArray, List.getElem?_cons_succ, List.getElem?_cons_zero]; rfl) (by rfl) ?_)
            | (refine seq_calc (by simp only [List.getElem?_toArray, List.getElem?_cons_succ, List.getElem?_cons_zero]; rfl) (by rfl) (fun u => by go_simp <;> with_reducible rfl) ?_)
          try simp only [Act.put, List.setIfInBounds_toArray, List.set_cons_zero, List.set_cons_succ]
          first
            | (refine seq_skip (by simp only [List.getElem?_toArray, List.getElem?_cons_succ, List.getElem?_cons_zero]; rfl) (by rfl) ?_)
            | (refine seq_do (by simp only [List.getElem?_toArray, List.getElem?_cons_succ, List.getElem?_cons_zero]; rfl) (by rfl) (fun K hK => ?_); go_wp2_with (first | (go_at_call 20; refine (sameInts_any _ _ (ys) (ys) _ (hr7.out.later (by go_grown)) (NW.out.later (by go_grown)) (by omega)).mono ?_; simp only [decide_true]; rintro e w' ⟨rfl, rfl⟩) | (go_at_call 22; refine (HLN.out _ (Q7.out.below (by go_grown))).mono ?_; rintro e w' ⟨rfl, rfl⟩) | (go_at_call 29; refine (HHS.out _ (Q7.out.below (by go_grown))).mono ?_; rintro e w8 ⟨rfl, hb8⟩; have hM8 := hb8.cell (p := ⟨M, 0, none⟩) hM7; have hC8 := hb8.cell (p := ⟨C, 1, none⟩) hC7; have hb8' := Below.undrew hb8; have NW8 := Lib.hid (NW.out.later hb8')) | (go_at_call 16; refine (HRS.out _ _ NW8.out).mono ?_; rintro e w' ⟨rfl, rfl⟩)); refine hK.out _ _ (by first | (with_reducible exact Chg.refl _ _) | (with_reducible assumption) | (refine Chg.of_below ?_; with_reducible assumption) | (with_reducible exact (Chg.refl _ _).alloc _) | (with_reducible exact (Chg.refl _ _).drewN _) | (with_reducible exact (Chg.refl _ _).drew) | exact ⟨rfl, rfl, rfl, Nat.le_refl _, fun _ _ _ => rfl⟩) ?_; clear hK K)
          try simp only [Act.put, List.setIfInBounds_toArray, List.set_cons_zero, List.set_cons_succ]
          first
            | (refine seq_skip (by simp only [List.getElem?_toArray, List.getElem?_cons_succ, List.getElem?_cons_zero]; rfl) (by rfl) ?_)
            | (refine seq_calc (by simp only [List.getElem?_toArray, List.getElem?_cons_succ, List.getElem?_cons_zero]; rfl) (by rfl) (fun u => by go_simp <;> with_reducible rfl) ?_)
          try simp only [Act.put, List.setIfInBounds_toArray, List.set_cons_zero, List.set_cons_succ]
          refine seq_calc (by simp only [List.getElem?_toArray, List.getElem?_cons_succ, List.getElem?_cons_zero]; rfl) (by rfl) (fun u => by go_simp <;> with_reducible rfl) ?_
          try simp only [Act.put, List.setIfInBounds_toArray, List.set_cons_zero, List.set_cons_succ]
          refine seq_calc (by simp only [List.getElem?_toArray, List.getElem?_cons_succ, List.getElem?_cons_zero]; rfl) (by rfl) (fun u => by go_simp <;> with_reducible rfl) ?_
          try simp only [Act.put, List.setIfInBounds_toArray, List.set_cons_zero, List.set_cons_succ]
          first
            | (refine seq_skip (by simp only [List.getElem?_toArray, List.getElem?_cons_succ, List.getElem?_cons_zero]; rfl) (by rfl) ?_)
            | (refine seq_calc (by simp only [List.getElem?_toArray, List.getElem?_cons_succ, List.getElem?_cons_zero]; rfl) (by rfl) (fun u => by go_simp <;> with_reducible rfl) ?_)
          try simp only [Act.put, List.setIfInBounds_toArray, List.set_cons_zero, List.set_cons_succ]
          first
            | (refine seq_skip (by simp only [List.getElem?_toArray, List.getElem?_cons_succ, List.getElem?_cons_zero]; rfl) (by rfl) ?_)
            | (refine seq_calc (by simp only [List.getElem?_toArray, List.getElem?_cons_succ, List.getElem?_cons_zero]; rfl) (by rfl) (fun u => by go_simp <;> with_reducible rfl) ?_)
          try simp only [Act.put, List.setIfInBounds_toArray, List.set_cons_zero, List.set_cons_succ]
          first
            | (refine seq_skip (by simp only [List.getElem?_toArray, List.getElem?_cons_succ, List.getElem?_cons_zero]; rfl) (by rfl) ?_)
            | (refine seq_load1 (by simp only [List.getElem?_toArray, List.getElem?_cons_succ, List.getElem?_cons_zero]; rfl) (by rfl) rfl rfl Tryd.underlying3 rfl (by go_simp <;> with_reducible rfl) (by first | exact id | assumption | (simp; done) | (simp; omega)) ?_)
          try simp only [Act.put, List.setIfInBounds_toArray, List.set_cons_zero, List.set_cons_succ]
          first
            | (refine seq_skip (by simp only [List.getElem?_toArray, List.getElem?_cons_succ, List.getElem?_cons_zero]; rfl) (by rfl) ?_)
            | (refine seq_calc (by simp only [List.getElem?_toArray, List.getElem?_cons_succ, List.getElem?_cons_zero]; rfl) (by rfl) (fun u => by go_simp <;> with_reducible rfl) ?_)
          try simp only [Act.put, List.setIfInBounds_toArray, List.set_cons_zero, List.set_cons_succ]
          first
            | (refine seq_skip (by simp only [List.getElem?_toArray, List.getElem?_cons_succ, List.getElem?_cons_zero]; rfl) (by rfl) ?_)
            | (refine seq_calc (by simp only [List.getElem?_toArray, List.getElem?_cons_succ, List.getElem?_cons_zero]; rfl) (by rfl) (fun u => by go_simp <;> with_reducible rfl) ?_)
          try simp only [Act.put, List.setIfInBounds_toArray, List.set_cons_zero, List.set_cons_succ]
          first
            | (refine seq_skip (by simp only [List.getElem?_toArray, List.getElem?_cons_succ, List.getElem?_cons_zero]; rfl) (by rfl) ?_)
            | (refine seq_calc (by simp only [List.getElem?_toArray, List.getElem?_cons_succ, List.getElem?_cons_zero]; rfl) (by rfl) (fun u => by go_simp <;> with_reducible rfl) ?_)
          try simp only [Act.put, List.setIfInBounds_toArray, List.set_cons_zero, List.set_cons_succ]
          first
            | (refine seq_skip (by simp only [List.getElem?_toArray, List.getElem?_cons_succ, List.getElem?_cons_zero]; rfl) (by rfl) ?_)
            | (refine seq_load1 (by simp only [List.getElem?_toArray, List.getElem?_cons_succ, List.getElem?_cons_zero]; rfl) (by rfl) rfl rfl Tryd.underlying22 rfl (by go_simp <;> with_reducible rfl) (by first | exact id | assumption | (simp; done) | (simp; omega)) ?_)
          try simp only [Act.put, List.setIfInBounds_toArray, List.set_cons_zero, List.set_cons_succ]
          first
            | (refine seq_skip (by simp only [List.getElem?_toArray, List.getElem?_cons_succ, List.getElem?_cons_zero]; rfl) (by rfl) ?_)
            | (refine seq_calc (by simp only [List.getElem?_toArray, List.getElem?_cons_succ, List.getElem?_cons_zero]; rfl) (by rfl) (fun u => by go_simp <;> with_reducible rfl) ?_)
          try simp only [Act.put, List.setIfInBounds_toArray, List.set_cons_zero, List.set_cons_succ]
          first
            | (refine seq_skip (by simp only [List.getElem?_toArray, List.getElem?_cons_succ, List.getElem?_cons_zero]; rfl) (by rfl) ?_)
            | (refine seq_load1 (by simp only [List.getElem?_toArray, List.getElem?_cons_succ, List.getElem?_cons_zero]; rfl) (by rfl) rfl rfl Tryd.underlying3 rfl (by go_simp <;> with_reducible rfl) (by first | exact id | assumption | (simp; done) | (simp; omega)) ?_)
          try simp only [Act.put, List.setIfInBounds_toArray, List.set_cons_zero, List.set_cons_succ]
          first
            | (refine seq_skip (by simp only [List.getElem?_toArray, List.getElem?_cons_succ, List.getElem?_cons_zero]; rfl) (by rfl) ?_)
            | (refine seq_do (by simp only [List.getElem?_toArray, List.getElem?_cons_succ, List.getElem?_cons_zero]; rfl) (by rfl) (fun K hK => ?_); go_wp2_with (first | (go_at_call 20; refine (sameInts_any _ _ (ys) (ys) _ (hr7.out.later (by go_grown)) (NW.out.later (by go_grown)) (by omega)).mono ?_; simp only [decide_true]; rintro e w' ⟨rfl, rfl⟩) | (go_at_call 22; refine (HLN.out _ (Q7.out.below (by go_grown))).mono ?_; rintro e w' ⟨rfl, rfl⟩) | (go_at_call 29; refine (HHS.out _ (Q7.out.below (by go_grown))).mono ?_; rintro e w8 ⟨rfl, hb8⟩; have hM8 := hb8.cell (p := ⟨M, 0, none⟩) hM7; have hC8 := hb8.cell (p := ⟨C, 1, none⟩) hC7; have hb8' := Below.undrew hb8; have NW8 := Lib.hid (NW.out.later hb8')) | (go_at_call 16; refine (HRS.out _ _ NW8.out).mono ?_; rintro e w' ⟨rfl, rfl⟩)); refine hK.out _ _ (by first | (with_reducible exact Chg.refl _ _) | (with_reducible assumption) | (refine Chg.of_below ?_; with_reducible assumption) | (with_reducible exact (Chg.refl _ _).alloc _) | (with_reducible exact (Chg.refl _ _).drewN _) | (with_reducible exact (Chg.refl _ _).drew) | exact ⟨rfl, rfl, rfl, Nat.le_refl _, fun _ _ _ => rfl⟩) ?_; clear hK K)
          try simp only [Act.put, List.setIfInBounds_toArray, List.set_cons_zero, List.set_cons_succ]
          first
            | (refine seq_skip (by simp only [List.getElem?_toArray, List.getElem?_cons_succ, List.getElem?_cons_zero]; rfl) (by rfl) ?_)
            | (refine seq_last (by simp only [List.getElem?_toArray, List.getElem?_cons_succ, List.getElem?_cons_zero]; rfl) (by rfl) (fun K hK => ?_); go_wp2_with (first | (go_at_call 20; refine (sameInts_any _ _ (ys) (ys) _ (hr7.out.later (by go_grown)) (NW.out.later (by go_grown)) (by omega)).mono ?_; simp only [decide_true]; rintro e w' ⟨rfl, rfl⟩) | (go_at_call 22; refine (HLN.out _ (Q7.out.below (by go_grown))).mono ?_; rintro e w' ⟨rfl, rfl⟩) | (go_at_call 29; refine (HHS.out _ (Q7.out.below (by go_grown))).mono ?_; rintro e w8 ⟨rfl, hb8⟩; have hM8 := hb8.cell (p := ⟨M, 0, none⟩) hM7; have hC8 := hb8.cell (p := ⟨C, 1, none⟩) hC7; have hb8' := Below.undrew hb8; have NW8 := Lib.hid (NW.out.later hb8')) | (go_at_call 16; refine (HRS.out _ _ NW8.out).mono ?_; rintro e w' ⟨rfl, rfl⟩)); refine hK.out _ _ ?_; clear hK K)
          try simp only [Act.put, List.setIfInBounds_toArray, List.set_cons_zero, List.set_cons_succ]
          first
            | (refine seq_skip (by simp only [List.getElem?_toArray, List.getElem?_cons_succ, List.getElem?_cons_zero]; rfl) (by rfl) ?_)
            | (refine seq_calc (by simp only [List.getElem?_toArray, List.getElem?_cons_succ, List.getElem?_cons_zero]; rfl) (by rfl) (fun u => by go_simp <;> with_reducible rfl) ?_)
          try simp only [Act.put, List.setIfInBounds_toArray, List.set_cons_zero, List.set_cons_succ]
          refine seq_calc (by simp only [List.getElem?_toArray, List.getElem?_cons_succ, List.getElem?_cons_zero]; rfl) (by rfl) (fun u => by go_simp <;> with_reducible rfl) ?_
          try simp only [Act.put, List.setIfInBounds_toArray, List.set_cons_zero, List.set_cons_succ]
          refine seq_nil ?_
          go_wp2
          go_roundw
          case rel => exact ⟨k + 1, (ys), by omega, by go_num, hnd3.out, Q7.out.below hb8', R7.out.below hb8', NB7.trans (hb8'.mono NB7.size), by have := b67.out.size; have := hb8'.size; omega⟩
          case measure => simp [intOf]; omega
      by_cases q2 : q = 2
      · subst q2
        have hpl := cutL_le xs N
        have hpd := Lib.hid (cutL_nodup HND.out N)
        have PU := Lib.hid (fun (w' : World) h => remove_any B R n xs N HND.out w' h)
        have RU := Lib.hid (fun (w' : World) h h2 => rremove_any M Z0 n xs N (by omega) w' h h2 hMK)
        generalize decide (N ∈ xs) = p at PU RU
        have e0 : (p != p) = false := by simp
        go_upto_region 26 with (fail)
        refine wp_at (fun w hW => ?_)
        have NQ := Lib.hid (show QL w B R n xs by rw [hW]; exact HQ.out.below ((Below.refl _ _).alloc (Nat.le_refl _) _))
        have NR := Lib.hid (show RQ w M Z0 n xs by rw [hW]; exact HR.out.below ((Below.refl _ _).alloc (Nat.le_refl _) _))
        have NB := Lib.hid (show Below w0.heap.size w0 w by rw [hW]; exact hB.alloc hB.size _)
        have NC := Lib.hid (show Blk w C 46 #[.int .i64 2, .int .i64 N] by rw [hW, hC]; exact Blk.new _ _ _)
        have hCz : C < w.heap.size := by rw [hW, hC]; simp
        have hKw : Z0 ≤ w.heap.size := by rw [hW]; simp; omega
        have hCK : Z0 ≤ C := by rw [hC]; omega
        have c80 := NC.out.cell 0
        have c81 := NC.out.cell 1
        rw [← hC]
        replace hW := Lib.hid hW
        replace hC := Lib.hid hC
        have NB0 := NB.out.size
        refine wp_region_seq ((fun b => b = B ∨ b = R ∨ b = M)) #[⟨0, 0, 316912650057057350374175801344, 32, 0⟩, ⟨0, 0, 633825300114114700748351602688, 512, 0⟩, ⟨2, 2, 1267650600228229401496703205376, 633825300114114700748351602688, 1⟩, ⟨5, 7, 2535301200456458802993406410752, 1584563250285286751870879006720, 2⟩, ⟨0, 0, 5070602400912917605986812821504, 128, 0⟩, ⟨0, 0, 10141204801825835211973625643008, 512, 0⟩, ⟨32, 32, 20282409603651670423947251286016, 10141204801825835211973625643008, 1⟩, ⟨88, 127, 40564819207303340847894502572032, 25353012004564588029934064107520, 3⟩, ⟨136, 255, 81129638414606681695789005144064, 43100120407759799650887908982784, 0⟩] 68 [(0, 0), (1, 0), (2, 1), (4, 0), (5, 0), (6, 1), (3, 2), (7, 3), (8, 0)] (by kernel_rfl) (by kernel_rfl) (by kernel_rfl) (by kernel_rfl) (by kernel_rfl) (by kernel_rfl) (fun c a d v w h => by cases d <;> exact h) ?_
        refine seq_calc (by simp only [List.getElem?_toArray, List.getElem?_cons_succ, List.getElem?_cons_zero]; rfl) (by rfl) (fun u => by go_simp <;> with_reducible rfl) ?_
        try simp only [Act.put, List.setIfInBounds_toArray, List.set_cons_zero, List.set_cons_succ]
        refine seq_calc (by simp only [List.getElem?_toArray, List.getElem?_cons_succ, List.getElem?_cons_zero]; rfl) (by rfl) (fun u => by go_simp <;> with_reducible rfl) ?_
        try simp only [Act.put, List.setIfInBounds_toArray, List.set_cons_zero, List.set_cons_succ]
        refine seq_load1 (by simp only [List.getElem?_toArray, List.getElem?_cons_succ, List.getElem?_cons_zero]; rfl) (by rfl) rfl rfl Tryd.underlying3 rfl (by go_simp <;> with_reducible rfl) (by first | exact id | assumption | (simp; done) | (simp; omega)) ?_
        try simp only [Act.put, List.setIfInBounds_toArray, List.set_cons_zero, List.set_cons_succ]
        refine seq_calc (by simp only [List.getElem?_toArray, List.getElem?_cons_succ, List.getElem?_cons_zero]; rfl) (by rfl) (fun u => by go_simp <;> with_reducible rfl) ?_
        try simp only [Act.put, List.setIfInBounds_toArray, List.set_cons_zero, List.set_cons_succ]
        refine seq_calc (by simp only [List.getElem?_toArray, List.getElem?_cons_succ, List.getElem?_cons_zero]; rfl) (by rfl) (fun u => by go_simp <;> with_reducible rfl) ?_
        try simp only [Act.put, List.setIfInBounds_toArray, List.set_cons_zero, List.set_cons_succ]
        refine seq_load1 (by simp only [List.getElem?_toArray, List.getElem?_cons_succ, List.getElem?_cons_zero]; rfl) (by rfl) rfl rfl Tryd.underlying3 rfl (by go_simp <;> with_reducible rfl) (by first | exact id | assumption | (simp; done) | (simp; omega)) ?_
        try simp only [Act.put, List.setIfInBounds_toArray, List.set_cons_zero, List.set_cons_succ]
        refine seq_do (by simp only [List.getElem?_toArray, List.getElem?_cons_succ, List.getElem?_cons_zero]; rfl) (by rfl) (fun K hK => ?_); go_wp2_with (first | (go_at_call 18; refine (PU.out _ (NQ.out.below (by go_grown))).mono ?_; rintro e w2 ⟨rfl, hq2, hc2⟩; have hX2 : Chg (fun b => b = B ∨ b = R ∨ b = M) _ w2 := hc2.mono (fun i _ e => by omega); have NR2 := Lib.hid ((NR.out.below (Below.refl _ _).drew).chg hc2 (by omega) (fun b hb e => by omega)); have NB2 := NB.out.drew.trans (hc2.below NB0 (fun k hk e => by omega)); have c82 := (hc2.cells C 1 hCz (by omega)).trans c81; have hz2 := hc2.size; replace hq2 := Lib.hid hq2; have hK2 : Z0 ≤ w2.heap.size := Nat.le_trans hKw hz2; have hC2 : C < w2.heap.size := Nat.lt_of_lt_of_le hCz hz2) | (go_at_call 26; refine (RU.out _ NR2.out hK2).mono ?_; rintro e w4 ⟨rfl, hr4, hc4⟩; have NQ := Lib.hid (hq2.out.chg hc4 (by omega) (by omega)); have NR := Lib.hid hr4; have NB := Lib.hid (NB2.trans (hc4.below NB2.size (fun k hk e => by omega))); have c81 := (hc4.cells C 1 hC2 (by omega)).trans c82; have hCz : C < w4.heap.size := Nat.lt_of_lt_of_le hC2 hc4.size; have hKw : Z0 ≤ w4.heap.size := Nat.le_trans hK2 hc4.size)); refine hK.out _ _ (by first | (with_reducible exact Chg.refl _ _) | (with_reducible assumption) | (refine Chg.of_below ?_; with_reducible assumption) | (with_reducible exact (Chg.refl _ _).alloc _) | (with_reducible exact (Chg.refl _ _).drewN _) | (with_reducible exact (Chg.refl _ _).drew) | exact ⟨rfl, rfl, rfl, Nat.le_refl _, fun _ _ _ => rfl⟩) ?_; clear hK K
        try simp only [Act.put, List.setIfInBounds_toArray, List.set_cons_zero, List.set_cons_succ]
        refine seq_last (by simp only [List.getElem?_toArray, List.getElem?_cons_succ, List.getElem?_cons_zero]; rfl) (by rfl) (fun K hK => ?_); go_wp2_with (first | (go_at_call 18; refine (PU.out _ (NQ.out.below (by go_grown))).mono ?_; rintro e w2 ⟨rfl, hq2, hc2⟩; have hX2 : Chg (fun b => b = B ∨ b = R ∨ b = M) _ w2 := hc2.mono (fun i _ e => by omega); have NR2 := Lib.hid ((NR.out.below (Below.refl _ _).drew).chg hc2 (by omega) (fun b hb e => by omega)); have NB2 := NB.out.drew.trans (hc2.below NB0 (fun k hk e => by omega)); have c82 := (hc2.cells C 1 hCz (by omega)).trans c81; have hz2 := hc2.size; replace hq2 := Lib.hid hq2; have hK2 : Z0 ≤ w2.heap.size := Nat.le_trans hKw hz2; have hC2 : C < w2.heap.size := Nat.lt_of_lt_of_le hCz hz2) | (go_at_call 26; refine (RU.out _ NR2.out hK2).mono ?_; rintro e w4 ⟨rfl, hr4, hc4⟩; have NQ := Lib.hid (hq2.out.chg hc4 (by omega) (by omega)); have NR := Lib.hid hr4; have NB := Lib.hid (NB2.trans (hc4.below NB2.size (fun k hk e => by omega))); have c81 := (hc4.cells C 1 hC2 (by omega)).trans c82; have hCz : C < w4.heap.size := Nat.lt_of_lt_of_le hC2 hc4.size; have hKw : Z0 ≤ w4.heap.size := Nat.le_trans hK2 hc4.size)); refine hK.out _ _ ?_; clear hK K
        try simp only [Act.put, List.setIfInBounds_toArray, List.set_cons_zero, List.set_cons_succ]
        refine seq_calc (by simp only [List.getElem?_toArray, List.getElem?_cons_succ, List.getElem?_cons_zero]; rfl) (by rfl) (fun u => by go_simp <;> with_reducible rfl) ?_
        try simp only [Act.put, List.setIfInBounds_toArray, List.set_cons_zero, List.set_cons_succ]
        refine seq_nil ?_
        go_upto_region 31 with (fail)
        have HT1 := Lib.hid (all_any18 B R n (cutL xs N) _ NQ.out)
        have hlen2 := NQ.out.len
        obtain ⟨v2, hm1, hm2⟩ := NR.out
        have M1 := Lib.hid hm1
        have M2 := Lib.hid hm2
        obtain ⟨la, lc, rfl, -⟩ := id hm2.1
        have HHD := Lib.hid (fun (w' : World) h => head_any B R n (cutL xs N) w' h)
        have HRH := Lib.hid (fun (w' : World) h => rhead_any M Z0 n (cutL xs N) (by omega) w' h)
        have HLN := Lib.hid (fun (w' : World) h => len_any B R n (cutL xs N) w' h)
        have HHS := Lib.hid (fun (w' : World) h => has_any B R n (cutL xs N) N w' h)
        have HRS := Lib.hid (fun (w' : World) v h => numHas_any v (cutL xs N) N w' h (by omega))
        rw [headV_eq] at HHD HRH
        generalize hdL (cutL xs N) = hd at HHD HRH
        generalize neL (cutL xs N) = ne at HHD HRH
        generalize decide (N ∈ (cutL xs N)) = hs at HHS HRS
        have e1 : (hd != hd) = false := by simp
        have e2 : (ne != ne) = false := by simp
        have e3 : (hs != hs) = false := by simp
        have e4 : ((((cutL xs N)).length : Int) != (((cutL xs N)).length : Int)) = false := by simp
        have hbM := hm1.lt
        have hbq := NQ.out.lt
        clear hm1 hm2
        have NB0 := NB.out.size
        go_wp2_with (first
          | (go_at_call 19; refine HT1.out.mono ?_; rintro e w6 ⟨v6, rfl, hr6, hb6⟩; replace hr6 := Lib.hid hr6; have NB6 := NB.out.trans (hb6.mono NB0); have Q6 := Lib.hid (NQ.out.below hb6); have R6 := Lib.hid (NR.out.below hb6))
          | (go_at_call 28; refine (HHD.out _ Q6.out).mono ?_; rintro e w7 ⟨rfl, hb7⟩; have hr7 := Lib.hid (hr6.out.later hb7); have NB7 := NB6.trans (hb7.mono NB6.size); have Q7 := Lib.hid (Q6.out.below hb7); have R7 := Lib.hid (R6.out.below hb7); have b67 := Lib.hid (hb6.trans (hb7.mono hb6.size)))
          | (go_at_call 25; refine (HRH.out _ R7.out).mono ?_; rintro e w' ⟨rfl, rfl⟩))
        have m7 := (M1.out.below b67.out hbM).cell 0
        have c7 := (b67.out.cell (p := ⟨C, 1, none⟩) hCz).trans c81
        have NW := Lib.hid (M2.out.1.later b67.out)
        have hM7 : M < w7.heap.size := Nat.lt_of_lt_of_le hbM b67.out.size
        have hC7 : C < w7.heap.size := Nat.lt_of_lt_of_le hCz b67.out.size
        refine wp_region_seq (fun _ => False) #[⟨0, 0, 680564733841876926926749214863536422912, 32768, 0⟩, ⟨1, 1, 1361129467683753853853498429727072845824, 680564733841876926926749214863536422912, 0⟩, ⟨2, 3, 2722258935367507707706996859454145691648, 1361129467683753853853498429727072845824, 0⟩, ⟨4, 7, 5444517870735015415413993718908291383296, 2722258935367507707706996859454145708032, 0⟩, ⟨4, 7, 10889035741470030830827987437816582766592, 2722258935367507707706996859454145691776, 0⟩, ⟨20, 23, 21778071482940061661655974875633165533184, 13611294676837538538534984297270728458240, 0⟩, ⟨36, 55, 43556142965880123323311949751266331066368, 24500330418307569369362971735087311224832, 0⟩, ⟨68, 119, 87112285931760246646623899502532662132736, 46278401901247631031018946610720476758016, 1⟩, ⟨140, 255, 174224571863520493293247799005065324265472, 95279062737862769769744890080895099207680, 2⟩, ⟨260, 511, 348449143727040986586495598010130648530944, 176946830798888001000954795864519469957120, 0⟩, ⟨516, 1023, 696898287454081973172991196020261297061888, 351171402662408494294202594869584794222592, 0⟩, ⟨1280, 2047, 1393796574908163946345982392040522594123776, 696898287454081973172991196020261297061888, 0⟩, ⟨2048, 4095, 2787593149816327892691964784081045188247552, 1393796574908163946345982392040522594189312, 0⟩, ⟨2048, 4095, 5575186299632655785383929568162090376495104, 1393796574908163946345982392040522594385920, 0⟩, ⟨14336, 16383, 11150372599265311570767859136324180752990208, 9756576024357147624421876744283658158866432, 0⟩, ⟨18432, 32767, 22300745198530623141535718272648361505980416, 12544169174173475517113841528364703347113984, 0⟩, ⟨34816, 65535, 44601490397061246283071436545296723011960832, 22300745198530623141535718272648361505980416, 0⟩, ⟨65536, 131071, 89202980794122492566142873090593446023921664, 44601490397061246283071436545296723012091904, 0⟩, ⟨65536, 131071, 178405961588244985132285746181186892047843328, 44601490397061246283071436545296723012485120, 0⟩, ⟨458752, 524287, 356811923176489970264571492362373784095686656, 312210432779428723981500055817077061083725824, 0⟩, ⟨589824, 1048575, 713623846352979940529142984724747568191373312, 401413413573551216547642928907670507107647488, 0⟩, ⟨1114112, 2097151, 1427247692705959881058285969449495136382746624, 713623846352979940529142984724747568191373312, 0⟩, ⟨2097152, 4194303, 2854495385411919762116571938898990272765493248, 1427247692705959881058285969449495136382746656, 0⟩, ⟨6291456, 8388607, 5708990770823839524233143877797980545530986496, 4281743078117879643174857908348485409148239872, 2⟩, ⟨2097152, 4194303, 11417981541647679048466287755595961091061972992, 1427247692705959881058285969449495136382746752, 0⟩, ⟨18874368, 20971519, 22835963083295358096932575511191922182123945984, 12845229234353638929524573725045456227444719616, 0⟩, ⟨35651584, 54525951, 45671926166590716193865151022383844364247891968, 24263210776001317977990861480641417318506692608, 0⟩, ⟨69206016, 121634815, 91343852333181432387730302044767688728495783936, 47099173859296676074923436991833339500630638592, 1⟩, ⟨136314880, 255852543, 182687704666362864775460604089535377456991567872, 92771100025887392268788588014217183864878530560, 0⟩, ⟨278921216, 536870911, 365375409332725729550921208179070754913983135744, 189823943129892664180752033936782853138905300992, 0⟩, ⟨538968064, 1073741823, 730750818665451459101842416358141509827966271488, 366802657025431689431979494148520250050365882368, 0⟩, ⟨1082130432, 2147483647, 1461501637330902918203684832716283019655932542976, 730750818665451459101842416358141509827966271488, 0⟩, ⟨2147483648, 4294967295, 2923003274661805836407369665432566039311865085952, 1461501637330902918203684832716283019655932543008, 0⟩, ⟨2147483648, 4294967295, 5846006549323611672814739330865132078623730171904, 1461501637330902918203684832716283019655932543488, 0⟩, ⟨10737418240, 12884901887, 11692013098647223345629478661730264157247460343808, 7307508186654514591018424163581415098279662714880, 1⟩, ⟨23622320128, 34359738367, 23384026197294446691258957323460528314494920687616, 16076518010639932100240533159879113216215257972736, 2⟩, ⟨2147483648, 4294967295, 46768052394588893382517914646921056628989841375232, 1461501637330902918203684832716283019655932543104, 0⟩, ⟨70866960384, 73014444031, 93536104789177786765035829293842113257979682750464, 48229554031919796300721599479637339648645773918208, 0⟩, ⟨139586437120, 210453397503, 187072209578355573530071658587684226515959365500928, 94997606426508689683239514126558396277635615293440, 0⟩, ⟨277025390592, 485331304447, 374144419156711147060143317175368453031918731001856, 188533711215686476448275343420400509535615298043904, 1⟩, ⟨2147483648, 4294967295, 748288838313422294120286634350736906063837462003712, 1461501637330902918203684832716283019655932543488, 0⟩, ⟨1101659111424, 1103806595071, 1496577676626844588240573268701473812127674924007424, 749750339950753197038490319183453189083493394546688, 1⟩, ⟨2785286291456, 4398046511103, 2993155353253689176481146537402947624255349848014848, 1872183597420886638218920270709558548179249587552256, 3⟩, ⟨4434553733120, 8796093022207, 5986310706507378352962293074805895248510699696029696, 3018000881088314526090609179559124435589500701245440, 0⟩, ⟨8798240505856, 17592186044415, 11972621413014756705924586149611790497021399392059392, 5987772208144709255880496759638611531530355628572672, 0⟩] 2766093156480 [(0, 0), (1, 0), (2, 0), (3, 0), (4, 0), (5, 0), (6, 0), (7, 1), (8, 2), (9, 0), (10, 0), (11, 0), (12, 0), (13, 0), (14, 0), (15, 0), (16, 0), (17, 0), (18, 0), (19, 0), (20, 0), (21, 0), (22, 0), (24, 0), (25, 0), (26, 0), (27, 1), (28, 0), (23, 2), (29, 0), (30, 0), (31, 0), (32, 0), (33, 0), (34, 1), (36, 0), (37, 0), (38, 0), (39, 1), (40, 0), (41, 1), (35, 2), (42, 3), (43, 0), (44, 0)] (by kernel_rfl) (by kernel_rfl) (by kernel_rfl) (by kernel_rfl) (by kernel_rfl) (by kernel_rfl) (fun c a d v w h => by cases d <;> exact h) ?_
        refine seq_calc (by simp only [List.getElem?_toArray, List.getElem?_cons_succ, List.getElem?_cons_zero]; rfl) (by rfl) (fun u => by go_simp <;> with_reducible rfl) ?_
        try simp only [Act.put, List.setIfInBounds_toArray, List.set_cons_zero, List.set_cons_succ]
        refine seq_calc (by simp only [List.getElem?_toArray, List.getElem?_cons_succ, List.getElem?_cons_zero]; rfl) (by rfl) (fun u => by go_simp <;> with_reducible rfl) ?_
        try simp only [Act.put, List.setIfInBounds_toArray, List.set_cons_zero, List.set_cons_succ]
        refine seq_calc (by simp only [List.getElem?_toArray, List.getElem?_cons_succ, List.getElem?_cons_zero]; rfl) (by rfl) (fun u => by go_simp <;> with_reducible rfl) ?_
        try simp only [Act.put, List.setIfInBounds_toArray, List.set_cons_zero, List.set_cons_succ]
        first
          | (refine seq_skip (by simp only [List.getElem?_toArray, List.getElem?_cons_succ, List.getElem?_cons_zero]; rfl) (by rfl) ?_)
          | (refine seq_calc (by simp only [List.getElem?_toArray, List.getElem?_cons_succ, List.getElem?_cons_zero]; rfl) (by rfl) (fun u => by go_simp <;> with_reducible rfl) ?_)
        try simp only [Act.put, List.setIfInBounds_toArray, List.set_cons_zero, List.set_cons_succ]
        first
          | (refine seq_skip (by simp only [List.getElem?_toArray, List.getElem?_cons_succ, List.getElem?_cons_zero]; rfl) (by rfl) ?_)
          | (refine seq_calc (by simp only [List.getElem?_toArray, List.getElem?_cons_succ, List.getElem?_cons_zero]; rfl) (by rfl) (fun u => by go_simp <;> with_reducible rfl) ?_)
        try simp only [Act.put, List.setIfInBounds_toArray, List.set_cons_zero, List.set_cons_succ]
        first
          | (refine seq_skip (by simp only [List.getElem?_toArray, List.getElem?_cons_succ, List.getElem?_cons_zero]; rfl) (by rfl) ?_)
          | (refine seq_calc (by simp only [List.getElem?_toArray, List.getElem?_cons_succ, List.getElem?_cons_zero]; rfl) (by rfl) (fun u => by go_simp <;> with_reducible rfl) ?_)
        try simp only [Act.put, List.setIfInBounds_toArray, List.set_cons_zero, List.set_cons_succ]
        first
          | (refine seq_skip (by simp only [List.getElem?_toArray, List.getElem?_cons_succ, List.getElem?_cons_zero]; rfl) (by rfl) ?_)
          | (refine seq_calc (by simp only [List.getElem?_toArray, List.getElem?_cons_succ, List.getElem?_cons_zero]; rfl) (by rfl) (fun u => by go_simp <;> with_reducible rfl) ?_)
        try simp only [Act.put, List.setIfInBounds_toArray, List.set_cons_zero, List.set_cons_succ]
        first
          | (refine seq_skip (by simp only [List.getElem?_toArray, List.getElem?_cons_succ, List.getElem?_cons_zero]; rfl) (by rfl) ?_)
          | (refine seq_load1 (by simp only [List.getElem?_toArray, List.getElem?_cons_succ, List.getElem?_cons_zero]; rfl) (by rfl) rfl rfl Tryd.underlying22 rfl (by go_simp <;> with_reducible rfl) (by first | exact id | assumption | (simp; done) | (simp; omega)) ?_)
        try simp only [Act.put, List.setIfInBounds_toArray, List.set_cons_zero, List.set_cons_succ]
        first
          | (refine seq_skip (by simp only [List.getElem?_toArray, List.getElem?_cons_succ, List.getElem?_cons_zero]; rfl) (by rfl) ?_)
          | (refine seq_do (by simp only [List.getElem?_toArray, List.getElem?_cons_succ, List.getElem?_cons_zero]; rfl) (by rfl) (fun K hK => ?_); go_wp2_with (first | (go_at_call 20; refine (sameInts_any _ _ (cutL xs N) (cutL xs N) _ (hr7.out.later (by go_grown)) (NW.out.later (by go_grown)) (by omega)).mono ?_; simp only [decide_true]; rintro e w' ⟨rfl, rfl⟩) | (go_at_call 22; refine (HLN.out _ (Q7.out.below (by go_grown))).mono ?_; rintro e w' ⟨rfl, rfl⟩) | (go_at_call 29; refine (HHS.out _ (Q7.out.below (by go_grown))).mono ?_; rintro e w8 ⟨rfl, hb8⟩; have hM8 := hb8.cell (p := ⟨M, 0, none⟩) hM7; have hC8 := hb8.cell (p := ⟨C, 1, none⟩) hC7; have hb8' := Below.undrew hb8; have NW8 := Lib.hid (NW.out.later hb8')) | (go_at_call 16; refine (HRS.out _ _ NW8.out).mono ?_; rintro e w' ⟨rfl, rfl⟩)); refine hK.out _ _ (by first | (with_reducible exact Chg.refl _ _) | (with_reducible assumption) | (refine Chg.of_below ?_; with_reducible assumption) | (with_reducible exact (Chg.refl _ _).alloc _) | (with_reducible exact (Chg.refl _ _).drewN _) | (with_reducible exact (Chg.refl _ _).drew) | exact ⟨rfl, rfl, rfl, Nat.le_refl _, fun _ _ _ => rfl⟩) ?_; clear hK K)
        try simp only [Act.put, List.setIfInBounds_toArray, List.set_cons_zero, List.set_cons_succ]
        first
          | (refine seq_skip (by simp only [List.getElem?_toArray, List.getElem?_cons_succ, List.getElem?_cons_zero]; rfl) (by rfl) ?_)
          | (refine seq_calc (by simp only [List.getElem?_toArray, List.getElem?_cons_succ, List.getElem?_cons_zero]; rfl) (by rfl) (fun u => by go_simp <;> with_reducible rfl) ?_)
        try simp only [Act.put, List.setIfInBounds_toArray, List.set_cons_zero, List.set_cons_succ]
        refine seq_calc (by simp only [List.getElem?_toArray, List.getElem?_cons_succ, List.getElem?_cons_zero]; rfl) (by rfl) (fun u => by go_simp <;> with_reducible rfl) ?_
        try simp only [Act.put, List.setIfInBounds_toArray, List.set_cons_zero, List.set_cons_succ]
        refine seq_calc (by simp only [List.getElem?_toArray, List.getElem?_cons_succ, List.getElem?_cons_zero]; rfl) (by rfl) (fun u => by go_simp <;> with_reducible rfl) ?_
        try simp only [Act.put, List.setIfInBounds_toArray, List.set_cons_zero, List.set_cons_succ]
        first
          | (refine seq_skip (by simp only [List.getElem?_toArray, List.getElem?_cons_succ, List.getElem?_cons_zero]; rfl) (by rfl) ?_)
          | (refine seq_calc (by simp only [List.getElem?_toArray, List.getElem?_cons_succ, List.getElem?_cons_zero]; rfl) (by rfl) (fun u => by go_simp <;> with_reducible rfl) ?_)
        try simp only [Act.put, List.setIfInBounds_toArray, List.set_cons_zero, List.set_cons_succ]
        first
          | (refine seq_skip (by simp only [List.getElem?_toArray, List.getElem?_cons_succ, List.getElem?_cons_zero]; rfl) (by rfl) ?_)
          | (refine seq_calc (by simp only [List.getElem?_toArray, List.getElem?_cons_succ, List.getElem?_cons_zero]; rfl) (by rfl) (fun u => by go_simp <;> with_reducible rfl) ?_)
        try simp only [Act.put, List.setIfInBounds_toArray, List.set_cons_zero, List.set_cons_succ]
        first
          | (refine seq_skip (by simp only [List.getElem?_toArray, List.getElem?_cons_succ, List.getElem?_cons_zero]; rfl) (by rfl) ?_)
          | (refine seq_calc (by simp only [List.getElem?_toArray, List.getElem?_cons_succ, List.getElem?_cons_zero]; rfl) (by rfl) (fun u => by go_simp <;> with_reducible rfl) ?_)
        try simp only [Act.put, List.setIfInBounds_toArray, List.set_cons_zero, List.set_cons_succ]
        refine seq_calc (by simp only [List.getElem?_toArray, List.getElem?_cons_succ, List.getElem?_cons_zero]; rfl) (by rfl) (fun u => by go_simp <;> with_reducible rfl) ?_
        try simp only [Act.put, List.setIfInBounds_toArray, List.set_cons_zero, List.set_cons_succ]
        refine seq_calc (by simp only [List.getElem?_toArray, List.getElem?_cons_succ, List.getElem?_cons_zero]; rfl) (by rfl) (fun u => by go_simp <;> with_reducible rfl) ?_
        try simp only [Act.put, List.setIfInBounds_toArray, List.set_cons_zero, List.set_cons_succ]
        first
          | (refine seq_skip (by simp only [List.getElem?_toArray, List.getElem?_cons_succ, List.getElem?_cons_zero]; rfl) (by rfl) ?_)
          | (refine seq_calc (by simp only [List.getElem?_toArray, List.getElem?_cons_succ, List.getElem?_cons_zero]; rfl) (by rfl) (fun u => by go_simp <;> with_reducible rfl) ?_)
        try simp only [Act.put, List.setIfInBounds_toArray, List.set_cons_zero, List.set_cons_succ]
        first
          | (refine seq_skip (by simp only [List.getElem?_toArray, List.getElem?_cons_succ, List.getElem?_cons_zero]; rfl) (by rfl) ?_)
          | (refine seq_calc (by simp only [List.getElem?_toArray, List.getElem?_cons_succ, List.getElem?_cons_zero]; rfl) (by rfl) (fun u => by go_simp <;> with_reducible rfl) ?_)
        try simp only [Act.put, List.setIfInBounds_toArray, List.set_cons_zero, List.set_cons_succ]
        first
          | (refine seq_skip (by simp only [List.getElem?_toArray, List.getElem?_cons_succ, List.getElem?_cons_zero]; rfl) (by rfl) ?_)
          | (refine seq_calc (by simp only [List.getElem?_toArray, List.getElem?_cons_succ, List.getElem?_cons_zero]; rfl) (by rfl) (fun u => by go_simp <;> with_reducible rfl) ?_)
        try simp only [Act.put, List.setIfInBounds_toArray, List.set_cons_zero, List.set_cons_succ]
        refine seq_calc (by simp only [List.getElem?_toArray, List.getElem?_cons_succ, List.getElem?_cons_zero]; rfl) (by rfl) (fun u => by go_simp <;> with_reducible rfl) ?_
        try simp only [Act.put, List.setIfInBounds_toArray, List.set_cons_zero, List.set_cons_succ]
        refine seq_calc (by simp only [List.getElem?_toArray, List.getElem?_cons_succ, List.getElem?_cons_zero]; rfl) (by rfl) (fun u => by go_simp <;> with_reducible rfl) ?_
        try simp only [Act.put, List.setIfInBounds_toArray, List.set_cons_zero, List.set_cons_succ]
        first
          | (refine seq_skip (by simp only [List.getElem?_toArray, List.getElem?_cons_succ, List.getElem?_cons_zero]; rfl) (by rfl) ?_)
          | (refine seq_calc (by simp only [List.getElem?_toArray, List.getElem?_cons_succ, List.getElem?_cons_zero]; rfl) (by rfl) (fun u => by go_simp <;> with_reducible rfl) ?_)
        try simp only [Act.put, List.setIfInBounds_toArray, List.set_cons_zero, List.set_cons_succ]
        first
          | (refine seq_skip (by simp only [List.getElem?_toArray, List.getElem?_cons_succ, List.getElem?_cons_zero]; rfl) (by rfl) ?_)
          | (refine seq_calc (by simp only [List.getElem?_toArray, List.getElem?_cons_succ, List.getElem?_cons_zero]; rfl) (by rfl) (fun u => by go_simp <;> with_reducible rfl) ?_)
        try simp only [Act.put, List.setIfInBounds_toArray, List.set_cons_zero, List.set_cons_succ]
        first
          | (refine seq_skip (by simp only [List.getElem?_toArray, List.getElem?_cons_succ, List.getElem?_cons_zero]; rfl) (by rfl) ?_)
          | (refine seq_calc (by simp only [List.getElem?_toArray, List.getElem?_cons_succ, List.getElem?_cons_zero]; rfl) (by rfl) (fun u => by go_simp <;> with_reducible rfl) ?_)
        try simp only [Act.put, List.setIfInBounds_toArray, List.set_cons_zero, List.set_cons_succ]
        first
          | (refine seq_skip (by simp only [List.getElem?_toArray, List.getElem?_cons_succ, List.getElem?_cons_zero]; rfl) (by rfl) ?_)
          | (refine seq_calc (by simp only [List.getElem?_toArray, List.getElem?_cons_succ, List.getElem?_cons_zero]; rfl) (by rfl) (fun u => by go_simp <;> with_reducible rfl) ?_)
        try simp only [Act.put, List.setIfInBounds_toArray, List.set_cons_zero, List.set_cons_succ]
        first
          | (refine seq_skip (by simp only [List.getElem?_toArray, List.getElem?_cons_succ, List.getElem?_cons_zero]; rfl) (by rfl) ?_)
          | (refine seq_load1 (by simp only [List.getElem?_toArray, List.getElem?_cons_succ, List.getElem?_cons_zero]; rfl) (by rfl) rfl rfl Tryd.underlying22 rfl (by go_simp <;> with_reducible rfl) (by first | exact id | assumption | (simp; done) | (simp; omega)) ?_)
        try simp only [Act.put, List.setIfInBounds_toArray, List.set_cons_zero, List.set_cons_succ]
        first
          | (refine seq_skip (by simp only [List.getElem?_toArray, List.getElem?_cons_succ, List.getElem?_cons_zero]; rfl) (by rfl) ?_)
          | (refine seq_calc (by simp only [List.getElem?_toArray, List.getElem?_cons_succ, List.getElem?_cons_zero]; rfl) (by rfl) (fun u => by go_simp <;> with_reducible rfl) ?_)
        try simp only [Act.put, List.setIfInBounds_toArray, List.set_cons_zero, List.set_cons_succ]
        first
          | (refine seq_skip (by simp only [List.getElem?_toArray, List.getElem?_cons_succ, List.getElem?_cons_zero]; rfl) (by rfl) ?_)
          | (refine seq_do (by simp only [List.getElem?_toArray, List.getElem?_cons_succ, List.getElem?_cons_zero]; rfl) (by rfl) (fun K hK => ?_); go_wp2_with (first | (go_at_call 20; refine (sameInts_any _ _ (cutL xs N) (cutL xs N) _ (hr7.out.later (by go_grown)) (NW.out.later (by go_grown)) (by omega)).mono ?_; simp only [decide_true]; rintro e w' ⟨rfl, rfl⟩) | (go_at_call 22; refine (HLN.out _ (Q7.out.below (by go_grown))).mono ?_; rintro e w' ⟨rfl, rfl⟩) | (go_at_call 29; refine (HHS.out _ (Q7.out.below (by go_grown))).mono ?_; rintro e w8 ⟨rfl, hb8⟩; have hM8 := hb8.cell (p := ⟨M, 0, none⟩) hM7; have hC8 := hb8.cell (p := ⟨C, 1, none⟩) hC7; have hb8' := Below.undrew hb8; have NW8 := Lib.hid (NW.out.later hb8')) | (go_at_call 16; refine (HRS.out _ _ NW8.out).mono ?_; rintro e w' ⟨rfl, rfl⟩)); refine hK.out _ _ (by first | (with_reducible exact Chg.refl _ _) | (with_reducible assumption) | (refine Chg.of_below ?_; with_reducible assumption) | (with_reducible exact (Chg.refl _ _).alloc _) | (with_reducible exact (Chg.refl _ _).drewN _) | (with_reducible exact (Chg.refl _ _).drew) | exact ⟨rfl, rfl, rfl, Nat.le_refl _, fun _ _ _ => rfl⟩) ?_; clear hK K)
        try simp only [Act.put, List.setIfInBounds_toArray, List.set_cons_zero, List.set_cons_succ]
        first
          | (refine seq_skip (by simp only [List.getElem?_toArray, List.getElem?_cons_succ, List.getElem?_cons_zero]; rfl) (by rfl) ?_)
          | (refine seq_calc (by simp only [List.getElem?_toArray, List.getElem?_cons_succ, List.getElem?_cons_zero]; rfl) (by rfl) (fun u => by go_simp <;> with_reducible rfl) ?_)
        try simp only [Act.put, List.setIfInBounds_toArray, List.set_cons_zero, List.set_cons_succ]
        refine seq_calc (by simp only [List.getElem?_toArray, List.getElem?_cons_succ, List.getElem?_cons_zero]; rfl) (by rfl) (fun u => by go_simp <;> with_reducible rfl) ?_
        try simp only [Act.put, List.setIfInBounds_toArray, List.set_cons_zero, List.set_cons_succ]
        refine seq_calc (by simp only [List.getElem?_toArray, List.getElem?_cons_succ, List.getElem?_cons_zero]; rfl) (by rfl) (fun u => by go_simp <;> with_reducible rfl) ?_
        try simp only [Act.put, List.setIfInBounds_toArray, List.set_cons_zero, List.set_cons_succ]
        first
          | (refine seq_skip (by simp only [List.getElem?_toArray, List.getElem?_cons_succ, List.getElem?_cons_zero]; rfl) (by rfl) ?_)
          | (refine seq_calc (by simp only [List.getElem?_toArray, List.getElem?_cons_succ, List.getElem?_cons_zero]; rfl) (by rfl) (fun u => by go_simp <;> with_reducible rfl) ?_)
        try simp only [Act.put, List.setIfInBounds_toArray, List.set_cons_zero, List.set_cons_succ]
        first
          | (refine seq_skip (by simp only [List.getElem?_toArray, List.getElem?_cons_succ, List.getElem?_cons_zero]; rfl) (by rfl) ?_)
          | (refine seq_calc (by simp only [List.getElem?_toArray, List.getElem?_cons_succ, List.getElem?_cons_zero]; rfl) (by rfl) (fun u => by go_simp <;> with_reducible rfl) ?_)
        try simp only [Act.put, List.setIfInBounds_toArray, List.set_cons_zero, List.set_cons_succ]
        first
          | (refine seq_skip (by simp only [List.getElem?_toArray, List.getElem?_cons_succ, List.getElem?_cons_zero]; rfl) (by rfl) ?_)
          | (refine seq_load1 (by simp only [List.getElem?_toArray, List.getElem?_cons_succ, List.getElem?_cons_zero]; rfl) (by rfl) rfl rfl Tryd.underlying3 rfl (by go_simp <;> with_reducible rfl) (by first | exact id | assumption | (simp; done) | (simp; omega)) ?_)
        try simp only [Act.put, List.setIfInBounds_toArray, List.set_cons_zero, List.set_cons_succ]
        first
          | (refine seq_skip (by simp only [List.getElem?_toArray, List.getElem?_cons_succ, List.getElem?_cons_zero]; rfl) (by rfl) ?_)
          | (refine seq_calc (by simp only [List.getElem?_toArray, List.getElem?_cons_succ, List.getElem?_cons_zero]; rfl) (by rfl) (fun u => by go_simp <;> with_reducible rfl) ?_)
        try simp only [Act.put, List.setIfInBounds_toArray, List.set_cons_zero, List.set_cons_succ]
        first
          | (refine seq_skip (by simp only [List.getElem?_toArray, List.getElem?_cons_succ, List.getElem?_cons_zero]; rfl) (by rfl) ?_)
          | (refine seq_calc (by simp only [List.getElem?_toArray, List.getElem?_cons_succ, List.getElem?_cons_zero]; rfl) (by rfl) (fun u => by go_simp <;> with_reducible rfl) ?_)
        try simp only [Act.put, List.setIfInBounds_toArray, List.set_cons_zero, List.set_cons_succ]
        first
          | (refine seq_skip (by simp only [List.getElem?_toArray, List.getElem?_cons_succ, List.getElem?_cons_zero]; rfl) (by rfl) ?_)
          | (refine seq_calc (by simp only [List.getElem?_toArray, List.getElem?_cons_succ, List.getElem?_cons_zero]; rfl) (by rfl) (fun u => by go_simp <;> with_reducible rfl) ?_)
        try simp only [Act.put, List.setIfInBounds_toArray, List.set_cons_zero, List.set_cons_succ]
        first
          | (refine seq_skip (by simp only [List.getElem?_toArray, List.getElem?_cons_succ, List.getElem?_cons_zero]; rfl) (by rfl) ?_)
          | (refine seq_load1 (by simp only [List.getElem?_toArray, List.getElem?_cons_succ, List.getElem?_cons_zero]; rfl) (by rfl) rfl rfl Tryd.underlying22 rfl (by go_simp <;> with_reducible rfl) (by first | exact id | assumption | (simp; done) | (simp; omega)) ?_)
        try simp only [Act.put, List.setIfInBounds_toArray, List.set_cons_zero, List.set_cons_succ]
        first
          | (refine seq_skip (by simp only [List.getElem?_toArray, List.getElem?_cons_succ, List.getElem?_cons_zero]; rfl) (by rfl) ?_)
          | (refine seq_calc (by simp only [List.getElem?_toArray, List.getElem?_cons_succ, List.getElem?_cons_zero]; rfl) (by rfl) (fun u => by go_simp <;> with_reducible rfl) ?_)
        try simp only [Act.put, List.setIfInBounds_toArray, List.set_cons_zero, List.set_cons_succ]
        first
          | (refine seq_skip (by simp only [List.getElem?_toArray, List.getElem?_cons_succ, List.getElem?_cons_zero]; rfl) (by rfl) ?_)
          | (refine seq_load1 (by simp only [List.getElem?_toArray, List.getElem?_cons_succ, List.getElem?_cons_zero]; rfl) (by rfl) rfl rfl Tryd.underlying3 rfl (by go_simp <;> with_reducible rfl) (by first | exact id | assumption | (simp; done) | (simp; omega)) ?_)
        try simp only [Act.put, List.setIfInBounds_toArray, List.set_cons_zero, List.set_cons_succ]
        first
          | (refine seq_skip (by simp only [List.getElem?_toArray, List.getElem?_cons_succ, List.getElem?_cons_zero]; rfl) (by rfl) ?_)
          | (refine seq_do (by simp only [List.getElem?_toArray, List.getElem?_cons_succ, List.getElem?_cons_zero]; rfl) (by rfl) (fun K hK => ?_); go_wp2_with (first | (go_at_call 20; refine (sameInts_any _ _ (cutL xs N) (cutL xs N) _ (hr7.out.later (by go_grown)) (NW.out.later (by go_grown)) (by omega)).mono ?_; simp only [decide_true]; rintro e w' ⟨rfl, rfl⟩) | (go_at_call 22; refine (HLN.out _ (Q7.out.below (by go_grown))).mono ?_; rintro e w' ⟨rfl, rfl⟩) | (go_at_call 29; refine (HHS.out _ (Q7.out.below (by go_grown))).mono ?_; rintro e w8 ⟨rfl, hb8⟩; have hM8 := hb8.cell (p := ⟨M, 0, none⟩) hM7; have hC8 := hb8.cell (p := ⟨C, 1, none⟩) hC7; have hb8' := Below.undrew hb8; have NW8 := Lib.hid (NW.out.later hb8')) | (go_at_call 16; refine (HRS.out _ _ NW8.out).mono ?_; rintro e w' ⟨rfl, rfl⟩)); refine hK.out _ _ (by first | (with_reducible exact Chg.refl _ _) | (with_reducible assumption) | (refine Chg.of_below ?_; with_reducible assumption) | (with_reducible exact (Chg.refl _ _).alloc _) | (with_reducible exact (Chg.refl _ _).drewN _) | (with_reducible exact (Chg.refl _ _).drew) | exact ⟨rfl, rfl, rfl, Nat.le_refl _, fun _ _ _ => rfl⟩) ?_; clear hK K)
        try simp only [Act.put, List.setIfInBounds_toArray, List.set_cons_zero, List.set_cons_succ]
        first
          | (refine seq_skip (by simp only [List.getElem?_toArray, List.getElem?_cons_succ, List.getElem?_cons_zero]; rfl) (by rfl) ?_)
          | (refine seq_last (by simp only [List.getElem?_toArray, List.getElem?_cons_succ, List.getElem?_cons_zero]; rfl) (by rfl) (fun K hK => ?_); go_wp2_with (first | (go_at_call 20; refine (sameInts_any _ _ (cutL xs N) (cutL xs N) _ (hr7.out.later (by go_grown)) (NW.out.later (by go_grown)) (by omega)).mono ?_; simp only [decide_true]; rintro e w' ⟨rfl, rfl⟩) | (go_at_call 22; refine (HLN.out _ (Q7.out.below (by go_grown))).mono ?_; rintro e w' ⟨rfl, rfl⟩) | (go_at_call 29; refine (HHS.out _ (Q7.out.below (by go_grown))).mono ?_; rintro e w8 ⟨rfl, hb8⟩; have hM8 := hb8.cell (p := ⟨M, 0, none⟩) hM7; have hC8 := hb8.cell (p := ⟨C, 1, none⟩) hC7; have hb8' := Below.undrew hb8; have NW8 := Lib.hid (NW.out.later hb8')) | (go_at_call 16; refine (HRS.out _ _ NW8.out).mono ?_; rintro e w' ⟨rfl, rfl⟩)); refine hK.out _ _ ?_; clear hK K)
        try simp only [Act.put, List.setIfInBounds_toArray, List.set_cons_zero, List.set_cons_succ]
        first
          | (refine seq_skip (by simp only [List.getElem?_toArray, List.getElem?_cons_succ, List.getElem?_cons_zero]; rfl) (by rfl) ?_)
          | (refine seq_calc (by simp only [List.getElem?_toArray, List.getElem?_cons_succ, List.getElem?_cons_zero]; rfl) (by rfl) (fun u => by go_simp <;> with_reducible rfl) ?_)
        try simp only [Act.put, List.setIfInBounds_toArray, List.set_cons_zero, List.set_cons_succ]
        refine seq_calc (by simp only [List.getElem?_toArray, List.getElem?_cons_succ, List.getElem?_cons_zero]; rfl) (by rfl) (fun u => by go_simp <;> with_reducible rfl) ?_
        try simp only [Act.put, List.setIfInBounds_toArray, List.set_cons_zero, List.set_cons_succ]
        refine seq_nil ?_
        go_wp2
        go_roundw
        case rel => exact ⟨k + 1, (cutL xs N), by omega, by go_num, hpd.out, Q7.out.below hb8', R7.out.below hb8', NB7.trans (hb8'.mono NB7.size), by have := b67.out.size; have := hb8'.size; omega⟩
        case measure => simp [intOf]; omega
      by_cases q3 : q = 3
      · subst q3
        have PU := Lib.hid (fun (w' : World) h => clear_any B R n xs w' h)
        go_upto_region 29 with (fail)
        refine wp_at (fun w hW => ?_)
        have NQ := Lib.hid (show QL w B R n xs by rw [hW]; exact HQ.out.below ((Below.refl _ _).alloc (Nat.le_refl _) _))
        have NR := Lib.hid (show RQ w M Z0 n xs by rw [hW]; exact HR.out.below ((Below.refl _ _).alloc (Nat.le_refl _) _))
        have NB := Lib.hid (show Below w0.heap.size w0 w by rw [hW]; exact hB.alloc hB.size _)
        have NC := Lib.hid (show Blk w C 46 #[.int .i64 3, .int .i64 N] by rw [hW, hC]; exact Blk.new _ _ _)
        have hCz : C < w.heap.size := by rw [hW, hC]; simp
        have hKw : Z0 ≤ w.heap.size := by rw [hW]; simp; omega
        have hCK : Z0 ≤ C := by rw [hC]; omega
        have c80 := NC.out.cell 0
        have c81 := NC.out.cell 1
        rw [← hC]
        replace hW := Lib.hid hW
        replace hC := Lib.hid hC
        have NB0 := NB.out.size
        go_upto_region 31 with (go_at_call 27; refine (PU.out _ NQ.out).mono ?_; rintro e w2 ⟨rfl, hq2, hc2⟩; obtain ⟨v9, hm9, -⟩ := NR.out.chg hc2 (by omega) (fun b hb e => by omega); have c90 := hm9.cell 0; have f90 := hm9.frozen 0; have NB2 := NB.out.trans (hc2.below NB0 (fun k hk e => by omega)); have c82 := (hc2.cells C 1 hCz (by omega)).trans c81; have hz2 := hc2.size; replace hq2 := Lib.hid hq2; have hK2 : Z0 ≤ w2.heap.size := Nat.le_trans hKw hz2; have hC2 : C < w2.heap.size := Nat.lt_of_lt_of_le hCz hz2; replace hm9 := Lib.hid hm9)
        have hcM : Chg (fun b => b = M) w2 (w2.setCell ⟨M, 0, none⟩ (.slice none 0 0)) := (Chg.refl _ _).set1 0 _
        have NQ := Lib.hid (hq2.out.chg hcM (by omega) (by omega))
        have NR : Hid (RQ (w2.setCell ⟨M, 0, none⟩ (.slice none 0 0)) M Z0 n []) := Lib.hid ⟨.slice none 0 0, hm9.out.set 0 _, rf_nil _ _⟩
        have NB := Lib.hid (NB2.trans (hcM.below NB2.size (fun k hk e => by omega)))
        have c81 := (hcM.cells C 1 hC2 (by omega)).trans c82
        have hCz : C < (w2.setCell ⟨M, 0, none⟩ (.slice none 0 0)).heap.size := Nat.lt_of_lt_of_le hC2 hcM.size
        have HT1 := Lib.hid (all_any18 B R n ([] : List Int) _ NQ.out)
        have hlen2 := NQ.out.len
        obtain ⟨v2, hm1, hm2⟩ := NR.out
        have M1 := Lib.hid hm1
        have M2 := Lib.hid hm2
        obtain ⟨la, lc, rfl, -⟩ := id hm2.1
        have HHD := Lib.hid (fun (w' : World) h => head_any B R n ([] : List Int) w' h)
        have HRH := Lib.hid (fun (w' : World) h => rhead_any M Z0 n ([] : List Int) (by omega) w' h)
        have HLN := Lib.hid (fun (w' : World) h => len_any B R n ([] : List Int) w' h)
        have HHS := Lib.hid (fun (w' : World) h => has_any B R n ([] : List Int) N w' h)
        have HRS := Lib.hid (fun (w' : World) v h => numHas_any v ([] : List Int) N w' h (by omega))
        rw [headV_eq] at HHD HRH
        generalize hdL ([] : List Int) = hd at HHD HRH
        generalize neL ([] : List Int) = ne at HHD HRH
        generalize decide (N ∈ ([] : List Int)) = hs at HHS HRS
        have e1 : (hd != hd) = false := by simp
        have e2 : (ne != ne) = false := by simp
        have e3 : (hs != hs) = false := by simp
        have e4 : (((([] : List Int)).length : Int) != ((([] : List Int)).length : Int)) = false := by simp
        have hbM := hm1.lt
        have hbq := NQ.out.lt
        clear hm1 hm2
        have NB0 := NB.out.size
        go_wp2_with (first
          | (go_at_call 19; refine HT1.out.mono ?_; rintro e w6 ⟨v6, rfl, hr6, hb6⟩; replace hr6 := Lib.hid hr6; have NB6 := NB.out.trans (hb6.mono NB0); have Q6 := Lib.hid (NQ.out.below hb6); have R6 := Lib.hid (NR.out.below hb6))
          | (go_at_call 28; refine (HHD.out _ Q6.out).mono ?_; rintro e w7 ⟨rfl, hb7⟩; have hr7 := Lib.hid (hr6.out.later hb7); have NB7 := NB6.trans (hb7.mono NB6.size); have Q7 := Lib.hid (Q6.out.below hb7); have R7 := Lib.hid (R6.out.below hb7); have b67 := Lib.hid (hb6.trans (hb7.mono hb6.size)))
          | (go_at_call 25; refine (HRH.out _ R7.out).mono ?_; rintro e w' ⟨rfl, rfl⟩))
        have m7 := (M1.out.below b67.out hbM).cell 0
        have c7 := (b67.out.cell (p := ⟨C, 1, none⟩) hCz).trans c81
        have NW := Lib.hid (M2.out.1.later b67.out)
        have hM7 : M < w7.heap.size := Nat.lt_of_lt_of_le hbM b67.out.size
        have hC7 : C < w7.heap.size := Nat.lt_of_lt_of_le hCz b67.out.size
        refine wp_region_seq (fun _ => False) #[⟨0, 0, 680564733841876926926749214863536422912, 32768, 0⟩, ⟨1, 1, 1361129467683753853853498429727072845824, 680564733841876926926749214863536422912, 0⟩, ⟨2, 3, 2722258935367507707706996859454145691648, 1361129467683753853853498429727072845824, 0⟩, ⟨4, 7, 5444517870735015415413993718908291383296, 2722258935367507707706996859454145708032, 0⟩, ⟨4, 7, 10889035741470030830827987437816582766592, 2722258935367507707706996859454145691776, 0⟩, ⟨20, 23, 21778071482940061661655974875633165533184, 13611294676837538538534984297270728458240, 0⟩, ⟨36, 55, 43556142965880123323311949751266331066368, 24500330418307569369362971735087311224832, 0⟩, ⟨68, 119, 87112285931760246646623899502532662132736, 46278401901247631031018946610720476758016, 1⟩, ⟨140, 255, 174224571863520493293247799005065324265472, 95279062737862769769744890080895099207680, 2⟩, ⟨260, 511, 348449143727040986586495598010130648530944, 176946830798888001000954795864519469957120, 0⟩, ⟨516, 1023, 696898287454081973172991196020261297061888, 351171402662408494294202594869584794222592, 0⟩, ⟨1280, 2047, 1393796574908163946345982392040522594123776, 696898287454081973172991196020261297061888, 0⟩, ⟨2048, 4095, 2787593149816327892691964784081045188247552, 1393796574908163946345982392040522594189312, 0⟩, ⟨2048, 4095, 5575186299632655785383929568162090376495104, 1393796574908163946345982392040522594385920, 0⟩, ⟨14336, 16383, 11150372599265311570767859136324180752990208, 9756576024357147624421876744283658158866432, 0⟩, ⟨18432, 32767, 22300745198530623141535718272648361505980416, 12544169174173475517113841528364703347113984, 0⟩, ⟨34816, 65535, 44601490397061246283071436545296723011960832, 22300745198530623141535718272648361505980416, 0⟩, ⟨65536, 131071, 89202980794122492566142873090593446023921664, 44601490397061246283071436545296723012091904, 0⟩, ⟨65536, 131071, 178405961588244985132285746181186892047843328, 44601490397061246283071436545296723012485120, 0⟩, ⟨458752, 524287, 356811923176489970264571492362373784095686656, 312210432779428723981500055817077061083725824, 0⟩, ⟨589824, 1048575, 713623846352979940529142984724747568191373312, 401413413573551216547642928907670507107647488, 0⟩, ⟨1114112, 2097151, 1427247692705959881058285969449495136382746624, 713623846352979940529142984724747568191373312, 0⟩, ⟨2097152, 4194303, 2854495385411919762116571938898990272765493248, 1427247692705959881058285969449495136382746656, 0⟩, ⟨6291456, 8388607, 5708990770823839524233143877797980545530986496, 4281743078117879643174857908348485409148239872, 2⟩, ⟨2097152, 4194303, 11417981541647679048466287755595961091061972992, 1427247692705959881058285969449495136382746752, 0⟩, ⟨18874368, 20971519, 22835963083295358096932575511191922182123945984, 12845229234353638929524573725045456227444719616, 0⟩, ⟨35651584, 54525951, 45671926166590716193865151022383844364247891968, 24263210776001317977990861480641417318506692608, 0⟩, ⟨69206016, 121634815, 91343852333181432387730302044767688728495783936, 47099173859296676074923436991833339500630638592, 1⟩, ⟨136314880, 255852543, 182687704666362864775460604089535377456991567872, 92771100025887392268788588014217183864878530560, 0⟩, ⟨278921216, 536870911, 365375409332725729550921208179070754913983135744, 189823943129892664180752033936782853138905300992, 0⟩, ⟨538968064, 1073741823, 730750818665451459101842416358141509827966271488, 366802657025431689431979494148520250050365882368, 0⟩, ⟨1082130432, 2147483647, 1461501637330902918203684832716283019655932542976, 730750818665451459101842416358141509827966271488, 0⟩, ⟨2147483648, 4294967295, 2923003274661805836407369665432566039311865085952, 1461501637330902918203684832716283019655932543008, 0⟩, ⟨2147483648, 4294967295, 5846006549323611672814739330865132078623730171904, 1461501637330902918203684832716283019655932543488, 0⟩, ⟨10737418240, 12884901887, 11692013098647223345629478661730264157247460343808, 7307508186654514591018424163581415098279662714880, 1⟩, ⟨23622320128, 34359738367, 23384026197294446691258957323460528314494920687616, 16076518010639932100240533159879113216215257972736, 2⟩, ⟨2147483648, 4294967295, 46768052394588893382517914646921056628989841375232, 1461501637330902918203684832716283019655932543104, 0⟩, ⟨70866960384, 73014444031, 93536104789177786765035829293842113257979682750464, 48229554031919796300721599479637339648645773918208, 0⟩, ⟨139586437120, 210453397503, 187072209578355573530071658587684226515959365500928, 94997606426508689683239514126558396277635615293440, 0⟩, ⟨277025390592, 485331304447, 374144419156711147060143317175368453031918731001856, 188533711215686476448275343420400509535615298043904, 1⟩, ⟨2147483648, 4294967295, 748288838313422294120286634350736906063837462003712, 1461501637330902918203684832716283019655932543488, 0⟩, ⟨1101659111424, 1103806595071, 1496577676626844588240573268701473812127674924007424, 749750339950753197038490319183453189083493394546688, 1⟩, ⟨2785286291456, 4398046511103, 2993155353253689176481146537402947624255349848014848, 1872183597420886638218920270709558548179249587552256, 3⟩, ⟨4434553733120, 8796093022207, 5986310706507378352962293074805895248510699696029696, 3018000881088314526090609179559124435589500701245440, 0⟩, ⟨8798240505856, 17592186044415, 11972621413014756705924586149611790497021399392059392, 5987772208144709255880496759638611531530355628572672, 0⟩] 2766093156480 [(0, 0), (1, 0), (2, 0), (3, 0), (4, 0), (5, 0), (6, 0), (7, 1), (8, 2), (9, 0), (10, 0), (11, 0), (12, 0), (13, 0), (14, 0), (15, 0), (16, 0), (17, 0), (18, 0), (19, 0), (20, 0), (21, 0), (22, 0), (24, 0), (25, 0), (26, 0), (27, 1), (28, 0), (23, 2), (29, 0), (30, 0), (31, 0), (32, 0), (33, 0), (34, 1), (36, 0), (37, 0), (38, 0), (39, 1), (40, 0), (41, 1), (35, 2), (42, 3), (43, 0), (44, 0)] (by kernel_rfl) (by kernel_rfl) (by kernel_rfl) (by kernel_rfl) (by kernel_rfl) (by kernel_rfl) (fun c a d v w h => by cases d <;> exact h) ?_
        refine seq_calc (by simp only [List.getElem?_toArray, List.getElem?_cons_succ, List.getElem?_cons_zero]; rfl) (by rfl) (fun u => by go_simp <;> with_reducible rfl) ?_
        try simp only [Act.put, List.setIfInBounds_toArray, List.set_cons_zero, List.set_cons_succ]
        refine seq_calc (by simp only [List.getElem?_toArray, List.getElem?_cons_succ, List.getElem?_cons_zero]; rfl) (by rfl) (fun u => by go_simp <;> with_reducible rfl) ?_
        try simp only [Act.put, List.setIfInBounds_toArray, List.set_cons_zero, List.set_cons_succ]
        refine seq_calc (by simp only [List.getElem?_toArray, List.getElem?_cons_succ, List.getElem?_cons_zero]; rfl) (by rfl) (fun u => by go_simp <;> with_reducible rfl) ?_
        try simp only [Act.put, List.setIfInBounds_toArray, List.set_cons_zero, List.set_cons_succ]
        first
          | (refine seq_skip (by simp only [List.getElem?_toArray, List.getElem?_cons_succ, List.getElem?_cons_zero]; rfl) (by rfl) ?_)
          | (refine seq_calc (by simp only [List.getElem?_toArray, List.getElem?_cons_succ, List.getElem?_cons_zero]; rfl) (by rfl) (fun u => by go_simp <;> with_reducible rfl) ?_)
        try simp only [Act.put, List.setIfInBounds_toArray, List.set_cons_zero, List.set_cons_succ]
        first
          | (refine seq_skip (by simp only [List.getElem?_toArray, List.getElem?_cons_succ, List.getElem?_cons_zero]; rfl) (by rfl) ?_)
          | (refine seq_calc (by simp only [List.getElem?_toArray, List.getElem?_cons_succ, List.getElem?_cons_zero]; rfl) (by rfl) (fun u => by go_simp <;> with_reducible rfl) ?_)
        try simp only [Act.put, List.setIfInBounds_toArray, List.set_cons_zero, List.set_cons_succ]
        first
          | (refine seq_skip (by simp only [List.getElem?_toArray, List.getElem?_cons_succ, List.getElem?_cons_zero]; rfl) (by rfl) ?_)
          | (refine seq_calc (by simp only [List.getElem?_toArray, List.getElem?_cons_succ, List.getElem?_cons_zero]; rfl) (by rfl) (fun u => by go_simp <;> with_reducible rfl) ?_)
        try simp only [Act.put, List.setIfInBounds_toArray, List.set_cons_zero, List.set_cons_succ]
        first
          | (refine seq_skip (by simp only [List.getElem?_toArray, List.getElem?_cons_succ, List.getElem?_cons_zero]; rfl) (by rfl) ?_)
          | (refine seq_calc (by simp only [List.getElem?_toArray, List.getElem?_cons_succ, List.getElem?_cons_zero]; rfl) (by rfl) (fun u => by go_simp <;> with_reducible rfl) ?_)
        try simp only [Act.put, List.setIfInBounds_toArray, List.set_cons_zero, List.set_cons_succ]
        first
          | (refine seq_skip (by simp only [List.getElem?_toArray, List.getElem?_cons_succ, List.getElem?_cons_zero]; rfl) (by rfl) ?_)
          | (refine seq_load1 (by simp only [List.getElem?_toArray, List.getElem?_cons_succ, List.getElem?_cons_zero]; rfl) (by rfl) rfl rfl Tryd.underlying22 rfl (by go_simp <;> with_reducible rfl) (by first | exact id | assumption | (simp; done) | (simp; omega)) ?_)
        try simp only [Act.put, List.setIfInBounds_toArray, List.set_cons_zero, List.set_cons_succ]
        first
          | (refine seq_skip (by simp only [List.getElem?_toArray, List.getElem?_cons_succ, List.getElem?_cons_zero]; rfl) (by rfl) ?_)
          | (refine seq_do (by simp only [List.getElem?_toArray, List.getElem?_cons_succ, List.getElem?_cons_zero]; rfl) (by rfl) (fun K hK => ?_); go_wp2_with (first | (go_at_call 20; refine (sameInts_any _ _ ([] : List Int) ([] : List Int) _ (hr7.out.later (by go_grown)) (NW.out.later (by go_grown)) (by omega)).mono ?_; simp only [decide_true]; rintro e w' ⟨rfl, rfl⟩) | (go_at_call 22; refine (HLN.out _ (Q7.out.below (by go_grown))).mono ?_; rintro e w' ⟨rfl, rfl⟩) | (go_at_call 29; refine (HHS.out _ (Q7.out.below (by go_grown))).mono ?_; rintro e w8 ⟨rfl, hb8⟩; have hM8 := hb8.cell (p := ⟨M, 0, none⟩) hM7; have hC8 := hb8.cell (p := ⟨C, 1, none⟩) hC7; have hb8' := Below.undrew hb8; have NW8 := Lib.hid (NW.out.later hb8')) | (go_at_call 16; refine (HRS.out _ _ NW8.out).mono ?_; rintro e w' ⟨rfl, rfl⟩)); refine hK.out _ _ (by first | (with_reducible exact Chg.refl _ _) | (with_reducible assumption) | (refine Chg.of_below ?_; with_reducible assumption) | (with_reducible exact (Chg.refl _ _).alloc _) | (with_reducible exact (Chg.refl _ _).drewN _) | (with_reducible exact (Chg.refl _ _).drew) | exact ⟨rfl, rfl, rfl, Nat.le_refl _, fun _ _ _ => rfl⟩) ?_; clear hK K)
        try simp only [Act.put, List.setIfInBounds_toArray, List.set_cons_zero, List.set_cons_succ]
        first
          | (refine seq_skip (by simp only [List.getElem?_toArray, List.getElem?_cons_succ, List.getElem?_cons_zero]; rfl) (by rfl) ?_)
          | (refine seq_calc (by simp only [List.getElem?_toArray, List.getElem?_cons_succ, List.getElem?_cons_zero]; rfl) (by rfl) (fun u => by go_simp <;> with_reducible rfl) ?_)
        try simp only [Act.put, List.setIfInBounds_toArray, List.set_cons_zero, List.set_cons_succ]
        refine seq_calc (by simp only [List.getElem?_toArray, List.getElem?_cons_succ, List.getElem?_cons_zero]; rfl) (by rfl) (fun u => by go_simp <;> with_reducible rfl) ?_
        try simp only [Act.put, List.setIfInBounds_toArray, List.set_cons_zero, List.set_cons_succ]
        refine seq_calc (by simp only [List.getElem?_toArray, List.getElem?_cons_succ, List.getElem?_cons_zero]; rfl) (by rfl) (fun u => by go_simp <;> with_reducible rfl) ?_
        try simp only [Act.put, List.setIfInBounds_toArray, List.set_cons_zero, List.set_cons_succ]
        first
          | (refine seq_skip (by simp only [List.getElem?_toArray, List.getElem?_cons_succ, List.getElem?_cons_zero]; rfl) (by rfl) ?_)
          | (refine seq_calc (by simp only [List.getElem?_toArray, List.getElem?_cons_succ, List.getElem?_cons_zero]; rfl) (by rfl) (fun u => by go_simp <;> with_reducible rfl) ?_)
        try simp only [Act.put, List.setIfInBounds_toArray, List.set_cons_zero, List.set_cons_succ]
        first
          | (refine seq_skip (by simp only [List.getElem?_toArray, List.getElem?_cons_succ, List.getElem?_cons_zero]; rfl) (by rfl) ?_)
          | (refine seq_calc (by simp only [List.getElem?_toArray, List.getElem?_cons_succ, List.getElem?_cons_zero]; rfl) (by rfl) (fun u => by go_simp <;> with_reducible rfl) ?_)
        try simp only [Act.put, List.setIfInBounds_toArray, List.set_cons_zero, List.set_cons_succ]
        first
          | (refine seq_skip (by simp only [List.getElem?_toArray, List.getElem?_cons_succ, List.getElem?_cons_zero]; rfl) (by rfl) ?_)
          | (refine seq_calc (by simp only [List.getElem?_toArray, List.getElem?_cons_succ, List.getElem?_cons_zero]; rfl) (by rfl) (fun u => by go_simp <;> with_reducible rfl) ?_)
        try simp only [Act.put, List.setIfInBounds_toArray, List.set_cons_zero, List.set_cons_succ]
        refine seq_calc (by simp only [List.getElem?_toArray, List.getElem?_cons_succ, List.getElem?_cons_zero]; rfl) (by rfl) (fun u => by go_simp <;> with_reducible rfl) ?_
        try simp only [Act.put, List.setIfInBounds_toArray, List.set_cons_zero, List.set_cons_succ]
        refine seq_calc (by simp only [List.getElem?_toArray, List.getElem?_cons_succ, List.getElem?_cons_zero]; rfl) (by rfl) (fun u => by go_simp <;> with_reducible rfl) ?_
        try simp only [Act.put, List.setIfInBounds_toArray, List.set_cons_zero, List.set_cons_succ]
        first
          | (refine seq_skip (by simp only [List.getElem?_toArray, List.getElem?_cons_succ, List.getElem?_cons_zero]; rfl) (by rfl) ?_)
          | (refine seq_calc (by simp only [List.getElem?_toArray, List.getElem?_cons_succ, List.getElem?_cons_zero]; rfl) (by rfl) (fun u => by go_simp <;> with_reducible rfl) ?_)
        try simp only [Act.put, List.setIfInBounds_toArray, List.set_cons_zero, List.set_cons_succ]
        first
          | (refine seq_skip (by simp only [List.getElem?_toArray, List.getElem?_cons_succ, List.getElem?_cons_zero]; rfl) (by rfl) ?_)
          | (refine seq_calc (by simp only [List.getElem?_toArray, List.getElem?_cons_succ, List.getElem?_cons_zero]; rfl) (by rfl) (fun u => by go_simp <;> with_reducible rfl) ?_)
        try simp only [Act.put, List.setIfInBounds_toArray, List.set_cons_zero, List.set_cons_succ]
        first
          | (refine seq_skip (by simp only [List.getElem?_toArray, List.getElem?_cons_succ, List.getElem?_cons_zero]; rfl) (by rfl) ?_)
          | (refine seq_calc (by simp only [List.getElem?_toArray, List.getElem?_cons_succ, List.getElem?_cons_zero]; rfl) (by rfl) (fun u => by go_simp <;> with_reducible rfl) ?_)
        try simp only [Act.put, List.setIfInBounds_toArray, List.set_cons_zero, List.set_cons_succ]
        refine seq_calc (by simp only [List.getElem?_toArray, List.getElem?_cons_succ, List.getElem?_cons_zero]; rfl) (by rfl) (fun u => by go_simp <;> with_reducible rfl) ?_
        try simp only [Act.put, List.setIfInBounds_toArray, List.set_cons_zero, List.set_cons_succ]
        refine seq_calc (by simp only [List.getElem?_toArray, List.getElem?_cons_succ, List.getElem?_cons_zero]; rfl) (by rfl) (fun u => by go_simp <;> with_reducible rfl) ?_
        try simp only [Act.put, List.setIfInBounds_toArray, List.set_cons_zero, List.set_cons_succ]
        first
          | (refine seq_skip (by simp only [List.getElem?_toArray, List.getElem?_cons_succ, List.getElem?_cons_zero]; rfl) (by rfl) ?_)
          | (refine seq_calc (by simp only [List.getElem?_toArray, List.getElem?_cons_succ, List.getElem?_cons_zero]; rfl) (by rfl) (fun u => by go_simp <;> with_reducible rfl) ?_)
        try simp only [Act.put, List.setIfInBounds_toArray, List.set_cons_zero, List.set_cons_succ]
        first
          | (refine seq_skip (by simp only [List.getElem?_toArray, List.getElem?_cons_succ, List.getElem?_cons_zero]; rfl) (by rfl) ?_)
          | (refine seq_calc (by simp only [List.getElem?_toArray, List.getElem?_cons_succ, List.getElem?_cons_zero]; rfl) (by rfl) (fun u => by go_simp <;> with_reducible rfl) ?_)
        try simp only [Act.put, List.setIfInBounds_toArray, List.set_cons_zero, List.set_cons_succ]
        first
          | (refine seq_skip (by simp only [List.getElem?_toArray, List.getElem?_cons_succ, List.getElem?_cons_zero]; rfl) (by rfl) ?_)
          | (refine seq_calc (by simp only [List.getElem?_toArray, List.getElem?_cons_succ, List.getElem?_cons_zero]; rfl) (by rfl) (fun u => by go_simp <;> with_reducible rfl) ?_)
        try simp only [Act.put, List.setIfInBounds_toArray, List.set_cons_zero, List.set_cons_succ]
        first
          | (refine seq_skip (by simp only [List.getElem?_toArray, List.getElem?_cons_succ, List.getElem?_cons_zero]; rfl) (by rfl) ?_)
          | (refine seq_calc (by simp only [List.getElem?_toArray, List.getElem?_cons_succ, List.getElem?_cons_zero]; rfl) (by rfl) (fun u => by go_simp <;> with_reducible rfl) ?_)
        try simp only [Act.put, List.setIfInBounds_toArray, List.set_cons_zero, List.set_cons_succ]
        first
          | (refine seq_skip (by simp only [List.getElem?_toArray, List.getElem?_cons_succ, List.getElem?_cons_zero]; rfl) (by rfl) ?_)
          | (refine seq_load1 (by simp only [List.getElem?_toArray, List.getElem?_cons_succ, List.getElem?_cons_zero]; rfl) (by rfl) rfl rfl Tryd.underlying22 rfl (by go_simp <;> with_reducible rfl) (by first | exact id | assumption | (simp; done) | (simp; omega)) ?_)
        try simp only [Act.put, List.setIfInBounds_toArray, List.set_cons_zero, List.set_cons_succ]
        first
          | (refine seq_skip (by simp only [List.getElem?_toArray, List.getElem?_cons_succ, List.getElem?_cons_zero]; rfl) (by rfl) ?_)
          | (refine seq_calc (by simp only [List.getElem?_toArray, List.getElem?_cons_succ, List.getElem?_cons_zero]; rfl) (by rfl) (fun u => by go_simp <;> with_reducible rfl) ?_)
        try simp only [Act.put, List.setIfInBounds_toArray, List.set_cons_zero, List.set_cons_succ]
        first
          | (refine seq_skip (by simp only [List.getElem?_toArray, List.getElem?_cons_succ, List.getElem?_cons_zero]; rfl) (by rfl) ?_)
          | (refine seq_do (by simp only [List.getElem?_toArray, List.getElem?_cons_succ, List.getElem?_cons_zero]; rfl) (by rfl) (fun K hK => ?_); go_wp2_with (first | (go_at_call 20; refine (sameInts_any _ _ ([] : List Int) ([] : List Int) _ (hr7.out.later (by go_grown)) (NW.out.later (by go_grown)) (by omega)).mono ?_; simp only [decide_true]; rintro e w' ⟨rfl, rfl⟩) | (go_at_call 22; refine (HLN.out _ (Q7.out.below (by go_grown))).mono ?_; rintro e w' ⟨rfl, rfl⟩) | (go_at_call 29; refine (HHS.out _ (Q7.out.below (by go_grown))).mono ?_; rintro e w8 ⟨rfl, hb8⟩; have hM8 := hb8.cell (p := ⟨M, 0, none⟩) hM7; have hC8 := hb8.cell (p := ⟨C, 1, none⟩) hC7; have hb8' := Below.undrew hb8; have NW8 := Lib.hid (NW.out.later hb8')) | (go_at_call 16; refine (HRS.out _ _ NW8.out).mono ?_; rintro e w' ⟨rfl, rfl⟩)); refine hK.out _ _ (by first | (with_reducible exact Chg.refl _ _) | (with_reducible assumption) | (refine Chg.of_below ?_; with_reducible assumption) | (with_reducible exact (Chg.refl _ _).alloc _) | (with_reducible exact (Chg.refl _ _).drewN _) | (with_reducible exact (Chg.refl _ _).drew) | exact ⟨rfl, rfl, rfl, Nat.le_refl _, fun _ _ _ => rfl⟩) ?_; clear hK K)
        try simp only [Act.put, List.setIfInBounds_toArray, List.set_cons_zero, List.set_cons_succ]
        first
          | (refine seq_skip (by simp only [List.getElem?_toArray, List.getElem?_cons_succ, List.getElem?_cons_zero]; rfl) (by rfl) ?_)
          | (refine seq_calc (by simp only [List.getElem?_toArray, List.getElem?_cons_succ, List.getElem?_cons_zero]; rfl) (by rfl) (fun u => by go_simp <;> with_reducible rfl) ?_)
        try simp only [Act.put, List.setIfInBounds_toArray, List.set_cons_zero, List.set_cons_succ]
        refine seq_calc (by simp only [List.getElem?_toArray, List.getElem?_cons_succ, List.getElem?_cons_zero]; rfl) (by rfl) (fun u => by go_simp <;> with_reducible rfl) ?_
        try simp only [Act.put, List.setIfInBounds_toArray, List.set_cons_zero, List.set_cons_succ]
        refine seq_calc (by simp only [List.getElem?_toArray, List.getElem?_cons_succ, List.getElem?_cons_zero]; rfl) (by rfl) (fun u => by go_simp <;> with_reducible rfl) ?_
        try simp only [Act.put, List.setIfInBounds_toArray, List.set_cons_zero, List.set_cons_succ]
        first
          | (refine seq_skip (by simp only [List.getElem?_toArray, List.getElem?_cons_succ, List.getElem?_cons_zero]; rfl) (by rfl) ?_)
          | (refine seq_calc (by simp only [List.getElem?_toArray, List.getElem?_cons_succ, List.getElem?_cons_zero]; rfl) (by rfl) (fun u => by go_simp <;> with_reducible rfl) ?_)
        try simp only [Act.put, List.setIfInBounds_toArray, List.set_cons_zero, List.set_cons_succ]
        first
          | (refine seq_skip (by simp only [List.getElem?_toArray, List.getElem?_cons_succ, List.getElem?_cons_zero]; rfl) (by rfl) ?_)
          | (refine seq_calc (by simp only [List.getElem?_toArray, List.getElem?_cons_succ, List.getElem?_cons_zero]; rfl) (by rfl) (fun u => by go_simp <;> with_reducible rfl) ?_)
        try simp only [Act.put, List.setIfInBounds_toArray, List.set_cons_zero, List.set_cons_succ]
        first
          | (refine seq_skip (by simp only [List.getElem?_toArray, List.getElem?_cons_succ, List.getElem?_cons_zero]; rfl) (by rfl) ?_)
          | (refine seq_load1 (by simp only [List.getElem?_toArray, List.getElem?_cons_succ, List.getElem?_cons_zero]; rfl) (by rfl) rfl rfl Tryd.underlying3 rfl (by go_simp <;> with_reducible rfl) (by first | exact id | assumption | (simp; done) | (simp; omega)) ?_)
        try simp only [Act.put, List.setIfInBounds_toArray, List.set_cons_zero, List.set_cons_succ]
        first
          | (refine seq_skip (by simp only [List.getElem?_toArray, List.getElem?_cons_succ, List.getElem?_cons_zero]; rfl) (by rfl) ?_)
          | (refine seq_calc (by simp only [List.getElem?_toArray, List.getElem?_cons_succ, List.getElem?_cons_zero]; rfl) (by rfl) (fun u => by go_simp <;> with_reducible rfl) ?_)
        try simp only [Act.put, List.setIfInBounds_toArray, List.set_cons_zero, List.set_cons_succ]
        first
          | (refine seq_skip (by simp only [List.getElem?_toArray, List.getElem?_cons_succ, List.getElem?_cons_zero]; rfl) (by rfl) ?_)
          | (refine seq_calc (by simp only [List.getElem?_toArray, List.getElem?_cons_succ, List.getElem?_cons_zero]; rfl) (by rfl) (fun u => by go_simp <;> with_reducible rfl) ?_)
        try simp only [Act.put, List.setIfInBounds_toArray, List.set_cons_zero, List.set_cons_succ]
        first
          | (refine seq_skip (by simp only [List.getElem?_toArray, List.getElem?_cons_succ, List.getElem?_cons_zero]; rfl) (by rfl) ?_)
          | (refine seq_calc (by simp only [List.getElem?_toArray, List.getElem?_cons_succ, List.getElem?_cons_zero]; rfl) (by rfl) (fun u => by go_simp <;> with_reducible rfl) ?_)
        try simp only [Act.put, List.setIfInBounds_toArray, List.set_cons_zero, List.set_cons_succ]
        first
          | (refine seq_skip (by simp only [List.getElem?_toArray, List.getElem?_cons_succ, List.getElem?_cons_zero]; rfl) (by rfl) ?_)
          | (refine seq_load1 (by simp only [List.getElem?_toArray, List.getElem?_cons_succ, List.getElem?_cons_zero]; rfl) (by rfl) rfl rfl Tryd.underlying22 rfl (by go_simp <;> with_reducible rfl) (by first | exact id | assumption | (simp; done) | (simp; omega)) ?_)
        try simp only [Act.put, List.setIfInBounds_toArray, List.set_cons_zero, List.set_cons_succ]
        first
          | (refine seq_skip (by simp only [List.getElem?_toArray, List.getElem?_cons_succ, List.getElem?_cons_zero]; rfl) (by rfl) ?_)
          | (refine seq_calc (by simp only [List.getElem?_toArray, List.getElem?_cons_succ, List.getElem?_cons_zero]; rfl) (by rfl) (fun u => by go_simp <;> with_reducible rfl) ?_)
        try simp only [Act.put, List.setIfInBounds_toArray, List.set_cons_zero, List.set_cons_succ]
        first
          | (refine seq_skip (by simp only [List.getElem?_toArray, List.getElem?_cons_succ, List.getElem?_cons_zero]; rfl) (by rfl) ?_)
          | (refine seq_load1 (by simp only [List.getElem?_toArray, List.getElem?_cons_succ, List.getElem?_cons_zero]; rfl) (by rfl) rfl rfl Tryd.underlying3 rfl (by go_simp <;> with_reducible rfl) (by first | exact id | assumption | (simp; done) | (simp; omega)) ?_)
        try simp only [Act.put, List.setIfInBounds_toArray, List.set_cons_zero, List.set_cons_succ]
        first
          | (refine seq_skip (by simp only [List.getElem?_toArray, List.getElem?_cons_succ, List.getElem?_cons_zero]; rfl) (by rfl) ?_)
          | (refine seq_do (by simp only [List.getElem?_toArray, List.getElem?_cons_succ, List.getElem?_cons_zero]; rfl) (by rfl) (fun K hK => ?_); go_wp2_with (first | (go_at_call 20; refine (sameInts_any _ _ ([] : List Int) ([] : List Int) _ (hr7.out.later (by go_grown)) (NW.out.later (by go_grown)) (by omega)).mono ?_; simp only [decide_true]; rintro e w' ⟨rfl, rfl⟩) | (go_at_call 22; refine (HLN.out _ (Q7.out.below (by go_grown))).mono ?_; rintro e w' ⟨rfl, rfl⟩) | (go_at_call 29; refine (HHS.out _ (Q7.out.below (by go_grown))).mono ?_; rintro e w8 ⟨rfl, hb8⟩; have hM8 := hb8.cell (p := ⟨M, 0, none⟩) hM7; have hC8 := hb8.cell (p := ⟨C, 1, none⟩) hC7; have hb8' := Below.undrew hb8; have NW8 := Lib.hid (NW.out.later hb8')) | (go_at_call 16; refine (HRS.out _ _ NW8.out).mono ?_; rintro e w' ⟨rfl, rfl⟩)); refine hK.out _ _ (by first | (with_reducible exact Chg.refl _ _) | (with_reducible assumption) | (refine Chg.of_below ?_; with_reducible assumption) | (with_reducible exact (Chg.refl _ _).alloc _) | (with_reducible exact (Chg.refl _ _).drewN _) | (with_reducible exact (Chg.refl _ _).drew) | exact ⟨rfl, rfl, rfl, Nat.le_refl _, fun _ _ _ => rfl⟩) ?_; clear hK K)
        try simp only [Act.put, List.setIfInBounds_toArray, List.set_cons_zero, List.set_cons_succ]
        first
          | (refine seq_skip (by simp only [List.getElem?_toArray, List.getElem?_cons_succ, List.getElem?_cons_zero]; rfl) (by rfl) ?_)
          | (refine seq_last (by simp only [List.getElem?_toArray, List.getElem?_cons_succ, List.getElem?_cons_zero]; rfl) (by rfl) (fun K hK => ?_); go_wp2_with (first | (go_at_call 20; refine (sameInts_any _ _ ([] : List Int) ([] : List Int) _ (hr7.out.later (by go_grown)) (NW.out.later (by go_grown)) (by omega)).mono ?_; simp only [decide_true]; rintro e w' ⟨rfl, rfl⟩) | (go_at_call 22; refine (HLN.out _ (Q7.out.below (by go_grown))).mono ?_; rintro e w' ⟨rfl, rfl⟩) | (go_at_call 29; refine (HHS.out _ (Q7.out.below (by go_grown))).mono ?_; rintro e w8 ⟨rfl, hb8⟩; have hM8 := hb8.cell (p := ⟨M, 0, none⟩) hM7; have hC8 := hb8.cell (p := ⟨C, 1, none⟩) hC7; have hb8' := Below.undrew hb8; have NW8 := Lib.hid (NW.out.later hb8')) | (go_at_call 16; refine (HRS.out _ _ NW8.out).mono ?_; rintro e w' ⟨rfl, rfl⟩)); refine hK.out _ _ ?_; clear hK K)
        try simp only [Act.put, List.setIfInBounds_toArray, List.set_cons_zero, List.set_cons_succ]
        first
          | (refine seq_skip (by simp only [List.getElem?_toArray, List.getElem?_cons_succ, List.getElem?_cons_zero]; rfl) (by rfl) ?_)
          | (refine seq_calc (by simp only [List.getElem?_toArray, List.getElem?_cons_succ, List.getElem?_cons_zero]; rfl) (by rfl) (fun u => by go_simp <;> with_reducible rfl) ?_)
        try simp only [Act.put, List.setIfInBounds_toArray, List.set_cons_zero, List.set_cons_succ]
        refine seq_calc (by simp only [List.getElem?_toArray, List.getElem?_cons_succ, List.getElem?_cons_zero]; rfl) (by rfl) (fun u => by go_simp <;> with_reducible rfl) ?_
        try simp only [Act.put, List.setIfInBounds_toArray, List.set_cons_zero, List.set_cons_succ]
        refine seq_nil ?_
        go_wp2
        go_roundw
        case rel => exact ⟨k + 1, ([] : List Int), by omega, by go_num, List.nodup_nil, Q7.out.below hb8', R7.out.below hb8', NB7.trans (hb8'.mono NB7.size), by have := b67.out.size; have := hb8'.size; omega⟩
        case measure => simp [intOf]; omega
      · go_upto_region 31 with (fail)
        refine wp_at (fun w hW => ?_)
        have NQ := Lib.hid (show QL w B R n xs by rw [hW]; exact HQ.out.below ((Below.refl _ _).alloc (Nat.le_refl _) _))
        have NR := Lib.hid (show RQ w M Z0 n xs by rw [hW]; exact HR.out.below ((Below.refl _ _).alloc (Nat.le_refl _) _))
        have NB := Lib.hid (show Below w0.heap.size w0 w by rw [hW]; exact hB.alloc hB.size _)
        have NC := Lib.hid (show Blk w C 46 #[.int .i64 q, .int .i64 N] by rw [hW, hC]; exact Blk.new _ _ _)
        have hCz : C < w.heap.size := by rw [hW, hC]; simp
        have hKw : Z0 ≤ w.heap.size := by rw [hW]; simp; omega
        have hCK : Z0 ≤ C := by rw [hC]; omega
        have c80 := NC.out.cell 0
        have c81 := NC.out.cell 1
        rw [← hC]
        replace hW := Lib.hid hW
        replace hC := Lib.hid hC
        have HT1 := Lib.hid (all_any18 B R n (xs) _ NQ.out)
        have hlen2 := NQ.out.len
        obtain ⟨v2, hm1, hm2⟩ := NR.out
        have M1 := Lib.hid hm1
        have M2 := Lib.hid hm2
        obtain ⟨la, lc, rfl, -⟩ := id hm2.1
        have HHD := Lib.hid (fun (w' : World) h => head_any B R n (xs) w' h)
        have HRH := Lib.hid (fun (w' : World) h => rhead_any M Z0 n (xs) (by omega) w' h)
        have HLN := Lib.hid (fun (w' : World) h => len_any B R n (xs) w' h)
        have HHS := Lib.hid (fun (w' : World) h => has_any B R n (xs) N w' h)
        have HRS := Lib.hid (fun (w' : World) v h => numHas_any v (xs) N w' h (by omega))
        rw [headV_eq] at HHD HRH
        generalize hdL (xs) = hd at HHD HRH
        generalize neL (xs) = ne at HHD HRH
        generalize decide (N ∈ (xs)) = hs at HHS HRS
        have e1 : (hd != hd) = false := by simp
        have e2 : (ne != ne) = false := by simp
        have e3 : (hs != hs) = false := by simp
        have e4 : ((((xs)).length : Int) != (((xs)).length : Int)) = false := by simp
        have hbM := hm1.lt
        have hbq := NQ.out.lt
        clear hm1 hm2
        have NB0 := NB.out.size
        go_wp2_with (first
          | (go_at_call 19; refine HT1.out.mono ?_; rintro e w6 ⟨v6, rfl, hr6, hb6⟩; replace hr6 := Lib.hid hr6; have NB6 := NB.out.trans (hb6.mono NB0); have Q6 := Lib.hid (NQ.out.below hb6); have R6 := Lib.hid (NR.out.below hb6))
          | (go_at_call 28; refine (HHD.out _ Q6.out).mono ?_; rintro e w7 ⟨rfl, hb7⟩; have hr7 := Lib.hid (hr6.out.later hb7); have NB7 := NB6.trans (hb7.mono NB6.size); have Q7 := Lib.hid (Q6.out.below hb7); have R7 := Lib.hid (R6.out.below hb7); have b67 := Lib.hid (hb6.trans (hb7.mono hb6.size)))
          | (go_at_call 25; refine (HRH.out _ R7.out).mono ?_; rintro e w' ⟨rfl, rfl⟩))
        have m7 := (M1.out.below b67.out hbM).cell 0
        have c7 := (b67.out.cell (p := ⟨C, 1, none⟩) hCz).trans c81
        have NW := Lib.hid (M2.out.1.later b67.out)
        have hM7 : M < w7.heap.size := Nat.lt_of_lt_of_le hbM b67.out.size
        have hC7 : C < w7.heap.size := Nat.lt_of_lt_of_le hCz b67.out.size
        refine wp_region_seq (fun _ => False) #[⟨0, 0, 680564733841876926926749214863536422912, 32768, 0⟩, ⟨1, 1, 1361129467683753853853498429727072845824, 680564733841876926926749214863536422912, 0⟩, ⟨2, 3, 2722258935367507707706996859454145691648, 1361129467683753853853498429727072845824, 0⟩, ⟨4, 7, 5444517870735015415413993718908291383296, 2722258935367507707706996859454145708032, 0⟩, ⟨4, 7, 10889035741470030830827987437816582766592, 2722258935367507707706996859454145691776, 0⟩, ⟨20, 23, 21778071482940061661655974875633165533184, 13611294676837538538534984297270728458240, 0⟩, ⟨36, 55, 43556142965880123323311949751266331066368, 24500330418307569369362971735087311224832, 0⟩, ⟨68, 119, 87112285931760246646623899502532662132736, 46278401901247631031018946610720476758016, 1⟩, ⟨140, 255, 174224571863520493293247799005065324265472, 95279062737862769769744890080895099207680, 2⟩, ⟨260, 511, 348449143727040986586495598010130648530944, 176946830798888001000954795864519469957120, 0⟩, ⟨516, 1023, 696898287454081973172991196020261297061888, 351171402662408494294202594869584794222592, 0⟩, ⟨1280, 2047, 1393796574908163946345982392040522594123776, 696898287454081973172991196020261297061888, 0⟩, ⟨2048, 4095, 2787593149816327892691964784081045188247552, 1393796574908163946345982392040522594189312, 0⟩, ⟨2048, 4095, 5575186299632655785383929568162090376495104, 1393796574908163946345982392040522594385920, 0⟩, ⟨14336, 16383, 11150372599265311570767859136324180752990208, 9756576024357147624421876744283658158866432, 0⟩, ⟨18432, 32767, 22300745198530623141535718272648361505980416, 12544169174173475517113841528364703347113984, 0⟩, ⟨34816, 65535, 44601490397061246283071436545296723011960832, 22300745198530623141535718272648361505980416, 0⟩, ⟨65536, 131071, 89202980794122492566142873090593446023921664, 44601490397061246283071436545296723012091904, 0⟩, ⟨65536, 131071, 178405961588244985132285746181186892047843328, 44601490397061246283071436545296723012485120, 0⟩, ⟨458752, 524287, 356811923176489970264571492362373784095686656, 312210432779428723981500055817077061083725824, 0⟩, ⟨589824, 1048575, 713623846352979940529142984724747568191373312, 401413413573551216547642928907670507107647488, 0⟩, ⟨1114112, 2097151, 1427247692705959881058285969449495136382746624, 713623846352979940529142984724747568191373312, 0⟩, ⟨2097152, 4194303, 2854495385411919762116571938898990272765493248, 1427247692705959881058285969449495136382746656, 0⟩, ⟨6291456, 8388607, 5708990770823839524233143877797980545530986496, 4281743078117879643174857908348485409148239872, 2⟩, ⟨2097152, 4194303, 11417981541647679048466287755595961091061972992, 1427247692705959881058285969449495136382746752, 0⟩, ⟨18874368, 20971519, 22835963083295358096932575511191922182123945984, 12845229234353638929524573725045456227444719616, 0⟩, ⟨35651584, 54525951, 45671926166590716193865151022383844364247891968, 24263210776001317977990861480641417318506692608, 0⟩, ⟨69206016, 121634815, 91343852333181432387730302044767688728495783936, 47099173859296676074923436991833339500630638592, 1⟩, ⟨136314880, 255852543, 182687704666362864775460604089535377456991567872, 92771100025887392268788588014217183864878530560, 0⟩, ⟨278921216, 536870911, 365375409332725729550921208179070754913983135744, 189823943129892664180752033936782853138905300992, 0⟩, ⟨538968064, 1073741823, 730750818665451459101842416358141509827966271488, 366802657025431689431979494148520250050365882368, 0⟩, ⟨1082130432, 2147483647, 1461501637330902918203684832716283019655932542976, 730750818665451459101842416358141509827966271488, 0⟩, ⟨2147483648, 4294967295, 2923003274661805836407369665432566039311865085952, 1461501637330902918203684832716283019655932543008, 0⟩, ⟨2147483648, 4294967295, 5846006549323611672814739330865132078623730171904, 1461501637330902918203684832716283019655932543488, 0⟩, ⟨10737418240, 12884901887, 11692013098647223345629478661730264157247460343808, 7307508186654514591018424163581415098279662714880, 1⟩, ⟨23622320128, 34359738367, 23384026197294446691258957323460528314494920687616, 16076518010639932100240533159879113216215257972736, 2⟩, ⟨2147483648, 4294967295, 46768052394588893382517914646921056628989841375232, 1461501637330902918203684832716283019655932543104, 0⟩, ⟨70866960384, 73014444031, 93536104789177786765035829293842113257979682750464, 48229554031919796300721599479637339648645773918208, 0⟩, ⟨139586437120, 210453397503, 187072209578355573530071658587684226515959365500928, 94997606426508689683239514126558396277635615293440, 0⟩, ⟨277025390592, 485331304447, 374144419156711147060143317175368453031918731001856, 188533711215686476448275343420400509535615298043904, 1⟩, ⟨2147483648, 4294967295, 748288838313422294120286634350736906063837462003712, 1461501637330902918203684832716283019655932543488, 0⟩, ⟨1101659111424, 1103806595071, 1496577676626844588240573268701473812127674924007424, 749750339950753197038490319183453189083493394546688, 1⟩, ⟨2785286291456, 4398046511103, 2993155353253689176481146537402947624255349848014848, 1872183597420886638218920270709558548179249587552256, 3⟩, ⟨4434553733120, 8796093022207, 5986310706507378352962293074805895248510699696029696, 3018000881088314526090609179559124435589500701245440, 0⟩, ⟨8798240505856, 17592186044415, 11972621413014756705924586149611790497021399392059392, 5987772208144709255880496759638611531530355628572672, 0⟩] 2766093156480 [(0, 0), (1, 0), (2, 0), (3, 0), (4, 0), (5, 0), (6, 0), (7, 1), (8, 2), (9, 0), (10, 0), (11, 0), (12, 0), (13, 0), (14, 0), (15, 0), (16, 0), (17, 0), (18, 0), (19, 0), (20, 0), (21, 0), (22, 0), (24, 0), (25, 0), (26, 0), (27, 1), (28, 0), (23, 2), (29, 0), (30, 0), (31, 0), (32, 0), (33, 0), (34, 1), (36, 0), (37, 0), (38, 0), (39, 1), (40, 0), (41, 1), (35, 2), (42, 3), (43, 0), (44, 0)] (by kernel_rfl) (by kernel_rfl) (by kernel_rfl) (by kernel_rfl) (by kernel_rfl) (by kernel_rfl) (fun c a d v w h => by cases d <;> exact h) ?_
        refine seq_calc (by simp only [List.getElem?_toArray, List.getElem?_cons_succ, List.getElem?_cons_zero]; rfl) (by rfl) (fun u => by go_simp <;> with_reducible rfl) ?_
        try simp only [Act.put, List.setIfInBounds_toArray, List.set_cons_zero, List.set_cons_succ]
        refine seq_calc (by simp only [List.getElem?_toArray, List.getElem?_cons_succ, List.getElem?_cons_zero]; rfl) (by rfl) (fun u => by go_simp <;> with_reducible rfl) ?_
        try simp only [Act.put, List.setIfInBounds_toArray, List.set_cons_zero, List.set_cons_succ]
        refine seq_calc (by simp only [List.getElem?_toArray, List.getElem?_cons_succ, List.getElem?_cons_zero]; rfl) (by rfl) (fun u => by go_simp <;> with_reducible rfl) ?_
        try simp only [Act.put, List.setIfInBounds_toArray, List.set_cons_zero, List.set_cons_succ]
        first
          | (refine seq_skip (by simp only [List.getElem?_toArray, List.getElem?_cons_succ, List.getElem?_cons_zero]; rfl) (by rfl) ?_)
          | (refine seq_calc (by simp only [List.getElem?_toArray, List.getElem?_cons_succ, List.getElem?_cons_zero]; rfl) (by rfl) (fun u => by go_simp <;> with_reducible rfl) ?_)
        try simp only [Act.put, List.setIfInBounds_toArray, List.set_cons_zero, List.set_cons_succ]
        first
          | (refine seq_skip (by simp only [List.getElem?_toArray, List.getElem?_cons_succ, List.getElem?_cons_zero]; rfl) (by rfl) ?_)
          | (refine seq_calc (by simp only [List.getElem?_toArray, List.getElem?_cons_succ, List.getElem?_cons_zero]; rfl) (by rfl) (fun u => by go_simp <;> with_reducible rfl) ?_)
        try simp only [Act.put, List.setIfInBounds_toArray, List.set_cons_zero, List.set_cons_succ]
        first
          | (refine seq_skip (by simp only [List.getElem?_toArray, List.getElem?_cons_succ, List.getElem?_cons_zero]; rfl) (by rfl) ?_)
          | (refine seq_calc (by simp only [List.getElem?_toArray, List.getElem?_cons_succ, List.getElem?_cons_zero]; rfl) (by rfl) (fun u => by go_simp <;> with_reducible rfl) ?_)
        try simp only [Act.put, List.setIfInBounds_toArray, List.set_cons_zero, List.set_cons_succ]
        first
          | (refine seq_skip (by simp only [List.getElem?_toArray, List.getElem?_cons_succ, List.getElem?_cons_zero]; rfl) (by rfl) ?_)
          | (refine seq_calc (by simp only [List.getElem?_toArray, List.getElem?_cons_succ, List.getElem?_cons_zero]; rfl) (by rfl) (fun u => by go_simp <;> with_reducible rfl) ?_)
        try simp only [Act.put, List.setIfInBounds_toArray, List.set_cons_zero, List.set_cons_succ]
        first
          | (refine seq_skip (by simp only [List.getElem?_toArray, List.getElem?_cons_succ, List.getElem?_cons_zero]; rfl) (by rfl) ?_)
          | (refine seq_load1 (by simp only [List.getElem?_toArray, List.getElem?_cons_succ, List.getElem?_cons_zero]; rfl) (by rfl) rfl rfl Tryd.underlying22 rfl (by go_simp <;> with_reducible rfl) (by first | exact id | assumption | (simp; done) | (simp; omega)) ?_)
        try simp only [Act.put, List.setIfInBounds_toArray, List.set_cons_zero, List.set_cons_succ]
        first
          | (refine seq_skip (by simp only [List.getElem?_toArray, List.getElem?_cons_succ, List.getElem?_cons_zero]; rfl) (by rfl) ?_)
          | (refine seq_do (by simp only [List.getElem?_toArray, List.getElem?_cons_succ, List.getElem?_cons_zero]; rfl) (by rfl) (fun K hK => ?_); go_wp2_with (first | (go_at_call 20; refine (sameInts_any _ _ (xs) (xs) _ (hr7.out.later (by go_grown)) (NW.out.later (by go_grown)) (by omega)).mono ?_; simp only [decide_true]; rintro e w' ⟨rfl, rfl⟩) | (go_at_call 22; refine (HLN.out _ (Q7.out.below (by go_grown))).mono ?_; rintro e w' ⟨rfl, rfl⟩) | (go_at_call 29; refine (HHS.out _ (Q7.out.below (by go_grown))).mono ?_; rintro e w8 ⟨rfl, hb8⟩; have hM8 := hb8.cell (p := ⟨M, 0, none⟩) hM7; have hC8 := hb8.cell (p := ⟨C, 1, none⟩) hC7; have hb8' := Below.undrew hb8; have NW8 := Lib.hid (NW.out.later hb8')) | (go_at_call 16; refine (HRS.out _ _ NW8.out).mono ?_; rintro e w' ⟨rfl, rfl⟩)); refine hK.out _ _ (by first | (with_reducible exact Chg.refl _ _) | (with_reducible assumption) | (refine Chg.of_below ?_; with_reducible assumption) | (with_reducible exact (Chg.refl _ _).alloc _) | (with_reducible exact (Chg.refl _ _).drewN _) | (with_reducible exact (Chg.refl _ _).drew) | exact ⟨rfl, rfl, rfl, Nat.le_refl _, fun _ _ _ => rfl⟩) ?_; clear hK K)
        try simp only [Act.put, List.setIfInBounds_toArray, List.set_cons_zero, List.set_cons_succ]
        first
          | (refine seq_skip (by simp only [List.getElem?_toArray, List.getElem?_cons_succ, List.getElem?_cons_zero]; rfl) (by rfl) ?_)
          | (refine seq_calc (by simp only [List.getElem?_toArray, List.getElem?_cons_succ, List.getElem?_cons_zero]; rfl) (by rfl) (fun u => by go_simp <;> with_reducible rfl) ?_)
        try simp only [Act.put, List.setIfInBounds_toArray, List.set_cons_zero, List.set_cons_succ]
        refine seq_calc (by simp only [List.getElem?_toArray, List.getElem?_cons_succ, List.getElem?_cons_zero]; rfl) (by rfl) (fun u => by go_simp <;> with_reducible rfl) ?_
        try simp only [Act.put, List.setIfInBounds_toArray, List.set_cons_zero, List.set_cons_succ]
        refine seq_calc (by simp only [List.getElem?_toArray, List.getElem?_cons_succ, List.getElem?_cons_zero]; rfl) (by rfl) (fun u => by go_simp <;> with_reducible rfl) ?_
        try simp only [Act.put, List.setIfInBounds_toArray, List.set_cons_zero, List.set_cons_succ]
        first
          | (refine seq_skip (by simp only [List.getElem?_toArray, List.getElem?_cons_succ, List.getElem?_cons_zero]; rfl) (by rfl) ?_)
          | (refine seq_calc (by simp only [List.getElem?_toArray, List.getElem?_cons_succ, List.getElem?_cons_zero]; rfl) (by rfl) (fun u => by go_simp <;> with_reducible rfl) ?_)
        try simp only [Act.put, List.setIfInBounds_toArray, List.set_cons_zero, List.set_cons_succ]
        first
          | (refine seq_skip (by simp only [List.getElem?_toArray, List.getElem?_cons_succ, List.getElem?_cons_zero]; rfl) (by rfl) ?_)
          | (refine seq_calc (by simp only [List.getElem?_toArray, List.getElem?_cons_succ, List.getElem?_cons_zero]; rfl) (by rfl) (fun u => by go_simp <;> with_reducible rfl) ?_)
        try simp only [Act.put, List.setIfInBounds_toArray, List.set_cons_zero, List.set_cons_succ]
        first
          | (refine seq_skip (by simp only [List.getElem?_toArray, List.getElem?_cons_succ, List.getElem?_cons_zero]; rfl) (by rfl) ?_)
          | (refine seq_calc (by simp only [List.getElem?_toArray, List.getElem?_cons_succ, List.getElem?_cons_zero]; rfl) (by rfl) (fun u => by go_simp <;> with_reducible rfl) ?_)
        try simp only [Act.put, List.setIfInBounds_toArray, List.set_cons_zero, List.set_cons_succ]
        refine seq_calc (by simp only [List.getElem?_toArray, List.getElem?_cons_succ, List.getElem?_cons_zero]; rfl) (by rfl) (fun u => by go_simp <;> with_reducible rfl) ?_
        try simp only [Act.put, List.setIfInBounds_toArray, List.set_cons_zero, List.set_cons_succ]
        refine seq_calc (by simp only [List.getElem?_toArray, List.getElem?_cons_succ, List.getElem?_cons_zero]; rfl) (by rfl) (fun u => by go_simp <;> with_reducible rfl) ?_
        try simp only [Act.put, List.setIfInBounds_toArray, List.set_cons_zero, List.set_cons_succ]
        first
          | (refine seq_skip (by simp only [List.getElem?_toArray, List.getElem?_cons_succ, List.getElem?_cons_zero]; rfl) (by rfl) ?_)
          | (refine seq_calc (by simp only [List.getElem?_toArray, List.getElem?_cons_succ, List.getElem?_cons_zero]; rfl) (by rfl) (fun u => by go_simp <;> with_reducible rfl) ?_)
        try simp only [Act.put, List.setIfInBounds_toArray, List.set_cons_zero, List.set_cons_succ]
        first
          | (refine seq_skip (by simp only [List.getElem?_toArray, List.getElem?_cons_succ, List.getElem?_cons_zero]; rfl) (by rfl) ?_)
          | (refine seq_calc (by simp only [List.getElem?_toArray, List.getElem?_cons_succ, List.getElem?_cons_zero]; rfl) (by rfl) (fun u => by go_simp <;> with_reducible rfl) ?_)
        try simp only [Act.put, List.setIfInBounds_toArray, List.set_cons_zero, List.set_cons_succ]
        first
          | (refine seq_skip (by simp only [List.getElem?_toArray, List.getElem?_cons_succ, List.getElem?_cons_zero]; rfl) (by rfl) ?_)
          | (refine seq_calc (by simp only [List.getElem?_toArray, List.getElem?_cons_succ, List.getElem?_cons_zero]; rfl) (by rfl) (fun u => by go_simp <;> with_reducible rfl) ?_)
        try simp only [Act.put, List.setIfInBounds_toArray, List.set_cons_zero, List.set_cons_succ]
        refine seq_calc (by simp only [List.getElem?_toArray, List.getElem?_cons_succ, List.getElem?_cons_zero]; rfl) (by rfl) (fun u => by go_simp <;> with_reducible rfl) ?_
        try simp only [Act.put, List.setIfInBounds_toArray, List.set_cons_zero, List.set_cons_succ]
        refine seq_calc (by simp only [List.getElem?_toArray, List.getElem?_cons_succ, List.getElem?_cons_zero]; rfl) (by rfl) (fun u => by go_simp <;> with_reducible rfl) ?_
        try simp only [Act.put, List.setIfInBounds_toArray, List.set_cons_zero, List.set_cons_succ]
        first
          | (refine seq_skip (by simp only [List.getElem?_toArray, List.getElem?_cons_succ, List.getElem?_cons_zero]; rfl) (by rfl) ?_)
          | (refine seq_calc (by simp only [List.getElem?_toArray, List.getElem?_cons_succ, List.getElem?_cons_zero]; rfl) (by rfl) (fun u => by go_simp <;> with_reducible rfl) ?_)
        try simp only [Act.put, List.setIfInBounds_toArray, List.set_cons_zero, List.set_cons_succ]
        first
          | (refine seq_skip (by simp only [List.getElem?_toArray, List.getElem?_cons_succ, List.getElem?_cons_zero]; rfl) (by rfl) ?_)
          | (refine seq_calc (by simp only [List.getElem?_toArray, List.getElem?_cons_succ, List.getElem?_cons_zero]; rfl) (by rfl) (fun u => by go_simp <;> with_reducible rfl) ?_)
        try simp only [Act.put, List.setIfInBounds_toArray, List.set_cons_zero, List.set_cons_succ]
        first
          | (refine seq_skip (by simp only [List.getElem?_toArray, List.getElem?_cons_succ, List.getElem?_cons_zero]; rfl) (by rfl) ?_)
          | (refine seq_calc (by simp only [List.getElem?_toArray, List.getElem?_cons_succ, List.getElem?_cons_zero]; rfl) (by rfl) (fun u => by go_simp <;> with_reducible rfl) ?_)
        try simp only [Act.put, List.setIfInBounds_toArray, List.set_cons_zero, List.set_cons_succ]
        first
          | (refine seq_skip (by simp only [List.getElem?_toArray, List.getElem?_cons_succ, List.getElem?_cons_zero]; rfl) (by rfl) ?_)
          | (refine seq_calc (by simp only [List.getElem?_toArray, List.getElem?_cons_succ, List.getElem?_cons_zero]; rfl) (by rfl) (fun u => by go_simp <;> with_reducible rfl) ?_)
        try simp only [Act.put, List.setIfInBounds_toArray, List.set_cons_zero, List.set_cons_succ]
        first
          | (refine seq_skip (by simp only [List.getElem?_toArray, List.getElem?_cons_succ, List.getElem?_cons_zero]; rfl) (by rfl) ?_)
          | (refine seq_load1 (by simp only [List.getElem?_toArray, List.getElem?_cons_succ, List.getElem?_cons_zero]; rfl) (by rfl) rfl rfl Tryd.underlying22 rfl (by go_simp <;> with_reducible rfl) (by first | exact id | assumption | (simp; done) | (simp; omega)) ?_)
        try simp only [Act.put, List.setIfInBounds_toArray, List.set_cons_zero, List.set_cons_succ]
        first
          | (refine seq_skip (by simp only [List.getElem?_toArray, List.getElem?_cons_succ, List.getElem?_cons_zero]; rfl) (by rfl) ?_)
          | (refine seq_calc (by simp only [List.getElem?_toArray, List.getElem?_cons_succ, List.getElem?_cons_zero]; rfl) (by rfl) (fun u => by go_simp <;> with_reducible rfl) ?_)
        try simp only [Act.put, List.setIfInBounds_toArray, List.set_cons_zero, List.set_cons_succ]
        first
          | (refine seq_skip (by simp only [List.getElem?_toArray, List.getElem?_cons_succ, List.getElem?_cons_zero]; rfl) (by rfl) ?_)
          | (refine seq_do (by simp only [List.getElem?_toArray, List.getElem?_cons_succ, List.getElem?_cons_zero]; rfl) (by rfl) (fun K hK => ?_); go_wp2_with (first | (go_at_call 20; refine (sameInts_any _ _ (xs) (xs) _ (hr7.out.later (by go_grown)) (NW.out.later (by go_grown)) (by omega)).mono ?_; simp only [decide_true]; rintro e w' ⟨rfl, rfl⟩) | (go_at_call 22; refine (HLN.out _ (Q7.out.below (by go_grown))).mono ?_; rintro e w' ⟨rfl, rfl⟩) | (go_at_call 29; refine (HHS.out _ (Q7.out.below (by go_grown))).mono ?_; rintro e w8 ⟨rfl, hb8⟩; have hM8 := hb8.cell (p := ⟨M, 0, none⟩) hM7; have hC8 := hb8.cell (p := ⟨C, 1, none⟩) hC7; have hb8' := Below.undrew hb8; have NW8 := Lib.hid (NW.out.later hb8')) | (go_at_call 16; refine (HRS.out _ _ NW8.out).mono ?_; rintro e w' ⟨rfl, rfl⟩)); refine hK.out _ _ (by first | (with_reducible exact Chg.refl _ _) | (with_reducible assumption) | (refine Chg.of_below ?_; with_reducible assumption) | (with_reducible exact (Chg.refl _ _).alloc _) | (with_reducible exact (Chg.refl _ _).drewN _) | (with_reducible exact (Chg.refl _ _).drew) | exact ⟨rfl, rfl, rfl, Nat.le_refl _, fun _ _ _ => rfl⟩) ?_; clear hK K)
        try simp only [Act.put, List.setIfInBounds_toArray, List.set_cons_zero, List.set_cons_succ]
        first
          | (refine seq_skip (by simp only [List.getElem?_toArray, List.getElem?_cons_succ, List.getElem?_cons_zero]; rfl) (by rfl) ?_)
          | (refine seq_calc (by simp only [List.getElem?_toArray, List.getElem?_cons_succ, List.getElem?_cons_zero]; rfl) (by rfl) (fun u => by go_simp <;> with_reducible rfl) ?_)
        try simp only [Act.put, List.setIfInBounds_toArray, List.set_cons_zero, List.set_cons_succ]
        refine seq_calc (by simp only [List.getElem?_toArray, List.getElem?_cons_succ, List.getElem?_cons_zero]; rfl) (by rfl) (fun u => by go_simp <;> with_reducible rfl) ?_
        try simp only [Act.put, List.setIfInBounds_toArray, List.set_cons_zero, List.set_cons_succ]
        refine seq_calc (by simp only [List.getElem?_toArray, List.getElem?_cons_succ, List.getElem?_cons_zero]; rfl) (by rfl) (fun u => by go_simp <;> with_reducible rfl) ?_
        try simp only [Act.put, List.setIfInBounds_toArray, List.set_cons_zero, List.set_cons_succ]
        first
          | (refine seq_skip (by simp only [List.getElem?_toArray, List.getElem?_cons_succ, List.getElem?_cons_zero]; rfl) (by rfl) ?_)
          | (refine seq_calc (by simp only [List.getElem?_toArray, List.getElem?_cons_succ, List.getElem?_cons_zero]; rfl) (by rfl) (fun u => by go_simp <;> with_reducible rfl) ?_)
        try simp only [Act.put, List.setIfInBounds_toArray, List.set_cons_zero, List.set_cons_succ]
        first
          | (refine seq_skip (by simp only [List.getElem?_toArray, List.getElem?_cons_succ, List.getElem?_cons_zero]; rfl) (by rfl) ?_)
          | (refine seq_calc (by simp only [List.getElem?_toArray, List.getElem?_cons_succ, List.getElem?_cons_zero]; rfl) (by rfl) (fun u => by go_simp <;> with_reducible rfl) ?_)
        try simp only [Act.put, List.setIfInBounds_toArray, List.set_cons_zero, List.set_cons_succ]
        first
          | (refine seq_skip (by simp only [List.getElem?_toArray, List.getElem?_cons_succ, List.getElem?_cons_zero]; rfl) (by rfl) ?_)
          | (refine seq_load1 (by simp only [List.getElem?_toArray, List.getElem?_cons_succ, List.getElem?_cons_zero]; rfl) (by rfl) rfl rfl Tryd.underlying3 rfl (by go_simp <;> with_reducible rfl) (by first | exact id | assumption | (simp; done) | (simp; omega)) ?_)
        try simp only [Act.put, List.setIfInBounds_toArray, List.set_cons_zero, List.set_cons_succ]
        first
          | (refine seq_skip (by simp only [List.getElem?_toArray, List.getElem?_cons_succ, List.getElem?_cons_zero]; rfl) (by rfl) ?_)
          | (refine seq_calc (by simp only [List.getElem?_toArray, List.getElem?_cons_succ, List.getElem?_cons_zero]; rfl) (by rfl) (fun u => by go_simp <;> with_reducible rfl) ?_)
        try simp only [Act.put, List.setIfInBounds_toArray, List.set_cons_zero, List.set_cons_succ]
        first
          | (refine seq_skip (by simp only [List.getElem?_toArray, List.getElem?_cons_succ, List.getElem?_cons_zero]; rfl) (by rfl) ?_)
          | (refine seq_calc (by simp only [List.getElem?_toArray, List.getElem?_cons_succ, List.getElem?_cons_zero]; rfl) (by rfl) (fun u => by go_simp <;> with_reducible rfl) ?_)
        try simp only [Act.put, List.setIfInBounds_toArray, List.set_cons_zero, List.set_cons_succ]
        first
          | (refine seq_skip (by simp only [List.getElem?_toArray, List.getElem?_cons_succ, List.getElem?_cons_zero]; rfl) (by rfl) ?_)
          | (refine seq_calc (by simp only [List.getElem?_toArray, List.getElem?_cons_succ, List.getElem?_cons_zero]; rfl) (by rfl) (fun u => by go_simp <;> with_reducible rfl) ?_)
        try simp only [Act.put, List.setIfInBounds_toArray, List.set_cons_zero, List.set_cons_succ]
        first
          | (refine seq_skip (by simp only [List.getElem?_toArray, List.getElem?_cons_succ, List.getElem?_cons_zero]; rfl) (by rfl) ?_)
          | (refine seq_load1 (by simp only [List.getElem?_toArray, List.getElem?_cons_succ, List.getElem?_cons_zero]; rfl) (by rfl) rfl rfl Tryd.underlying22 rfl (by go_simp <;> with_reducible rfl) (by first | exact id | assumption | (simp; done) | (simp; omega)) ?_)
        try simp only [Act.put, List.setIfInBounds_toArray, List.set_cons_zero, List.set_cons_succ]
        first
          | (refine seq_skip (by simp only [List.getElem?_toArray, List.getElem?_cons_succ, List.getElem?_cons_zero]; rfl) (by rfl) ?_)
          | (refine seq_calc (by simp only [List.getElem?_toArray, List.getElem?_cons_succ, List.getElem?_cons_zero]; rfl) (by rfl) (fun u => by go_simp <;> with_reducible rfl) ?_)
        try simp only [Act.put, List.setIfInBounds_toArray, List.set_cons_zero, List.set_cons_succ]
        first
          | (refine seq_skip (by simp only [List.getElem?_toArray, List.getElem?_cons_succ, List.getElem?_cons_zero]; rfl) (by rfl) ?_)
          | (refine seq_load1 (by simp only [List.getElem?_toArray, List.getElem?_cons_succ, List.getElem?_cons_zero]; rfl) (by rfl) rfl rfl Tryd.underlying3 rfl (by go_simp <;> with_reducible rfl) (by first | exact id | assumption | (simp; done) | (simp; omega)) ?_)
        try simp only [Act.put, List.setIfInBounds_toArray, List.set_cons_zero, List.set_cons_succ]
        first
          | (refine seq_skip (by simp only [List.getElem?_toArray, List.getElem?_cons_succ, List.getElem?_cons_zero]; rfl) (by rfl) ?_)
          | (refine seq_do (by simp only [List.getElem?_toArray, List.getElem?_cons_succ, List.getElem?_cons_zero]; rfl) (by rfl) (fun K hK => ?_); go_wp2_with (first | (go_at_call 20; refine (sameInts_any _ _ (xs) (xs) _ (hr7.out.later (by go_grown)) (NW.out.later (by go_grown)) (by omega)).mono ?_; simp only [decide_true]; rintro e w' ⟨rfl, rfl⟩) | (go_at_call 22; refine (HLN.out _ (Q7.out.below (by go_grown))).mono ?_; rintro e w' ⟨rfl, rfl⟩) | (go_at_call 29; refine (HHS.out _ (Q7.out.below (by go_grown))).mono ?_; rintro e w8 ⟨rfl, hb8⟩; have hM8 := hb8.cell (p := ⟨M, 0, none⟩) hM7; have hC8 := hb8.cell (p := ⟨C, 1, none⟩) hC7; have hb8' := Below.undrew hb8; have NW8 := Lib.hid (NW.out.later hb8')) | (go_at_call 16; refine (HRS.out _ _ NW8.out).mono ?_; rintro e w' ⟨rfl, rfl⟩)); refine hK.out _ _ (by first | (with_reducible exact Chg.refl _ _) | (with_reducible assumption) | (refine Chg.of_below ?_; with_reducible assumption) | (with_reducible exact (Chg.refl _ _).alloc _) | (with_reducible exact (Chg.refl _ _).drewN _) | (with_reducible exact (Chg.refl _ _).drew) | exact ⟨rfl, rfl, rfl, Nat.le_refl _, fun _ _ _ => rfl⟩) ?_; clear hK K)
        try simp only [Act.put, List.setIfInBounds_toArray, List.set_cons_zero, List.set_cons_succ]
        first
          | (refine seq_skip (by simp only [List.getElem?_toArray, List.getElem?_cons_succ, List.getElem?_cons_zero]; rfl) (by rfl) ?_)
          | (refine seq_last (by simp only [List.getElem?_toArray, List.getElem?_cons_succ, List.getElem?_cons_zero]; rfl) (by rfl) (fun K hK => ?_); go_wp2_with (first | (go_at_call 20; refine (sameInts_any _ _ (xs) (xs) _ (hr7.out.later (by go_grown)) (NW.out.later (by go_grown)) (by omega)).mono ?_; simp only [decide_true]; rintro e w' ⟨rfl, rfl⟩) | (go_at_call 22; refine (HLN.out _ (Q7.out.below (by go_grown))).mono ?_; rintro e w' ⟨rfl, rfl⟩) | (go_at_call 29; refine (HHS.out _ (Q7.out.below (by go_grown))).mono ?_; rintro e w8 ⟨rfl, hb8⟩; have hM8 := hb8.cell (p := ⟨M, 0, none⟩) hM7; have hC8 := hb8.cell (p := ⟨C, 1, none⟩) hC7; have hb8' := Below.undrew hb8; have NW8 := Lib.hid (NW.out.later hb8')) | (go_at_call 16; refine (HRS.out _ _ NW8.out).mono ?_; rintro e w' ⟨rfl, rfl⟩)); refine hK.out _ _ ?_; clear hK K)
        try simp only [Act.put, List.setIfInBounds_toArray, List.set_cons_zero, List.set_cons_succ]
        first
          | (refine seq_skip (by simp only [List.getElem?_toArray, List.getElem?_cons_succ, List.getElem?_cons_zero]; rfl) (by rfl) ?_)
          | (refine seq_calc (by simp only [List.getElem?_toArray, List.getElem?_cons_succ, List.getElem?_cons_zero]; rfl) (by rfl) (fun u => by go_simp <;> with_reducible rfl) ?_)
        try simp only [Act.put, List.setIfInBounds_toArray, List.set_cons_zero, List.set_cons_succ]
        refine seq_calc (by simp only [List.getElem?_toArray, List.getElem?_cons_succ, List.getElem?_cons_zero]; rfl) (by rfl) (fun u => by go_simp <;> with_reducible rfl) ?_
        try simp only [Act.put, List.setIfInBounds_toArray, List.set_cons_zero, List.set_cons_succ]
        refine seq_nil ?_
        go_wp2
        go_roundw
        case rel => exact ⟨k + 1, (xs), by omega, by go_num, HND.out, Q7.out.below hb8', R7.out.below hb8', NB7.trans (hb8'.mono NB7.size), by have := b67.out.size; have := hb8'.size; omega⟩
        case measure => simp [intOf]; omega
    · obtain rfl : k = n0 := by omega
      go_wp2
      go_ret
      exact ⟨rfl, hB⟩
end Go.Proofs.YtaegjdkmnkjggaaDoor
