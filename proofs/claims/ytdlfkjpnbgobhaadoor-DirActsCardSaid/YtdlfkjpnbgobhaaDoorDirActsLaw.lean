/- The walk of DirActs. Condition: the errors. -/
import Derived.Test.YtdlfkjpnbgobhaaDoorDirActs
namespace Go.Proofs.YtdlfkjpnbgobhaaDoor
set_option linter.unusedVariables false
set_option linter.unusedSimpArgs false
open Go.RowKit Go.Proofs

set_option maxRecDepth 100000 in
set_option maxHeartbeats 16000000 in
theorem dirActs_any (depth : Int) (v : Value) (n0 : Nat) (f : Nat → Nat → Int) (h : Nat) (hh : h < 18446744073709551616) (E : Nat → Addr) (w0 : World) (he : ErrsAre w0 E) (h1 : RowsAt w0 v n0 4 .i64 f) :
    Calls Tryd.prog 12 #[.int .i64 depth, v, .int .u64 (h : Int)] w0 fun e w' => e = .returned (.bool true) ∧ Below w0.heap.size w0 w' := by
  have m1 := h1.2.2
  obtain ⟨a, cap, rfl, hx⟩ := h1.cell4 (by decide)
  unfold maxLen at m1
  have HE := Lib.hid he
  have HX := Lib.hid hx
  have HE3 := Lib.hid (show EC w0 E [1] from he.ec.sub (by decide))
  clear h1 hx he
  have ha := Lib.hid (alive16_any E w0 HE3.out)
  by_cases g1 : 60 < n0
  · have g1' : (60 : Int) < (n0 : Int) := by omega
    go_enter Tryd.func12, Tryd.ntmps12
    go_wp2_with (go_at_call 56; refine ha.out.mono ?_; rintro e w1 ⟨rfl, hb1⟩)
    go_ret
    exact ⟨rfl, hb1⟩
  have g1' : (n0 : Int) ≤ 60 := by omega
  by_cases g3 : depth < 0 ∨ 5 < depth
  · have HN := Lib.hid (fun (w' : World) h => dnew_bad depth g3 E w' h)
    have HM := Lib.hid (fun (w' : World) => rdnew_bad depth g3 w')
    have HU := Lib.hid (fun (w' : World) h => num_err w' E h 1 (by decide) (by decide))
    simp only [errAt] at HU HN
    clear g3
    go_enter Tryd.func12, Tryd.ntmps12
    go_wp2_with (first
      | (go_at_call 56; refine ha.out.mono ?_; rintro e w1 ⟨rfl, hb1⟩)
      | (go_at_call 57; refine (HN.out _ (HE3.out.below hb1)).mono ?_; rintro e w2 ⟨rfl, hb2⟩; have hb3 := hb1.trans (hb2.mono hb1.size))
      | (go_at_call 58; refine (HM.out _).mono ?_; rintro e w' ⟨rfl, rfl⟩)
      | (go_at_call 40; refine (HU.out _ (HE.out.below hb3)).mono ?_; rintro e w' ⟨rfl, rfl⟩))
    go_ret
    exact ⟨rfl, hb3.alloc hb3.size _⟩
  obtain ⟨d, rfl⟩ : ∃ d : Nat, depth = (d : Int) := ⟨depth.toNat, by omega⟩
  have hd5 : d ≤ 5 := by omega
  clear g3
  have ND := Lib.hid (fun (w : World) => dnew_ok d hd5 w)
  have NR := Lib.hid (fun (w : World) => rdnew_ok d hd5 w)
  go_enter Tryd.func12, Tryd.ntmps12
  go_wp2_with (first
    | (go_at_call 56; refine ha.out.mono ?_; rintro e w1 ⟨rfl, hb1⟩)
    | (go_at_call 57; refine (ND.out w1).mono ?_; rintro e w2 ⟨B, R, rfl, hD, hB, hR, hb2⟩; replace hD := Lib.hid hD; have hb2' := hb1.trans (hb2.mono hb1.size))
    | (go_at_call 58; refine (NR.out w2).mono ?_; rintro e w3 ⟨M, Z, rfl, hM, hMz, hZz, hb3⟩; replace hM := Lib.hid hM; have hD3 := Lib.hid (hD.out.below hb3); have hb3' := hb2'.trans (hb3.mono hb2'.size))
    | (go_at_call 40; refine (num_nil _).mono ?_; rintro e w' ⟨rfl, rfl⟩))
  obtain ⟨es0, hes0⟩ : ∃ es : List Int, es = List.replicate (2 ^ d) 0 := ⟨_, rfl⟩
  rw [← hes0] at hD3 hM
  replace hes0 := Lib.hid hes0
  have hBl := hD.out.head.lt
  have hRl := hD.out.ring.lt
  have hB0 : w0.heap.size ≤ B ∧ w0.heap.size ≤ R ∧ w0.heap.size ≤ M ∧ w0.heap.size ≤ Z := by have := hb1.size; have := hb2.size; omega
  obtain ⟨b1, b2, b3, b4⟩ := hB0
  have b5 : B < M ∧ B < Z ∧ R < M ∧ R < Z := by omega
  obtain ⟨b5, b6, b7, b8⟩ := b5
  have b9 := hD.out.ne
  have b10 := hM.out.ne
  clear hb1 hb2 hb2' hb3 hD hBl hRl hB hR hMz hZz
  go_loopw [61] (fun v61 wr => ∃ (k : Nat) (es : List Int), k ≤ n0 ∧ v61 = .int .i64 (k : Int) ∧ DW wr B R d es ∧ RD wr M Z d es ∧ Below w0.heap.size w0 wr) (fun v61 _ => n0 - (intOf v61).toNat)
  case atStart => exact ⟨0, es0, Nat.zero_le _, rfl, hD3.out, hM.out, hb3'⟩
  case round =>
    clear hD3 hM hb3'
    obtain ⟨k, es, hk, rfl, hQ, hR, hB⟩ := hrel
    have hlen := hQ.pos
    have HQ := Lib.hid hQ
    have HR := Lib.hid hR
    clear hQ hR
    by_cases hlt : k < n0
    · obtain ⟨b, off, rfl, hbz, hcells⟩ := HX.out (by omega)
      have c0 : wr.cell? ⟨b, off + k * 4, none⟩ = some (.int .i64 (f k 0)) := by simpa using hcells wr hB k hlt 0 (by decide)
      have c1 : wr.cell? ⟨b, off + k * 4 + 1, none⟩ = some (.int .i64 (f k 1)) := by simpa [Nat.add_assoc] using hcells wr hB k hlt 1 (by decide)
      have c2 : wr.cell? ⟨b, off + k * 4 + 2, none⟩ = some (.int .i64 (f k 2)) := by simpa [Nat.add_assoc] using hcells wr hB k hlt 2 (by decide)
      have c3 : wr.cell? ⟨b, off + k * 4 + 3, none⟩ = some (.int .i64 (f k 3)) := by simpa [Nat.add_assoc] using hcells wr hB k hlt 3 (by decide)
      generalize f k 0 = q at c0
      generalize f k 1 = A at c1
      generalize f k 2 = D at c2
      generalize f k 3 = N at c3
      clear hcells
      obtain ⟨C, hC⟩ : ∃ C, C = wr.heap.size := ⟨_, rfl⟩
      go_upto_region 14 with (fail)
      refine wp_at (fun w hW => ?_)
      have NQ := Lib.hid (show DW w B R d es by rw [hW]; exact HQ.out.below ((Below.refl _ _).alloc (Nat.le_refl _) _))
      have NR := Lib.hid (show RD w M Z d es by rw [hW]; exact HR.out.below ((Below.refl _ _).alloc (Nat.le_refl _) _))
      have NB := Lib.hid (show Below w0.heap.size w0 w by rw [hW]; exact hB.alloc hB.size _)
      have NC := Lib.hid (show Blk w C 89 #[.int .i64 q, .int .i64 A, .int .i64 D, .int .i64 N] by rw [hW, hC]; exact Blk.new _ _ _)
      have hCw : w0.heap.size ≤ C ∧ B < C ∧ R < C ∧ M < C ∧ Z < C := by have := hB.size; have h1 := HQ.out.head.lt; have h2 := HQ.out.ring.lt; have h3 := HR.out.head.lt; have h4 := HR.out.ring.lt; omega
      obtain ⟨hC0, hCB, hCR, hCM, hCZ⟩ := hCw
      rw [← hC]
      replace hW := Lib.hid hW
      replace hC := Lib.hid hC
      obtain ⟨th, hth⟩ : ∃ th : Bool, (th = true ↔ 0 ≤ A ∧ A < (es.length : Int)) := ⟨decide (0 ≤ A ∧ A < (es.length : Int)), by simp⟩
      replace hth := Lib.hid hth
      clear HQ HR hB c0 c1 c2 c3
      go_cut [13] (fun v13 wx => v13 = .bool th ∧ wx = w.drew)
      case first =>
        have c81 := NC.out.cell 1
        have c91 := NR.out.head.cell 1
        by_cases hA0 : A < 0
        · have e1 : decide (A ≥ 0) = false := by simp; omega
          have e2 : decide (0 ≤ A) = false := by simp; omega
          have : th = false := by have := hth.out; cases th; rfl; exact absurd (this.1 rfl).1 (by omega)
          subst this
          refine wp_region_seq (fun _ => False) #[⟨0, 0, 36893488147419103232, 4096, 0⟩, ⟨1, 1, 73786976294838206464, 36893488147419103232, 1⟩, ⟨2, 3, 147573952589676412928, 73786976294838206464, 0⟩, ⟨4, 7, 295147905179352825856, 147573952589676412928, 0⟩, ⟨8, 15, 590295810358705651712, 295147905179352829952, 0⟩, ⟨24, 31, 1180591620717411303424, 885443715538058477568, 1⟩, ⟨8, 15, 2361183241434822606848, 295147905179352826368, 0⟩, ⟨72, 79, 4722366482869645213696, 2656331146614175432704, 0⟩, ⟨136, 207, 9444732965739290427392, 5017514388048998039552, 0⟩, ⟨264, 463, 18889465931478580854784, 9739880870918643253248, 1⟩, ⟨520, 975, 37778931862957161709568, 19184613836657933680640, 0⟩, ⟨1064, 2047, 75557863725914323419136, 39254671388853925838848, 0⟩, ⟨2056, 4095, 151115727451828646838272, 75853011631093676244992, 0⟩, ⟨8191, 8191, 8192, 151115727451828646838272, 0⟩] 546 [(0, 0), (1, 1), (2, 0), (3, 0), (4, 0), (5, 1), (6, 0), (7, 0), (8, 0), (9, 1), (10, 0), (11, 0), (12, 0), (13, 0)] (by kernel_rfl) (by kernel_rfl) (by kernel_rfl) (by kernel_rfl) (by kernel_rfl) (by kernel_rfl) (fun c a d v w h => by cases d <;> exact h) ?_
          refine seq_calc (by simp only [List.getElem?_toArray, List.getElem?_cons_succ, List.getElem?_cons_zero]; rfl) (by rfl) (fun u => by go_simp <;> with_reducible rfl) ?_
          try simp only [Act.put, List.setIfInBounds_toArray, List.set_cons_zero, List.set_cons_succ]
          refine seq_load1 (by simp only [List.getElem?_toArray, List.getElem?_cons_succ, List.getElem?_cons_zero]; rfl) (by rfl) rfl rfl Tryd.underlying3 rfl (by go_simp <;> with_reducible rfl) (by first | exact id | assumption | (simp; done) | (simp; omega)) ?_
          try simp only [Act.put, List.setIfInBounds_toArray, List.set_cons_zero, List.set_cons_succ]
          refine seq_calc (by simp only [List.getElem?_toArray, List.getElem?_cons_succ, List.getElem?_cons_zero]; rfl) (by rfl) (fun u => by go_simp <;> with_reducible rfl) ?_
          try simp only [Act.put, List.setIfInBounds_toArray, List.set_cons_zero, List.set_cons_succ]
          refine seq_calc (by simp only [List.getElem?_toArray, List.getElem?_cons_succ, List.getElem?_cons_zero]; rfl) (by rfl) (fun u => by go_simp <;> with_reducible rfl) ?_
          try simp only [Act.put, List.setIfInBounds_toArray, List.set_cons_zero, List.set_cons_succ]
          first
            | (refine seq_skip (by simp only [List.getElem?_toArray, List.getElem?_cons_succ, List.getElem?_cons_zero]; rfl) (by rfl) ?_)
            | (refine seq_calc (by simp only [List.getElem?_toArray, List.getElem?_cons_succ, List.getElem?_cons_zero]; rfl) (by rfl) (fun u => by go_simp <;> with_reducible rfl) ?_)
          try simp only [Act.put, List.setIfInBounds_toArray, List.set_cons_zero, List.set_cons_succ]
          first
            | (refine seq_skip (by simp only [List.getElem?_toArray, List.getElem?_cons_succ, List.getElem?_cons_zero]; rfl) (by rfl) ?_)
            | (refine seq_load1 (by simp only [List.getElem?_toArray, List.getElem?_cons_succ, List.getElem?_cons_zero]; rfl) (by rfl) rfl rfl Tryd.underlying3 rfl (by go_simp <;> with_reducible rfl) (by first | exact id | assumption | (simp; done) | (simp; omega)) ?_)
          try simp only [Act.put, List.setIfInBounds_toArray, List.set_cons_zero, List.set_cons_succ]
          first
            | (refine seq_skip (by simp only [List.getElem?_toArray, List.getElem?_cons_succ, List.getElem?_cons_zero]; rfl) (by rfl) ?_)
            | (refine seq_calc (by simp only [List.getElem?_toArray, List.getElem?_cons_succ, List.getElem?_cons_zero]; rfl) (by rfl) (fun u => by go_simp <;> with_reducible rfl) ?_)
          try simp only [Act.put, List.setIfInBounds_toArray, List.set_cons_zero, List.set_cons_succ]
          first
            | (refine seq_skip (by simp only [List.getElem?_toArray, List.getElem?_cons_succ, List.getElem?_cons_zero]; rfl) (by rfl) ?_)
            | (refine seq_calc (by simp only [List.getElem?_toArray, List.getElem?_cons_succ, List.getElem?_cons_zero]; rfl) (by rfl) (fun u => by go_simp <;> with_reducible rfl) ?_)
          try simp only [Act.put, List.setIfInBounds_toArray, List.set_cons_zero, List.set_cons_succ]
          first
            | (refine seq_skip (by simp only [List.getElem?_toArray, List.getElem?_cons_succ, List.getElem?_cons_zero]; rfl) (by rfl) ?_)
            | (refine seq_calc (by simp only [List.getElem?_toArray, List.getElem?_cons_succ, List.getElem?_cons_zero]; rfl) (by rfl) (fun u => by go_simp <;> with_reducible rfl) ?_)
          try simp only [Act.put, List.setIfInBounds_toArray, List.set_cons_zero, List.set_cons_succ]
          first
            | (refine seq_skip (by simp only [List.getElem?_toArray, List.getElem?_cons_succ, List.getElem?_cons_zero]; rfl) (by rfl) ?_)
            | (refine seq_load1 (by simp only [List.getElem?_toArray, List.getElem?_cons_succ, List.getElem?_cons_zero]; rfl) (by rfl) rfl rfl Tryd.underlying41 rfl (by go_simp <;> with_reducible rfl) (by first | exact id | assumption | (simp; done) | (simp; omega)) ?_)
          try simp only [Act.put, List.setIfInBounds_toArray, List.set_cons_zero, List.set_cons_succ]
          first
            | (refine seq_skip (by simp only [List.getElem?_toArray, List.getElem?_cons_succ, List.getElem?_cons_zero]; rfl) (by rfl) ?_)
            | (refine seq_calc (by simp only [List.getElem?_toArray, List.getElem?_cons_succ, List.getElem?_cons_zero]; rfl) (by rfl) (fun u => by go_simp <;> with_reducible rfl) ?_)
          try simp only [Act.put, List.setIfInBounds_toArray, List.set_cons_zero, List.set_cons_succ]
          first
            | (refine seq_skip (by simp only [List.getElem?_toArray, List.getElem?_cons_succ, List.getElem?_cons_zero]; rfl) (by rfl) ?_)
            | (refine seq_calc (by simp only [List.getElem?_toArray, List.getElem?_cons_succ, List.getElem?_cons_zero]; rfl) (by rfl) (fun u => by go_simp <;> with_reducible rfl) ?_)
          try simp only [Act.put, List.setIfInBounds_toArray, List.set_cons_zero, List.set_cons_succ]
          refine seq_calc (by simp only [List.getElem?_toArray, List.getElem?_cons_succ, List.getElem?_cons_zero]; rfl) (by rfl) (fun u => by go_simp <;> with_reducible rfl) ?_
          try simp only [Act.put, List.setIfInBounds_toArray, List.set_cons_zero, List.set_cons_succ]
          refine seq_calc (by simp only [List.getElem?_toArray, List.getElem?_cons_succ, List.getElem?_cons_zero]; rfl) (by rfl) (fun u => by go_simp <;> with_reducible rfl) ?_
          try simp only [Act.put, List.setIfInBounds_toArray, List.set_cons_zero, List.set_cons_succ]
          refine seq_nil ?_
          go_wp2
          go_meet
          exact ⟨rfl, rfl⟩
        obtain ⟨i, rfl⟩ : ∃ i : Nat, A = (i : Int) := ⟨A.toNat, by omega⟩
        by_cases hA1 : i < es.length
        · have e3 : decide ((i : Int) < (es.length : Int)) = true := by simp; omega
          have : th = true := hth.out.2 ⟨by omega, by omega⟩
          subst this
          refine wp_region_seq (fun _ => False) #[⟨0, 0, 36893488147419103232, 4096, 0⟩, ⟨1, 1, 73786976294838206464, 36893488147419103232, 1⟩, ⟨2, 3, 147573952589676412928, 73786976294838206464, 0⟩, ⟨4, 7, 295147905179352825856, 147573952589676412928, 0⟩, ⟨8, 15, 590295810358705651712, 295147905179352829952, 0⟩, ⟨24, 31, 1180591620717411303424, 885443715538058477568, 1⟩, ⟨8, 15, 2361183241434822606848, 295147905179352826368, 0⟩, ⟨72, 79, 4722366482869645213696, 2656331146614175432704, 0⟩, ⟨136, 207, 9444732965739290427392, 5017514388048998039552, 0⟩, ⟨264, 463, 18889465931478580854784, 9739880870918643253248, 1⟩, ⟨520, 975, 37778931862957161709568, 19184613836657933680640, 0⟩, ⟨1064, 2047, 75557863725914323419136, 39254671388853925838848, 0⟩, ⟨2056, 4095, 151115727451828646838272, 75853011631093676244992, 0⟩, ⟨8191, 8191, 8192, 151115727451828646838272, 0⟩] 546 [(0, 0), (1, 1), (2, 0), (3, 0), (4, 0), (5, 1), (6, 0), (7, 0), (8, 0), (9, 1), (10, 0), (11, 0), (12, 0), (13, 0)] (by kernel_rfl) (by kernel_rfl) (by kernel_rfl) (by kernel_rfl) (by kernel_rfl) (by kernel_rfl) (fun c a d v w h => by cases d <;> exact h) ?_
          refine seq_calc (by simp only [List.getElem?_toArray, List.getElem?_cons_succ, List.getElem?_cons_zero]; rfl) (by rfl) (fun u => by go_simp <;> with_reducible rfl) ?_
          try simp only [Act.put, List.setIfInBounds_toArray, List.set_cons_zero, List.set_cons_succ]
          refine seq_load1 (by simp only [List.getElem?_toArray, List.getElem?_cons_succ, List.getElem?_cons_zero]; rfl) (by rfl) rfl rfl Tryd.underlying3 rfl (by go_simp <;> with_reducible rfl) (by first | exact id | assumption | (simp; done) | (simp; omega)) ?_
          try simp only [Act.put, List.setIfInBounds_toArray, List.set_cons_zero, List.set_cons_succ]
          refine seq_calc (by simp only [List.getElem?_toArray, List.getElem?_cons_succ, List.getElem?_cons_zero]; rfl) (by rfl) (fun u => by go_simp <;> with_reducible rfl) ?_
          try simp only [Act.put, List.setIfInBounds_toArray, List.set_cons_zero, List.set_cons_succ]
          refine seq_calc (by simp only [List.getElem?_toArray, List.getElem?_cons_succ, List.getElem?_cons_zero]; rfl) (by rfl) (fun u => by go_simp <;> with_reducible rfl) ?_
          try simp only [Act.put, List.setIfInBounds_toArray, List.set_cons_zero, List.set_cons_succ]
          first
            | (refine seq_skip (by simp only [List.getElem?_toArray, List.getElem?_cons_succ, List.getElem?_cons_zero]; rfl) (by rfl) ?_)
            | (refine seq_calc (by simp only [List.getElem?_toArray, List.getElem?_cons_succ, List.getElem?_cons_zero]; rfl) (by rfl) (fun u => by go_simp <;> with_reducible rfl) ?_)
          try simp only [Act.put, List.setIfInBounds_toArray, List.set_cons_zero, List.set_cons_succ]
          first
            | (refine seq_skip (by simp only [List.getElem?_toArray, List.getElem?_cons_succ, List.getElem?_cons_zero]; rfl) (by rfl) ?_)
            | (refine seq_load1 (by simp only [List.getElem?_toArray, List.getElem?_cons_succ, List.getElem?_cons_zero]; rfl) (by rfl) rfl rfl Tryd.underlying3 rfl (by go_simp <;> with_reducible rfl) (by first | exact id | assumption | (simp; done) | (simp; omega)) ?_)
          try simp only [Act.put, List.setIfInBounds_toArray, List.set_cons_zero, List.set_cons_succ]
          first
            | (refine seq_skip (by simp only [List.getElem?_toArray, List.getElem?_cons_succ, List.getElem?_cons_zero]; rfl) (by rfl) ?_)
            | (refine seq_calc (by simp only [List.getElem?_toArray, List.getElem?_cons_succ, List.getElem?_cons_zero]; rfl) (by rfl) (fun u => by go_simp <;> with_reducible rfl) ?_)
          try simp only [Act.put, List.setIfInBounds_toArray, List.set_cons_zero, List.set_cons_succ]
          first
            | (refine seq_skip (by simp only [List.getElem?_toArray, List.getElem?_cons_succ, List.getElem?_cons_zero]; rfl) (by rfl) ?_)
            | (refine seq_calc (by simp only [List.getElem?_toArray, List.getElem?_cons_succ, List.getElem?_cons_zero]; rfl) (by rfl) (fun u => by go_simp <;> with_reducible rfl) ?_)
          try simp only [Act.put, List.setIfInBounds_toArray, List.set_cons_zero, List.set_cons_succ]
          first
            | (refine seq_skip (by simp only [List.getElem?_toArray, List.getElem?_cons_succ, List.getElem?_cons_zero]; rfl) (by rfl) ?_)
            | (refine seq_calc (by simp only [List.getElem?_toArray, List.getElem?_cons_succ, List.getElem?_cons_zero]; rfl) (by rfl) (fun u => by go_simp <;> with_reducible rfl) ?_)
          try simp only [Act.put, List.setIfInBounds_toArray, List.set_cons_zero, List.set_cons_succ]
          first
            | (refine seq_skip (by simp only [List.getElem?_toArray, List.getElem?_cons_succ, List.getElem?_cons_zero]; rfl) (by rfl) ?_)
            | (refine seq_load1 (by simp only [List.getElem?_toArray, List.getElem?_cons_succ, List.getElem?_cons_zero]; rfl) (by rfl) rfl rfl Tryd.underlying41 rfl (by go_simp <;> with_reducible rfl) (by first | exact id | assumption | (simp; done) | (simp; omega)) ?_)
          try simp only [Act.put, List.setIfInBounds_toArray, List.set_cons_zero, List.set_cons_succ]
          first
            | (refine seq_skip (by simp only [List.getElem?_toArray, List.getElem?_cons_succ, List.getElem?_cons_zero]; rfl) (by rfl) ?_)
            | (refine seq_calc (by simp only [List.getElem?_toArray, List.getElem?_cons_succ, List.getElem?_cons_zero]; rfl) (by rfl) (fun u => by go_simp <;> with_reducible rfl) ?_)
          try simp only [Act.put, List.setIfInBounds_toArray, List.set_cons_zero, List.set_cons_succ]
          first
            | (refine seq_skip (by simp only [List.getElem?_toArray, List.getElem?_cons_succ, List.getElem?_cons_zero]; rfl) (by rfl) ?_)
            | (refine seq_calc (by simp only [List.getElem?_toArray, List.getElem?_cons_succ, List.getElem?_cons_zero]; rfl) (by rfl) (fun u => by go_simp <;> with_reducible rfl) ?_)
          try simp only [Act.put, List.setIfInBounds_toArray, List.set_cons_zero, List.set_cons_succ]
          refine seq_calc (by simp only [List.getElem?_toArray, List.getElem?_cons_succ, List.getElem?_cons_zero]; rfl) (by rfl) (fun u => by go_simp <;> with_reducible rfl) ?_
          try simp only [Act.put, List.setIfInBounds_toArray, List.set_cons_zero, List.set_cons_succ]
          refine seq_calc (by simp only [List.getElem?_toArray, List.getElem?_cons_succ, List.getElem?_cons_zero]; rfl) (by rfl) (fun u => by go_simp <;> with_reducible rfl) ?_
          try simp only [Act.put, List.setIfInBounds_toArray, List.set_cons_zero, List.set_cons_succ]
          refine seq_nil ?_
          go_wp2
          go_meet
          exact ⟨rfl, rfl⟩
        · have e3 : decide ((i : Int) < (es.length : Int)) = false := by simp; omega
          have : th = false := by have := hth.out; cases th; rfl; have := (this.1 rfl).2; omega
          subst this
          refine wp_region_seq (fun _ => False) #[⟨0, 0, 36893488147419103232, 4096, 0⟩, ⟨1, 1, 73786976294838206464, 36893488147419103232, 1⟩, ⟨2, 3, 147573952589676412928, 73786976294838206464, 0⟩, ⟨4, 7, 295147905179352825856, 147573952589676412928, 0⟩, ⟨8, 15, 590295810358705651712, 295147905179352829952, 0⟩, ⟨24, 31, 1180591620717411303424, 885443715538058477568, 1⟩, ⟨8, 15, 2361183241434822606848, 295147905179352826368, 0⟩, ⟨72, 79, 4722366482869645213696, 2656331146614175432704, 0⟩, ⟨136, 207, 9444732965739290427392, 5017514388048998039552, 0⟩, ⟨264, 463, 18889465931478580854784, 9739880870918643253248, 1⟩, ⟨520, 975, 37778931862957161709568, 19184613836657933680640, 0⟩, ⟨1064, 2047, 75557863725914323419136, 39254671388853925838848, 0⟩, ⟨2056, 4095, 151115727451828646838272, 75853011631093676244992, 0⟩, ⟨8191, 8191, 8192, 151115727451828646838272, 0⟩] 546 [(0, 0), (1, 1), (2, 0), (3, 0), (4, 0), (5, 1), (6, 0), (7, 0), (8, 0), (9, 1), (10, 0), (11, 0), (12, 0), (13, 0)] (by kernel_rfl) (by kernel_rfl) (by kernel_rfl) (by kernel_rfl) (by kernel_rfl) (by kernel_rfl) (fun c a d v w h => by cases d <;> exact h) ?_
          refine seq_calc (by simp only [List.getElem?_toArray, List.getElem?_cons_succ, List.getElem?_cons_zero]; rfl) (by rfl) (fun u => by go_simp <;> with_reducible rfl) ?_
          try simp only [Act.put, List.setIfInBounds_toArray, List.set_cons_zero, List.set_cons_succ]
          refine seq_load1 (by simp only [List.getElem?_toArray, List.getElem?_cons_succ, List.getElem?_cons_zero]; rfl) (by rfl) rfl rfl Tryd.underlying3 rfl (by go_simp <;> with_reducible rfl) (by first | exact id | assumption | (simp; done) | (simp; omega)) ?_
          try simp only [Act.put, List.setIfInBounds_toArray, List.set_cons_zero, List.set_cons_succ]
          refine seq_calc (by simp only [List.getElem?_toArray, List.getElem?_cons_succ, List.getElem?_cons_zero]; rfl) (by rfl) (fun u => by go_simp <;> with_reducible rfl) ?_
          try simp only [Act.put, List.setIfInBounds_toArray, List.set_cons_zero, List.set_cons_succ]
          refine seq_calc (by simp only [List.getElem?_toArray, List.getElem?_cons_succ, List.getElem?_cons_zero]; rfl) (by rfl) (fun u => by go_simp <;> with_reducible rfl) ?_
          try simp only [Act.put, List.setIfInBounds_toArray, List.set_cons_zero, List.set_cons_succ]
          first
            | (refine seq_skip (by simp only [List.getElem?_toArray, List.getElem?_cons_succ, List.getElem?_cons_zero]; rfl) (by rfl) ?_)
            | (refine seq_calc (by simp only [List.getElem?_toArray, List.getElem?_cons_succ, List.getElem?_cons_zero]; rfl) (by rfl) (fun u => by go_simp <;> with_reducible rfl) ?_)
          try simp only [Act.put, List.setIfInBounds_toArray, List.set_cons_zero, List.set_cons_succ]
          first
            | (refine seq_skip (by simp only [List.getElem?_toArray, List.getElem?_cons_succ, List.getElem?_cons_zero]; rfl) (by rfl) ?_)
            | (refine seq_load1 (by simp only [List.getElem?_toArray, List.getElem?_cons_succ, List.getElem?_cons_zero]; rfl) (by rfl) rfl rfl Tryd.underlying3 rfl (by go_simp <;> with_reducible rfl) (by first | exact id | assumption | (simp; done) | (simp; omega)) ?_)
          try simp only [Act.put, List.setIfInBounds_toArray, List.set_cons_zero, List.set_cons_succ]
          first
            | (refine seq_skip (by simp only [List.getElem?_toArray, List.getElem?_cons_succ, List.getElem?_cons_zero]; rfl) (by rfl) ?_)
            | (refine seq_calc (by simp only [List.getElem?_toArray, List.getElem?_cons_succ, List.getElem?_cons_zero]; rfl) (by rfl) (fun u => by go_simp <;> with_reducible rfl) ?_)
          try simp only [Act.put, List.setIfInBounds_toArray, List.set_cons_zero, List.set_cons_succ]
          first
            | (refine seq_skip (by simp only [List.getElem?_toArray, List.getElem?_cons_succ, List.getElem?_cons_zero]; rfl) (by rfl) ?_)
            | (refine seq_calc (by simp only [List.getElem?_toArray, List.getElem?_cons_succ, List.getElem?_cons_zero]; rfl) (by rfl) (fun u => by go_simp <;> with_reducible rfl) ?_)
          try simp only [Act.put, List.setIfInBounds_toArray, List.set_cons_zero, List.set_cons_succ]
          first
            | (refine seq_skip (by simp only [List.getElem?_toArray, List.getElem?_cons_succ, List.getElem?_cons_zero]; rfl) (by rfl) ?_)
            | (refine seq_calc (by simp only [List.getElem?_toArray, List.getElem?_cons_succ, List.getElem?_cons_zero]; rfl) (by rfl) (fun u => by go_simp <;> with_reducible rfl) ?_)
          try simp only [Act.put, List.setIfInBounds_toArray, List.set_cons_zero, List.set_cons_succ]
          first
            | (refine seq_skip (by simp only [List.getElem?_toArray, List.getElem?_cons_succ, List.getElem?_cons_zero]; rfl) (by rfl) ?_)
            | (refine seq_load1 (by simp only [List.getElem?_toArray, List.getElem?_cons_succ, List.getElem?_cons_zero]; rfl) (by rfl) rfl rfl Tryd.underlying41 rfl (by go_simp <;> with_reducible rfl) (by first | exact id | assumption | (simp; done) | (simp; omega)) ?_)
          try simp only [Act.put, List.setIfInBounds_toArray, List.set_cons_zero, List.set_cons_succ]
          first
            | (refine seq_skip (by simp only [List.getElem?_toArray, List.getElem?_cons_succ, List.getElem?_cons_zero]; rfl) (by rfl) ?_)
            | (refine seq_calc (by simp only [List.getElem?_toArray, List.getElem?_cons_succ, List.getElem?_cons_zero]; rfl) (by rfl) (fun u => by go_simp <;> with_reducible rfl) ?_)
          try simp only [Act.put, List.setIfInBounds_toArray, List.set_cons_zero, List.set_cons_succ]
          first
            | (refine seq_skip (by simp only [List.getElem?_toArray, List.getElem?_cons_succ, List.getElem?_cons_zero]; rfl) (by rfl) ?_)
            | (refine seq_calc (by simp only [List.getElem?_toArray, List.getElem?_cons_succ, List.getElem?_cons_zero]; rfl) (by rfl) (fun u => by go_simp <;> with_reducible rfl) ?_)
          try simp only [Act.put, List.setIfInBounds_toArray, List.set_cons_zero, List.set_cons_succ]
          refine seq_calc (by simp only [List.getElem?_toArray, List.getElem?_cons_succ, List.getElem?_cons_zero]; rfl) (by rfl) (fun u => by go_simp <;> with_reducible rfl) ?_
          try simp only [Act.put, List.setIfInBounds_toArray, List.set_cons_zero, List.set_cons_succ]
          refine seq_calc (by simp only [List.getElem?_toArray, List.getElem?_cons_succ, List.getElem?_cons_zero]; rfl) (by rfl) (fun u => by go_simp <;> with_reducible rfl) ?_
          try simp only [Act.put, List.setIfInBounds_toArray, List.set_cons_zero, List.set_cons_succ]
          refine seq_nil ?_
          go_wp2
          go_meet
          exact ⟨rfl, rfl⟩
      case rest =>
        obtain ⟨rfl, rfl⟩ := hcut
        have NQ := Lib.hid (NQ.out.below (Below.refl _ _).drew)
        have NR := Lib.hid (NR.out.below (Below.refl _ _).drew)
        have NB := Lib.hid NB.out.drew
        have NC : Hid (Blk w.drew C 89 #[.int .i64 q, .int .i64 A, .int .i64 D, .int .i64 N]) := Lib.hid NC.out
        have c80 := NC.out.cell 0
        generalize w.drew = w at *
        go_upto_block 2 with (fail)
        go_cut [] (fun wx => ∃ es' : List Int, es'.length = es.length ∧ DW wx B R d es' ∧ RD wx M Z d es' ∧ Below w0.heap.size w0 wx ∧ Blk wx C 89 #[.int .i64 q, .int .i64 A, .int .i64 D, .int .i64 N])
        case first =>
          have c81 := NC.out.cell 1
          have c82 := NC.out.cell 2
          have c83 := NC.out.cell 3
          by_cases q0 : q = 0
          · subst q0
            have SE := Lib.hid (fun (w' : World) h h' => dset_any B R d es A D N E w' h h')
            have RE := Lib.hid (fun (w' : World) h => rdset_any M Z d es A D N w' h)
            have NU := Lib.hid (fun (w' : World) h => num_any E (setErr d A D N) (setErr_le d A D N) w' h)
            have SL := Lib.hid (setE_len d es A D N)
            generalize setErr d A D N = eS at SE RE NU
            generalize setC d A D N = cS at SE RE
            generalize setE d es A D N = es' at SE RE SL
            have e0 : ((cS : Int) != (cS : Int)) = false := by simp
            have e1 : ((eS : Int) != (eS : Int)) = false := by simp
            go_wp2_with (first
              | (go_at_call 59; refine (SE.out _ NQ.out (HE3.out.below NB.out)).mono ?_; rintro e w2 ⟨rfl, hq2, hc2⟩; have c21 := (hc2.cells C 1 NC.out.lt (by omega)).trans c81; have c22 := (hc2.cells C 2 NC.out.lt (by omega)).trans c82; have c23 := (hc2.cells C 3 NC.out.lt (by omega)).trans c83; have NC2 := Lib.hid (NC.out.chg hc2 (by omega)); have NQ2 := Lib.hid hq2; have NR2 := Lib.hid (NR.out.chg hc2 (by omega) (by omega)); have NB2 := Lib.hid (NB.out.trans (hc2.below NB.out.size (fun k hk e => by omega))); clear hq2 hc2)
              | (go_at_call 60; refine (RE.out _ NR2.out).mono ?_; rintro e w3 ⟨rfl, hr3, hc3⟩; have NC3 := Lib.hid (NC2.out.chg hc3 (by omega)); have NQ3 := Lib.hid (NQ2.out.chg hc3 (by omega) (by omega)); have NR3 := Lib.hid hr3; have NB3 := Lib.hid (NB2.out.trans (hc3.below NB2.out.size (fun k hk e => by omega))); clear hr3 hc3)
              | (go_at_call 40; refine (NU.out _ (HE.out.below NB3.out)).mono ?_; rintro e w4 ⟨rfl, hb4⟩))
            go_meet
            exact ⟨es', SL.out, NQ3.out.below hb4, NR3.out.below hb4, NB3.out.trans (hb4.mono NB3.out.size), NC3.out.below hb4 NC3.out.lt⟩
          have n0 : (q == 0) = false := by simpa using q0
          by_cases q1 : q = 1
          · subst q1
            have c91 := NR.out.head.cell 1
            by_cases hp : 0 ≤ A ∧ A < (es.length : Int) ∧ 0 ≤ N
            · obtain ⟨p0, p1, p2⟩ := hp
              obtain ⟨i, rfl⟩ : ∃ i : Nat, A = (i : Int) := ⟨A.toNat, by omega⟩
              have hi : i < es.length := by omega
              have : th = true := hth.out.2 ⟨p0, p1⟩
              subst this
              have PU := Lib.hid (fun (w' : World) h => dput_ok B R d es i N hi p2 w' h)
              have c92 := NR.out.cellD i hi
              have f92 := NR.out.ring.frozen i
              have NRS := Lib.hid (NR.out.set i N)
              have NQS := Lib.hid (show DW (w.setCell ⟨Z, i, none⟩ (.int .i64 N)) B R d es from NQ.out.chg ((Chg.refl (fun b => b = Z) _).set1 i _) (by omega) (by omega))
              have NCS := Lib.hid (NC.out.other (show C ≠ Z by omega) i (.int .i64 N))
              have NBS := Lib.hid (NB.out.setCell (p := ⟨Z, i, none⟩) b4 (.int .i64 N))
              have e1 : decide (N ≥ 0) = true := by simpa using p2
              have hi' : (i : Int) < (es.length : Int) := by omega
              generalize es.getD i 0 = z at c92
              go_upto_region 24 with (fail)
              refine wp_region_seq (fun _ => False) #[⟨0, 0, 2658455991569831745807614120560689152, 512, 0⟩, ⟨1, 1, 5316911983139663491615228241121378304, 2658455991569831745807614120560689152, 0⟩, ⟨2, 3, 10633823966279326983230456482242756608, 5316911983139663491615228241121378304, 0⟩, ⟨4, 7, 21267647932558653966460912964485513216, 10633823966279326983230456482242756608, 1⟩, ⟨0, 0, 42535295865117307932921825928971026432, 4096, 0⟩, ⟨16, 16, 85070591730234615865843651857942052864, 42535295865117307932921825928971026432, 1⟩, ⟨0, 0, 170141183460469231731687303715884105728, 4096, 0⟩, ⟨64, 64, 340282366920938463463374607431768211456, 170141183460469231731687303715884105728, 1⟩, ⟨255, 255, 680564733841876926926749214863536422912, 106338239662793269832304564822427566080, 0⟩, ⟨511, 511, 0, 1020847100762815390390123822295304634368, 3⟩] 168 [(0, 0), (1, 0), (2, 0), (3, 1), (4, 0), (5, 1), (6, 0), (7, 1), (8, 0), (9, 3)] (by kernel_rfl) (by kernel_rfl) (by kernel_rfl) (by kernel_rfl) (by kernel_rfl) (by kernel_rfl) (fun c a d v w h => by cases d <;> exact h) ?_
              refine seq_calc (by simp only [List.getElem?_toArray, List.getElem?_cons_succ, List.getElem?_cons_zero]; rfl) (by rfl) (fun u => by go_simp <;> with_reducible rfl) ?_
              try simp only [Act.put, List.setIfInBounds_toArray, List.set_cons_zero, List.set_cons_succ]
              refine seq_calc (by simp only [List.getElem?_toArray, List.getElem?_cons_succ, List.getElem?_cons_zero]; rfl) (by rfl) (fun u => by go_simp <;> with_reducible rfl) ?_
              try simp only [Act.put, List.setIfInBounds_toArray, List.set_cons_zero, List.set_cons_succ]
              refine seq_calc (by simp only [List.getElem?_toArray, List.getElem?_cons_succ, List.getElem?_cons_zero]; rfl) (by rfl) (fun u => by go_simp <;> with_reducible rfl) ?_
              try simp only [Act.put, List.setIfInBounds_toArray, List.set_cons_zero, List.set_cons_succ]
              refine seq_load1 (by simp only [List.getElem?_toArray, List.getElem?_cons_succ, List.getElem?_cons_zero]; rfl) (by rfl) rfl rfl Tryd.underlying41 rfl (by go_simp <;> with_reducible rfl) (by first | exact id | assumption | (simp; done) | (simp; omega)) ?_
              try simp only [Act.put, List.setIfInBounds_toArray, List.set_cons_zero, List.set_cons_succ]
              refine seq_calc (by simp only [List.getElem?_toArray, List.getElem?_cons_succ, List.getElem?_cons_zero]; rfl) (by rfl) (fun u => by go_simp <;> with_reducible rfl) ?_
              try simp only [Act.put, List.setIfInBounds_toArray, List.set_cons_zero, List.set_cons_succ]
              refine seq_load1 (by simp only [List.getElem?_toArray, List.getElem?_cons_succ, List.getElem?_cons_zero]; rfl) (by rfl) rfl rfl Tryd.underlying3 rfl (by go_simp <;> with_reducible rfl) (by first | exact id | assumption | (simp; done) | (simp; omega)) ?_
              try simp only [Act.put, List.setIfInBounds_toArray, List.set_cons_zero, List.set_cons_succ]
              refine seq_calc (by simp only [List.getElem?_toArray, List.getElem?_cons_succ, List.getElem?_cons_zero]; rfl) (by rfl) (fun u => by go_simp <;> with_reducible rfl) ?_
              try simp only [Act.put, List.setIfInBounds_toArray, List.set_cons_zero, List.set_cons_succ]
              refine seq_load1 (by simp only [List.getElem?_toArray, List.getElem?_cons_succ, List.getElem?_cons_zero]; rfl) (by rfl) rfl rfl Tryd.underlying3 rfl (by go_simp <;> with_reducible rfl) (by first | exact id | assumption | (simp; done) | (simp; omega)) ?_
              try simp only [Act.put, List.setIfInBounds_toArray, List.set_cons_zero, List.set_cons_succ]
              refine seq_calc (by simp only [List.getElem?_toArray, List.getElem?_cons_succ, List.getElem?_cons_zero]; rfl) (by rfl) (fun u => by go_simp <;> with_reducible rfl) ?_
              try simp only [Act.put, List.setIfInBounds_toArray, List.set_cons_zero, List.set_cons_succ]
              refine seq_last (by simp only [List.getElem?_toArray, List.getElem?_cons_succ, List.getElem?_cons_zero]; rfl) (by rfl) (fun K hK => ?_); go_wp2_with (fail); refine hK.out _ _ ?_; clear hK K
              try simp only [Act.put, List.setIfInBounds_toArray, List.set_cons_zero, List.set_cons_succ]
              refine seq_nil ?_
              generalize w.setCell ⟨Z, i, none⟩ (.int .i64 N) = w5 at *
              have c81 := NCS.out.cell 1
              have c83 := NCS.out.cell 3
              go_wp2_with (first
                | (go_at_call 61; refine (PU.out _ (NQS.out.below (Below.refl _ _).drew)).mono ?_; rintro e w' ⟨rfl, rfl⟩)
                | (go_at_call 40; refine (num_nil _).mono ?_; rintro e w' ⟨rfl, rfl⟩))
              go_meet
              exact ⟨es.set i N, by simp, (NQS.out.below (Below.refl _ _).drew).set i N, (NRS.out.below (Below.refl _ _).drew).chg ((Chg.refl (fun b => b = R) _).set1 i _) (by omega) (by omega), NBS.out.drew.setCell (p := ⟨R, i, none⟩) b2 _, Blk.other (show Blk w5.drew C _ _ from NCS.out) (by omega) i _⟩
            · have PU := Lib.hid (fun (w' : World) h h' => dput_bad B R d es A N (by omega) E w' h h')
              have HU := Lib.hid (fun (w' : World) h => num_err w' E h 1 (by decide) (by decide))
              simp only [errAt] at HU PU
              by_cases ht : th = true
              · subst ht
                obtain ⟨p0, p1⟩ := hth.out.1 rfl
                have e1 : decide (N ≥ 0) = false := by simp; omega
                have e2 : decide (0 ≤ N) = false := by simp; omega
                clear hp
                go_wp2_with (first
                  | (go_at_call 61; refine (PU.out _ NQ.out (HE3.out.below NB.out)).mono ?_; rintro e w2 ⟨rfl, hb2⟩; have NB2 := NB.out.trans (hb2.mono NB.out.size))
                  | (go_at_call 40; refine (HU.out _ (HE.out.below NB2)).mono ?_; rintro e w' ⟨rfl, rfl⟩))
                go_meet
                exact ⟨es, rfl, (NQ.out.below hb2).below ((Below.refl _ _).alloc (Nat.le_refl _) _), (NR.out.below hb2).below ((Below.refl _ _).alloc (Nat.le_refl _) _), NB2.alloc NB2.size _, (NC.out.below hb2 NC.out.lt).alloc _⟩
              · obtain rfl : th = false := by simpa using ht
                clear hp ht
                go_wp2_with (first
                  | (go_at_call 61; refine (PU.out _ NQ.out (HE3.out.below NB.out)).mono ?_; rintro e w2 ⟨rfl, hb2⟩; have NB2 := NB.out.trans (hb2.mono NB.out.size))
                  | (go_at_call 40; refine (HU.out _ (HE.out.below NB2)).mono ?_; rintro e w' ⟨rfl, rfl⟩))
                go_meet
                exact ⟨es, rfl, (NQ.out.below hb2).below ((Below.refl _ _).alloc (Nat.le_refl _) _), (NR.out.below hb2).below ((Below.refl _ _).alloc (Nat.le_refl _) _), NB2.alloc NB2.size _, (NC.out.below hb2 NC.out.lt).alloc _⟩
          · have n1 : (q == 1) = false := by simpa using q1
            go_wp2
            go_meet
            exact ⟨es, rfl, NQ.out, NR.out, NB.out, NC.out⟩
        case rest =>
          obtain ⟨es', hl', hq', hr', hb', hc'⟩ := hcut
          replace NQ := Lib.hid hq'
          replace NR := Lib.hid hr'
          replace NB := Lib.hid hb'
          replace NC := Lib.hid hc'
          have c81 := NC.out.cell 1
          have c82 := NC.out.cell 2
          have c91 := NR.out.head.cell 1
          replace hl' := Lib.hid hl'
          clear hq' hr' hb' hc'
          by_cases ht : th = true
          · subst ht
            obtain ⟨p0, p1⟩ := hth.out.1 rfl
            obtain ⟨i, rfl⟩ : ∃ i : Nat, A = (i : Int) := ⟨A.toNat, by omega⟩
            have hi : i < es'.length := by rw [hl'.out]; omega
            have hi' : (i : Int) < (es'.length : Int) := by omega
            have EN := Lib.hid (fun (w' : World) h => dentry_ok B R d es' i hi w' h)
            have c92 := NR.out.cellD i hi
            have hp32 := NR.out.pos.2
            generalize es'.getD i 0 = z at EN c92
            have z0 : (z != z) = false := by simp
            go_upto_region 31 with (go_at_call 62; refine (EN.out _ NQ.out).mono ?_; rintro e w' ⟨rfl, rfl⟩)
            refine wp_region_seq (fun _ => False) #[⟨0, 0, 178405961588244985132285746181186892047843328, 512, 0⟩, ⟨1, 1, 356811923176489970264571492362373784095686656, 178405961588244985132285746181186892047843328, 0⟩, ⟨2, 3, 713623846352979940529142984724747568191373312, 356811923176489970264571492362373784095686656, 0⟩, ⟨4, 7, 1427247692705959881058285969449495136382746624, 713623846352979940529142984724747568191373312, 1⟩, ⟨0, 0, 2854495385411919762116571938898990272765493248, 4096, 0⟩, ⟨16, 16, 5708990770823839524233143877797980545530986496, 2854495385411919762116571938898990272765493248, 1⟩, ⟨40, 63, 11417981541647679048466287755595961091061972992, 7136238463529799405291429847247475681913733120, 0⟩, ⟨64, 127, 22835963083295358096932575511191922182123945984, 11417981541647679048466287755595961091061972992, 1⟩, ⟨255, 255, 2097152, 22835963083295358096932575511191922182123945984, 0⟩, ⟨511, 511, 4194304, 0, 0⟩] 168 [(0, 0), (1, 0), (2, 0), (3, 1), (4, 0), (5, 1), (6, 0), (7, 1), (8, 0), (9, 0)] (by kernel_rfl) (by kernel_rfl) (by kernel_rfl) (by kernel_rfl) (by kernel_rfl) (by kernel_rfl) (fun c a d v w h => by cases d <;> exact h) ?_
            refine seq_calc (by simp only [List.getElem?_toArray, List.getElem?_cons_succ, List.getElem?_cons_zero]; rfl) (by rfl) (fun u => by go_simp <;> with_reducible rfl) ?_
            try simp only [Act.put, List.setIfInBounds_toArray, List.set_cons_zero, List.set_cons_succ]
            refine seq_calc (by simp only [List.getElem?_toArray, List.getElem?_cons_succ, List.getElem?_cons_zero]; rfl) (by rfl) (fun u => by go_simp <;> with_reducible rfl) ?_
            try simp only [Act.put, List.setIfInBounds_toArray, List.set_cons_zero, List.set_cons_succ]
            refine seq_calc (by simp only [List.getElem?_toArray, List.getElem?_cons_succ, List.getElem?_cons_zero]; rfl) (by rfl) (fun u => by go_simp <;> with_reducible rfl) ?_
            try simp only [Act.put, List.setIfInBounds_toArray, List.set_cons_zero, List.set_cons_succ]
            refine seq_load1 (by simp only [List.getElem?_toArray, List.getElem?_cons_succ, List.getElem?_cons_zero]; rfl) (by rfl) rfl rfl Tryd.underlying41 rfl (by go_simp <;> with_reducible rfl) (by first | exact id | assumption | (simp; done) | (simp; omega)) ?_
            try simp only [Act.put, List.setIfInBounds_toArray, List.set_cons_zero, List.set_cons_succ]
            refine seq_calc (by simp only [List.getElem?_toArray, List.getElem?_cons_succ, List.getElem?_cons_zero]; rfl) (by rfl) (fun u => by go_simp <;> with_reducible rfl) ?_
            try simp only [Act.put, List.setIfInBounds_toArray, List.set_cons_zero, List.set_cons_succ]
            refine seq_load1 (by simp only [List.getElem?_toArray, List.getElem?_cons_succ, List.getElem?_cons_zero]; rfl) (by rfl) rfl rfl Tryd.underlying3 rfl (by go_simp <;> with_reducible rfl) (by first | exact id | assumption | (simp; done) | (simp; omega)) ?_
            try simp only [Act.put, List.setIfInBounds_toArray, List.set_cons_zero, List.set_cons_succ]
            refine seq_calc (by simp only [List.getElem?_toArray, List.getElem?_cons_succ, List.getElem?_cons_zero]; rfl) (by rfl) (fun u => by go_simp <;> with_reducible rfl) ?_
            try simp only [Act.put, List.setIfInBounds_toArray, List.set_cons_zero, List.set_cons_succ]
            refine seq_load1 (by simp only [List.getElem?_toArray, List.getElem?_cons_succ, List.getElem?_cons_zero]; rfl) (by rfl) rfl rfl Tryd.underlying3 rfl (by go_simp <;> with_reducible rfl) (by first | exact id | assumption | (simp; done) | (simp; omega)) ?_
            try simp only [Act.put, List.setIfInBounds_toArray, List.set_cons_zero, List.set_cons_succ]
            refine seq_calc (by simp only [List.getElem?_toArray, List.getElem?_cons_succ, List.getElem?_cons_zero]; rfl) (by rfl) (fun u => by go_simp <;> with_reducible rfl) ?_
            try simp only [Act.put, List.setIfInBounds_toArray, List.set_cons_zero, List.set_cons_succ]
            refine seq_calc (by simp only [List.getElem?_toArray, List.getElem?_cons_succ, List.getElem?_cons_zero]; rfl) (by rfl) (fun u => by go_simp <;> with_reducible rfl) ?_
            try simp only [Act.put, List.setIfInBounds_toArray, List.set_cons_zero, List.set_cons_succ]
            refine seq_nil ?_
            go_upto_region 32 with (fail)
            refine wp_at (fun w5 hW5 => ?_)
            have hb5 : Below wc.heap.size wc w5 := by rw [hW5]; first | exact (Below.refl _ _).drew | exact Below.refl _ _
            have NQ5 := Lib.hid (NQ.out.below hb5)
            have NR5 := Lib.hid (NR.out.below hb5)
            have NB5 := Lib.hid (NB.out.trans (hb5.mono NB.out.size))
            have NC5 := Lib.hid (NC.out.below hb5 NC.out.lt)
            replace hW5 := Lib.hid hW5
            clear c81 c82 c91 NQ NR NB NC hb5
            have c51 := NC5.out.cell 1
            have c52 := NC5.out.cell 2
            have SP := Lib.hid (fun (w' : World) h h' => dspan_any B R d ((i : Int)) D es' E w' h h')
            have RS := Lib.hid (fun (w' : World) h => rdspan_any M Z d ((i : Int)) D es' w' h)
            have NU := Lib.hid (fun (w' : World) h => num_any E (spE d ((i : Int)) D) (spE_le d ((i : Int)) D) w' h)
            have AT := Lib.hid (fun (w' : World) H => dat_below B R d h es' hh w' H)
            have RA := Lib.hid (fun (w' : World) H => rdat_any M Z d h es' hh w' H)
            generalize spF d ((i : Int)) D = sF at SP RS
            generalize spT d ((i : Int)) D = sT at SP RS
            generalize spE d ((i : Int)) D = sE at SP RS NU
            generalize atD es' d h = at1 at AT RA
            have s1 : ((sF : Int) != (sF : Int)) = false := by simp
            have s2 : ((sT : Int) != (sT : Int)) = false := by simp
            have s3 : ((sE : Int) != (sE : Int)) = false := by simp
            have s4 : (at1 != at1) = false := by simp
            go_wp2_with (first
              | (go_at_call 63; refine (SP.out _ NQ5.out (HE3.out.below NB5.out)).mono ?_; rintro e w6 ⟨rfl, hb6⟩; have NQ6 := Lib.hid (NQ5.out.below hb6); have NR6 := Lib.hid (NR5.out.below hb6); have NB6 := Lib.hid (NB5.out.trans (hb6.mono NB5.out.size)); have NC6 := Lib.hid (NC5.out.below hb6 NC5.out.lt); have c61 := NC6.out.cell 1; have c62 := NC6.out.cell 2)
              | (go_at_call 64; refine (RS.out _ NR6.out).mono ?_; rintro e w7 ⟨rfl, hb7⟩; have NQ7 := Lib.hid (NQ6.out.below hb7); have NR7 := Lib.hid (NR6.out.below hb7); have NB7 := Lib.hid (NB6.out.trans (hb7.mono NB6.out.size)))
              | (go_at_call 40; (with_reducible refine (NU.out _ (HE.out.below NB8.out)).mono ?_); rintro e w9 ⟨rfl, hb9⟩; have NQ9 := Lib.hid (NQ8.out.below hb9); have NR9 := Lib.hid (NR8.out.below hb9); have NB9 := Lib.hid (NB8.out.trans (hb9.mono NB8.out.size)))
              | (go_at_call 40; refine (num_nil w7).mono ?_; rintro e w8 ⟨rfl, hw8⟩; have hb8 : Below w7.heap.size w7 w8 := (by rw [← hw8]; first | exact Below.refl _ _ | exact (Below.refl _ _).alloc (Nat.le_refl _) _); have NQ8 := Lib.hid (NQ7.out.below hb8); have NR8 := Lib.hid (NR7.out.below hb8); have NB8 := Lib.hid (NB7.out.trans (hb8.mono NB7.out.size)); replace hw8 := Lib.hid hw8)
              | (go_at_call 65; refine (AT.out _ NQ9.out).mono ?_; rintro e w10 ⟨rfl, hb10⟩; have NQ10 := Lib.hid (NQ9.out.below hb10); have NR10 := Lib.hid (NR9.out.below hb10); have NB10 := Lib.hid (NB9.out.trans (hb10.mono NB9.out.size)))
              | (go_at_call 66; refine (RA.out _ NR10.out).mono ?_; rintro e w11 ⟨rfl, hb11⟩; have NQ11 := Lib.hid (NQ10.out.below hb11); have NR11 := Lib.hid (NR10.out.below hb11); have NB11 := Lib.hid (NB10.out.trans (hb11.mono NB10.out.size))))
            go_roundw
            case rel => exact ⟨k + 1, es', by omega, by go_num, NQ11.out, NR11.out, NB11.out⟩
            case measure => simp [intOf]; omega
          · obtain rfl : th = false := by simpa using ht
            have EN := Lib.hid (fun (w' : World) h h' => dentry_bad B R d es' A (by rw [hl'.out]; have := hth.out; simp at this; omega) E w' h h')
            have HU := Lib.hid (fun (w' : World) h => num_err w' E h 1 (by decide) (by decide))
            simp only [errAt] at HU EN
            go_upto_region 32 with (go_at_call 62; refine (EN.out _ NQ.out (HE3.out.below NB.out)).mono ?_; rintro e w' ⟨rfl, rfl⟩)
            go_upto_region 32 with (fail)
            refine wp_at (fun w5 hW5 => ?_)
            have hb5 : Below wc.heap.size wc w5 := by rw [hW5]; first | exact (Below.refl _ _).drew | exact Below.refl _ _
            have NQ5 := Lib.hid (NQ.out.below hb5)
            have NR5 := Lib.hid (NR.out.below hb5)
            have NB5 := Lib.hid (NB.out.trans (hb5.mono NB.out.size))
            have NC5 := Lib.hid (NC.out.below hb5 NC.out.lt)
            replace hW5 := Lib.hid hW5
            clear c81 c82 c91 NQ NR NB NC hb5
            have c51 := NC5.out.cell 1
            have c52 := NC5.out.cell 2
            have SP := Lib.hid (fun (w' : World) h h' => dspan_any B R d (A) D es' E w' h h')
            have RS := Lib.hid (fun (w' : World) h => rdspan_any M Z d (A) D es' w' h)
            have NU := Lib.hid (fun (w' : World) h => num_any E (spE d (A) D) (spE_le d (A) D) w' h)
            have AT := Lib.hid (fun (w' : World) H => dat_below B R d h es' hh w' H)
            have RA := Lib.hid (fun (w' : World) H => rdat_any M Z d h es' hh w' H)
            generalize spF d (A) D = sF at SP RS
            generalize spT d (A) D = sT at SP RS
            generalize spE d (A) D = sE at SP RS NU
            generalize atD es' d h = at1 at AT RA
            have s1 : ((sF : Int) != (sF : Int)) = false := by simp
            have s2 : ((sT : Int) != (sT : Int)) = false := by simp
            have s3 : ((sE : Int) != (sE : Int)) = false := by simp
            have s4 : (at1 != at1) = false := by simp
            go_wp2_with (first
              | (go_at_call 63; refine (SP.out _ NQ5.out (HE3.out.below NB5.out)).mono ?_; rintro e w6 ⟨rfl, hb6⟩; have NQ6 := Lib.hid (NQ5.out.below hb6); have NR6 := Lib.hid (NR5.out.below hb6); have NB6 := Lib.hid (NB5.out.trans (hb6.mono NB5.out.size)); have NC6 := Lib.hid (NC5.out.below hb6 NC5.out.lt); have c61 := NC6.out.cell 1; have c62 := NC6.out.cell 2)
              | (go_at_call 64; refine (RS.out _ NR6.out).mono ?_; rintro e w7 ⟨rfl, hb7⟩; have NQ7 := Lib.hid (NQ6.out.below hb7); have NR7 := Lib.hid (NR6.out.below hb7); have NB7 := Lib.hid (NB6.out.trans (hb7.mono NB6.out.size)))
              | (go_at_call 40; (with_reducible refine (NU.out _ (HE.out.below NB8.out)).mono ?_); rintro e w9 ⟨rfl, hb9⟩; have NQ9 := Lib.hid (NQ8.out.below hb9); have NR9 := Lib.hid (NR8.out.below hb9); have NB9 := Lib.hid (NB8.out.trans (hb9.mono NB8.out.size)))
              | (go_at_call 40; refine (HU.out w7 (HE.out.below NB7.out)).mono ?_; rintro e w8 ⟨rfl, hw8⟩; have hb8 : Below w7.heap.size w7 w8 := (by rw [← hw8]; first | exact Below.refl _ _ | exact (Below.refl _ _).alloc (Nat.le_refl _) _); have NQ8 := Lib.hid (NQ7.out.below hb8); have NR8 := Lib.hid (NR7.out.below hb8); have NB8 := Lib.hid (NB7.out.trans (hb8.mono NB7.out.size)); replace hw8 := Lib.hid hw8)
              | (go_at_call 65; refine (AT.out _ NQ9.out).mono ?_; rintro e w10 ⟨rfl, hb10⟩; have NQ10 := Lib.hid (NQ9.out.below hb10); have NR10 := Lib.hid (NR9.out.below hb10); have NB10 := Lib.hid (NB9.out.trans (hb10.mono NB9.out.size)))
              | (go_at_call 66; refine (RA.out _ NR10.out).mono ?_; rintro e w11 ⟨rfl, hb11⟩; have NQ11 := Lib.hid (NQ10.out.below hb11); have NR11 := Lib.hid (NR10.out.below hb11); have NB11 := Lib.hid (NB10.out.trans (hb11.mono NB10.out.size))))
            go_roundw
            case rel => exact ⟨k + 1, es', by omega, by go_num, NQ11.out, NR11.out, NB11.out⟩
            case measure => simp [intOf]; omega
    · obtain rfl : k = n0 := by omega
      have LI := Lib.hid (fun (w' : World) h => dlist_any B R d es w' h)
      go_wp2_with (go_at_call 67; refine (LI.out _ HQ.out).mono ?_; rintro e w4 ⟨a4, c4, rfl, hr, hb⟩; obtain ⟨g, cur, rfl, hg0, hg1, hg2⟩ := gives_blk hr (by omega); have HG := Lib.hid hg1; have hQ4 := Lib.hid (HQ.out.below hb); have hR4 := Lib.hid (HR.out.below hb); have hB4 := Lib.hid (hB.trans (hb.mono hB.size)); clear hr hb hg1)
      have hgB : B < g ∧ R < g ∧ M < g ∧ Z < g ∧ w0.heap.size ≤ g := by have := hB.size; have h1 := HQ.out.head.lt; have h2 := HQ.out.ring.lt; have h3 := HR.out.head.lt; have h4 := HR.out.ring.lt; omega
      obtain ⟨hgB, hgR, hgM, hgZ, hg00⟩ := hgB
      obtain ⟨n, hn⟩ : ∃ n, n = es.length := ⟨_, rfl⟩
      have hl1 := hlen.1
      have hl2 := hlen.2
      rw [← hn] at hg2 hl1 hl2 ⊢
      replace hn := Lib.hid hn
      clear HQ HR hB hlen
      go_loopw [30, 214] (fun _ v214 wr => ∃ (i : Nat) (cur : Array Value), i ≤ n ∧ v214 = .int .i64 (i : Int) ∧ n ≤ cur.size ∧ Blk wr g 3 cur ∧ DW wr B R d es ∧ RD wr M Z d es ∧ Below w0.heap.size w0 wr) (fun _ v214 _ => n - (intOf v214).toNat)
      case atStart => exact ⟨0, cur, Nat.zero_le _, rfl, hg2, HG.out, hQ4.out, hR4.out, hB4.out⟩
      case round =>
        clear HG hQ4 hR4 hB4 hg2
        obtain ⟨i, cur', hi, rfl, hsz, hG, hQ, hR, hB⟩ := hrel
        by_cases hlt : i < n
        · have hlt' : (i : Int) < (n : Int) := by omega
          have c1 := hG.cell i
          have f1 := hG.frozen i
          rw [Array.getElem?_eq_getElem (by omega)] at c1
          generalize cur'[i] = z at c1
          have HG := Lib.hid (hG.set i (.int .i64 (-5)))
          have HQ := Lib.hid (hQ.chg ((Chg.refl (fun b => b = g) _).set1 i (.int .i64 (-5))) (by omega) (by omega))
          have HR := Lib.hid (hR.chg ((Chg.refl (fun b => b = g) _).set1 i (.int .i64 (-5))) (by omega) (by omega))
          have HB := Lib.hid (hB.setCell (p := ⟨g, i, none⟩) hg00 (.int .i64 (-5)))
          have hsz' := Lib.hid (show n ≤ (cur'.setIfInBounds i (.int .i64 (-5))).size by rw [Array.size_setIfInBounds]; exact hsz)
          clear hG hQ hR hB hsz
          go_wp2
          go_roundw
          case rel => exact ⟨i + 1, _, by omega, by go_num, hsz'.out, HG.out, HQ.out, HR.out, HB.out⟩
          case measure => simp [intOf]; omega
        · obtain rfl : i = n := by omega
          have HQ := Lib.hid hQ
          have HR := Lib.hid hR
          have HB := Lib.hid hB
          have c91 := hR.head.cell 1
          rw [← hn.out] at c91
          have DE := Lib.hid (fun (w' : World) h => ddepth_any B R d es w' h)
          have LE := Lib.hid (fun (w' : World) h => dlen_any B R d es w' h)
          rw [← hn.out] at LE
          have e1 : ((d : Int) == (d : Int)) = true := by simp
          have e2 : ((i : Int) == (i : Int)) = true := by simp
          have CR := Lib.hid (fun (w' : World) (h : RD w' M Z d es) => h.reads)
          rw [← hn.out] at CR
          clear hG hQ hR hB
          go_wp2
          refine wp_region_seq (fun _ => False) #[⟨0, 0, 3369993333393829974333376885877453834204643052817571560137951281152, 128, 0⟩, ⟨1, 1, 6739986666787659948666753771754907668409286105635143120275902562304, 3369993333393829974333376885877453834204643052817571560137951281152, 2⟩, ⟨0, 0, 13479973333575319897333507543509815336818572211270286240551805124608, 1, 0⟩, ⟨6, 7, 26959946667150639794667015087019630673637144422540572481103610249216, 20219960000362979846000261315264723005227858316905429360827707686912, 0⟩, ⟨10, 15, 53919893334301279589334030174039261347274288845081144962207220498432, 26959946667150639794667015087019630673637144422540572481103610249216, 0⟩, ⟨16, 31, 107839786668602559178668060348078522694548577690162289924414440996864, 53919893334301279589334030174039261347274288845081144962207220498560, 0⟩, ⟨48, 63, 215679573337205118357336120696157045389097155380324579848828881993728, 161759680002903838768002090522117784041822866535243434886621661495296, 2⟩, ⟨16, 31, 431359146674410236714672241392314090778194310760649159697657763987456, 53919893334301279589334030174039261347274288845081144962207220498944, 0⟩, ⟨144, 159, 862718293348820473429344482784628181556388621521298319395315527974912, 485279040008711516304006271566353352125468599605730304659864984485888, 0⟩, ⟨272, 415, 1725436586697640946858688965569256363112777243042596638790631055949824, 916638186683121753018678512958667442903662910366379464357522748473344, 0⟩, ⟨528, 927, 3450873173395281893717377931138512726225554486085193277581262111899648, 1779356480031942226448022995743295624460051531887677783752838276448256, 1⟩, ⟨1040, 1951, 6901746346790563787434755862277025452451108972170386555162524223799296, 3504793066729583173306711961312551987572828774930274422543469332398080, 0⟩, ⟨2128, 4095, 13803492693581127574869511724554050904902217944340773110325048447598592, 7171345813462070185381426013147221759187480416395792279973560326291456, 0⟩, ⟨4112, 8191, 27606985387162255149739023449108101809804435888681546220650096895197184, 13857412586915428854458845754728090166249492233185854255287255668097024, 0⟩, ⟨8256, 16383, 55213970774324510299478046898216203619608871777363092441300193790394368, 27606985387162255149739023449108101809804435888681546220650096895197184, 0⟩, ⟨16384, 32767, 110427941548649020598956093796432407239217743554726184882600387580788736, 55213970774324510299478046898216203619608871777363092441300193790394496, 0⟩, ⟨49152, 65535, 220855883097298041197912187592864814478435487109452369765200775161577472, 165641912322973530898434140694648610858826615332089277323900581371183104, 2⟩, ⟨16384, 32767, 441711766194596082395824375185729628956870974218904739530401550323154944, 55213970774324510299478046898216203619608871777363092441300193790394880, 0⟩, ⟨147456, 163839, 883423532389192164791648750371459257913741948437809479060803100646309888, 496925736968920592695302422083945832576479845996267831971701744113549312, 0⟩, ⟨278528, 425983, 1766847064778384329583297500742918515827483896875618958121606201292619776, 938637503163516675091126797269675461533350820215172571502103294436704256, 0⟩, ⟨540672, 950271, 3533694129556768659166595001485837031654967793751237916243212402585239552, 1822061035552708839882775547641134719447092768652982050562906395083014144, 1⟩, ⟨1130496, 2097151, 7067388259113537318333190002971674063309935587502475832486424805170479104, 3809763983428391210663985235976918049753012152638053378449713371537211392, 3⟩, ⟨2113536, 4194303, 14134776518227074636666380005943348126619871175004951664972849610340958208, 7122602229887861828632668049869890266929544459279838924927724998960873472, 0⟩, ⟨8388607, 8388607, 64, 14134776518227074636666380005943348126619871175004951664972849610340958208, 0⟩] 1049600 [(0, 0), (2, 0), (1, 2), (3, 0), (4, 0), (5, 0), (7, 0), (8, 0), (9, 0), (10, 1), (11, 0), (6, 2), (12, 0), (13, 0), (14, 0), (15, 0), (17, 0), (18, 0), (19, 0), (20, 1), (16, 2), (21, 3), (22, 0), (23, 0)] (by kernel_rfl) (by kernel_rfl) (by kernel_rfl) (by kernel_rfl) (by kernel_rfl) (by kernel_rfl) (fun c a d v w h => by cases d <;> exact h) ?_
          refine seq_calc (by simp only [List.getElem?_toArray, List.getElem?_cons_succ, List.getElem?_cons_zero]; rfl) (by rfl) (fun u => by go_simp <;> with_reducible rfl) ?_
          try simp only [Act.put, List.setIfInBounds_toArray, List.set_cons_zero, List.set_cons_succ]
          refine seq_calc (by simp only [List.getElem?_toArray, List.getElem?_cons_succ, List.getElem?_cons_zero]; rfl) (by rfl) (fun u => by go_simp <;> with_reducible rfl) ?_
          try simp only [Act.put, List.setIfInBounds_toArray, List.set_cons_zero, List.set_cons_succ]
          refine seq_do (by simp only [List.getElem?_toArray, List.getElem?_cons_succ, List.getElem?_cons_zero]; rfl) (by rfl) (fun K hK => ?_); go_wp2_with (first | (go_at_call 68; refine (DE.out _ (HQ.out.below (by first | exact Below.refl _ _ | exact (Below.refl _ _).drew))).mono ?_; rintro e w' ⟨rfl, rfl⟩) | (go_at_call 69; refine (LE.out _ (HQ.out.below (by first | exact Below.refl _ _ | exact (Below.refl _ _).drew))).mono ?_; rintro e w' ⟨rfl, rfl⟩) | (go_at_call 67; refine (LI.out _ (HQ.out.below (by first | exact Below.refl _ _ | exact (Below.refl _ _).drew))).mono ?_; rintro e w4 ⟨a4, c4, rfl, hr, hb⟩; have HR4 := Lib.hid ((HR.out.below (by first | exact Below.refl _ _ | exact (Below.refl _ _).drew)).below hb); have HB4 := Lib.hid ((HB.out.drew).trans (hb.mono HB.out.size)); have c94 := HR4.out.head.cell 1; rw [← hn.out] at c94; have HS := Lib.hid (readsInts_own hr)) | (go_at_call 55; refine (sameInts_any _ _ es es _ HS.out (CR.out _ HR4.out) (by have := hn.out; omega)).mono ?_; simp only [decide_true]; rintro e w' ⟨rfl, rfl⟩)); refine hK.out _ _ (by first | (with_reducible exact Chg.refl _ _) | (with_reducible assumption) | (refine Chg.of_below ?_; with_reducible assumption) | (with_reducible exact (Chg.refl _ _).alloc _) | (with_reducible exact (Chg.refl _ _).drewN _) | (with_reducible exact (Chg.refl _ _).drew) | exact ⟨rfl, rfl, rfl, Nat.le_refl _, fun _ _ _ => rfl⟩) ?_; clear hK K
          try simp only [Act.put, List.setIfInBounds_toArray, List.set_cons_zero, List.set_cons_succ]
          refine seq_calc (by simp only [List.getElem?_toArray, List.getElem?_cons_succ, List.getElem?_cons_zero]; rfl) (by rfl) (fun u => by go_simp <;> with_reducible rfl) ?_
          try simp only [Act.put, List.setIfInBounds_toArray, List.set_cons_zero, List.set_cons_succ]
          refine seq_calc (by simp only [List.getElem?_toArray, List.getElem?_cons_succ, List.getElem?_cons_zero]; rfl) (by rfl) (fun u => by go_simp <;> with_reducible rfl) ?_
          try simp only [Act.put, List.setIfInBounds_toArray, List.set_cons_zero, List.set_cons_succ]
          first
            | (refine seq_skip (by simp only [List.getElem?_toArray, List.getElem?_cons_succ, List.getElem?_cons_zero]; rfl) (by rfl) ?_)
            | (refine seq_calc (by simp only [List.getElem?_toArray, List.getElem?_cons_succ, List.getElem?_cons_zero]; rfl) (by rfl) (fun u => by go_simp <;> with_reducible rfl) ?_)
          try simp only [Act.put, List.setIfInBounds_toArray, List.set_cons_zero, List.set_cons_succ]
          first
            | (refine seq_skip (by simp only [List.getElem?_toArray, List.getElem?_cons_succ, List.getElem?_cons_zero]; rfl) (by rfl) ?_)
            | (refine seq_calc (by simp only [List.getElem?_toArray, List.getElem?_cons_succ, List.getElem?_cons_zero]; rfl) (by rfl) (fun u => by go_simp <;> with_reducible rfl) ?_)
          try simp only [Act.put, List.setIfInBounds_toArray, List.set_cons_zero, List.set_cons_succ]
          first
            | (refine seq_skip (by simp only [List.getElem?_toArray, List.getElem?_cons_succ, List.getElem?_cons_zero]; rfl) (by rfl) ?_)
            | (refine seq_calc (by simp only [List.getElem?_toArray, List.getElem?_cons_succ, List.getElem?_cons_zero]; rfl) (by rfl) (fun u => by go_simp <;> with_reducible rfl) ?_)
          try simp only [Act.put, List.setIfInBounds_toArray, List.set_cons_zero, List.set_cons_succ]
          first
            | (refine seq_skip (by simp only [List.getElem?_toArray, List.getElem?_cons_succ, List.getElem?_cons_zero]; rfl) (by rfl) ?_)
            | (refine seq_calc (by simp only [List.getElem?_toArray, List.getElem?_cons_succ, List.getElem?_cons_zero]; rfl) (by rfl) (fun u => by go_simp <;> with_reducible rfl) ?_)
          try simp only [Act.put, List.setIfInBounds_toArray, List.set_cons_zero, List.set_cons_succ]
          first
            | (refine seq_skip (by simp only [List.getElem?_toArray, List.getElem?_cons_succ, List.getElem?_cons_zero]; rfl) (by rfl) ?_)
            | (refine seq_load1 (by simp only [List.getElem?_toArray, List.getElem?_cons_succ, List.getElem?_cons_zero]; rfl) (by rfl) rfl rfl Tryd.underlying41 rfl (by go_simp <;> with_reducible rfl) (by first | exact id | assumption | (simp; done) | (simp; omega)) ?_)
          try simp only [Act.put, List.setIfInBounds_toArray, List.set_cons_zero, List.set_cons_succ]
          first
            | (refine seq_skip (by simp only [List.getElem?_toArray, List.getElem?_cons_succ, List.getElem?_cons_zero]; rfl) (by rfl) ?_)
            | (refine seq_calc (by simp only [List.getElem?_toArray, List.getElem?_cons_succ, List.getElem?_cons_zero]; rfl) (by rfl) (fun u => by go_simp <;> with_reducible rfl) ?_)
          try simp only [Act.put, List.setIfInBounds_toArray, List.set_cons_zero, List.set_cons_succ]
          first
            | (refine seq_skip (by simp only [List.getElem?_toArray, List.getElem?_cons_succ, List.getElem?_cons_zero]; rfl) (by rfl) ?_)
            | (refine seq_do (by simp only [List.getElem?_toArray, List.getElem?_cons_succ, List.getElem?_cons_zero]; rfl) (by rfl) (fun K hK => ?_); go_wp2_with (first | (go_at_call 68; refine (DE.out _ (HQ.out.below (by first | exact Below.refl _ _ | exact (Below.refl _ _).drew))).mono ?_; rintro e w' ⟨rfl, rfl⟩) | (go_at_call 69; refine (LE.out _ (HQ.out.below (by first | exact Below.refl _ _ | exact (Below.refl _ _).drew))).mono ?_; rintro e w' ⟨rfl, rfl⟩) | (go_at_call 67; refine (LI.out _ (HQ.out.below (by first | exact Below.refl _ _ | exact (Below.refl _ _).drew))).mono ?_; rintro e w4 ⟨a4, c4, rfl, hr, hb⟩; have HR4 := Lib.hid ((HR.out.below (by first | exact Below.refl _ _ | exact (Below.refl _ _).drew)).below hb); have HB4 := Lib.hid ((HB.out.drew).trans (hb.mono HB.out.size)); have c94 := HR4.out.head.cell 1; rw [← hn.out] at c94; have HS := Lib.hid (readsInts_own hr)) | (go_at_call 55; refine (sameInts_any _ _ es es _ HS.out (CR.out _ HR4.out) (by have := hn.out; omega)).mono ?_; simp only [decide_true]; rintro e w' ⟨rfl, rfl⟩)); refine hK.out _ _ (by first | (with_reducible exact Chg.refl _ _) | (with_reducible assumption) | (refine Chg.of_below ?_; with_reducible assumption) | (with_reducible exact (Chg.refl _ _).alloc _) | (with_reducible exact (Chg.refl _ _).drewN _) | (with_reducible exact (Chg.refl _ _).drew) | exact ⟨rfl, rfl, rfl, Nat.le_refl _, fun _ _ _ => rfl⟩) ?_; clear hK K)
          try simp only [Act.put, List.setIfInBounds_toArray, List.set_cons_zero, List.set_cons_succ]
          first
            | (refine seq_skip (by simp only [List.getElem?_toArray, List.getElem?_cons_succ, List.getElem?_cons_zero]; rfl) (by rfl) ?_)
            | (refine seq_calc (by simp only [List.getElem?_toArray, List.getElem?_cons_succ, List.getElem?_cons_zero]; rfl) (by rfl) (fun u => by go_simp <;> with_reducible rfl) ?_)
          try simp only [Act.put, List.setIfInBounds_toArray, List.set_cons_zero, List.set_cons_succ]
          refine seq_calc (by simp only [List.getElem?_toArray, List.getElem?_cons_succ, List.getElem?_cons_zero]; rfl) (by rfl) (fun u => by go_simp <;> with_reducible rfl) ?_
          try simp only [Act.put, List.setIfInBounds_toArray, List.set_cons_zero, List.set_cons_succ]
          refine seq_calc (by simp only [List.getElem?_toArray, List.getElem?_cons_succ, List.getElem?_cons_zero]; rfl) (by rfl) (fun u => by go_simp <;> with_reducible rfl) ?_
          try simp only [Act.put, List.setIfInBounds_toArray, List.set_cons_zero, List.set_cons_succ]
          first
            | (refine seq_skip (by simp only [List.getElem?_toArray, List.getElem?_cons_succ, List.getElem?_cons_zero]; rfl) (by rfl) ?_)
            | (refine seq_calc (by simp only [List.getElem?_toArray, List.getElem?_cons_succ, List.getElem?_cons_zero]; rfl) (by rfl) (fun u => by go_simp <;> with_reducible rfl) ?_)
          try simp only [Act.put, List.setIfInBounds_toArray, List.set_cons_zero, List.set_cons_succ]
          first
            | (refine seq_skip (by simp only [List.getElem?_toArray, List.getElem?_cons_succ, List.getElem?_cons_zero]; rfl) (by rfl) ?_)
            | (refine seq_calc (by simp only [List.getElem?_toArray, List.getElem?_cons_succ, List.getElem?_cons_zero]; rfl) (by rfl) (fun u => by go_simp <;> with_reducible rfl) ?_)
          try simp only [Act.put, List.setIfInBounds_toArray, List.set_cons_zero, List.set_cons_succ]
          first
            | (refine seq_skip (by simp only [List.getElem?_toArray, List.getElem?_cons_succ, List.getElem?_cons_zero]; rfl) (by rfl) ?_)
            | (refine seq_calc (by simp only [List.getElem?_toArray, List.getElem?_cons_succ, List.getElem?_cons_zero]; rfl) (by rfl) (fun u => by go_simp <;> with_reducible rfl) ?_)
          try simp only [Act.put, List.setIfInBounds_toArray, List.set_cons_zero, List.set_cons_succ]
          first
            | (refine seq_skip (by simp only [List.getElem?_toArray, List.getElem?_cons_succ, List.getElem?_cons_zero]; rfl) (by rfl) ?_)
            | (refine seq_calc (by simp only [List.getElem?_toArray, List.getElem?_cons_succ, List.getElem?_cons_zero]; rfl) (by rfl) (fun u => by go_simp <;> with_reducible rfl) ?_)
          try simp only [Act.put, List.setIfInBounds_toArray, List.set_cons_zero, List.set_cons_succ]
          first
            | (refine seq_skip (by simp only [List.getElem?_toArray, List.getElem?_cons_succ, List.getElem?_cons_zero]; rfl) (by rfl) ?_)
            | (refine seq_load1 (by simp only [List.getElem?_toArray, List.getElem?_cons_succ, List.getElem?_cons_zero]; rfl) (by rfl) rfl rfl Tryd.underlying41 rfl (by go_simp <;> with_reducible rfl) (by first | exact id | assumption | (simp; done) | (simp; omega)) ?_)
          try simp only [Act.put, List.setIfInBounds_toArray, List.set_cons_zero, List.set_cons_succ]
          first
            | (refine seq_skip (by simp only [List.getElem?_toArray, List.getElem?_cons_succ, List.getElem?_cons_zero]; rfl) (by rfl) ?_)
            | (refine seq_do (by simp only [List.getElem?_toArray, List.getElem?_cons_succ, List.getElem?_cons_zero]; rfl) (by rfl) (fun K hK => ?_); go_wp2_with (first | (go_at_call 68; refine (DE.out _ (HQ.out.below (by first | exact Below.refl _ _ | exact (Below.refl _ _).drew))).mono ?_; rintro e w' ⟨rfl, rfl⟩) | (go_at_call 69; refine (LE.out _ (HQ.out.below (by first | exact Below.refl _ _ | exact (Below.refl _ _).drew))).mono ?_; rintro e w' ⟨rfl, rfl⟩) | (go_at_call 67; refine (LI.out _ (HQ.out.below (by first | exact Below.refl _ _ | exact (Below.refl _ _).drew))).mono ?_; rintro e w4 ⟨a4, c4, rfl, hr, hb⟩; have HR4 := Lib.hid ((HR.out.below (by first | exact Below.refl _ _ | exact (Below.refl _ _).drew)).below hb); have HB4 := Lib.hid ((HB.out.drew).trans (hb.mono HB.out.size)); have c94 := HR4.out.head.cell 1; rw [← hn.out] at c94; have HS := Lib.hid (readsInts_own hr)) | (go_at_call 55; refine (sameInts_any _ _ es es _ HS.out (CR.out _ HR4.out) (by have := hn.out; omega)).mono ?_; simp only [decide_true]; rintro e w' ⟨rfl, rfl⟩)); refine hK.out _ _ (by first | (with_reducible exact Chg.refl _ _) | (with_reducible assumption) | (refine Chg.of_below ?_; with_reducible assumption) | (with_reducible exact (Chg.refl _ _).alloc _) | (with_reducible exact (Chg.refl _ _).drewN _) | (with_reducible exact (Chg.refl _ _).drew) | exact ⟨rfl, rfl, rfl, Nat.le_refl _, fun _ _ _ => rfl⟩) ?_; clear hK K)
          try simp only [Act.put, List.setIfInBounds_toArray, List.set_cons_zero, List.set_cons_succ]
          first
            | (refine seq_skip (by simp only [List.getElem?_toArray, List.getElem?_cons_succ, List.getElem?_cons_zero]; rfl) (by rfl) ?_)
            | (refine seq_last (by simp only [List.getElem?_toArray, List.getElem?_cons_succ, List.getElem?_cons_zero]; rfl) (by rfl) (fun K hK => ?_); go_wp2_with (first | (go_at_call 68; refine (DE.out _ (HQ.out.below (by first | exact Below.refl _ _ | exact (Below.refl _ _).drew))).mono ?_; rintro e w' ⟨rfl, rfl⟩) | (go_at_call 69; refine (LE.out _ (HQ.out.below (by first | exact Below.refl _ _ | exact (Below.refl _ _).drew))).mono ?_; rintro e w' ⟨rfl, rfl⟩) | (go_at_call 67; refine (LI.out _ (HQ.out.below (by first | exact Below.refl _ _ | exact (Below.refl _ _).drew))).mono ?_; rintro e w4 ⟨a4, c4, rfl, hr, hb⟩; have HR4 := Lib.hid ((HR.out.below (by first | exact Below.refl _ _ | exact (Below.refl _ _).drew)).below hb); have HB4 := Lib.hid ((HB.out.drew).trans (hb.mono HB.out.size)); have c94 := HR4.out.head.cell 1; rw [← hn.out] at c94; have HS := Lib.hid (readsInts_own hr)) | (go_at_call 55; refine (sameInts_any _ _ es es _ HS.out (CR.out _ HR4.out) (by have := hn.out; omega)).mono ?_; simp only [decide_true]; rintro e w' ⟨rfl, rfl⟩)); refine hK.out _ _ ?_; clear hK K)
          try simp only [Act.put, List.setIfInBounds_toArray, List.set_cons_zero, List.set_cons_succ]
          refine seq_calc (by simp only [List.getElem?_toArray, List.getElem?_cons_succ, List.getElem?_cons_zero]; rfl) (by rfl) (fun u => by go_simp <;> with_reducible rfl) ?_
          try simp only [Act.put, List.setIfInBounds_toArray, List.set_cons_zero, List.set_cons_succ]
          refine seq_calc (by simp only [List.getElem?_toArray, List.getElem?_cons_succ, List.getElem?_cons_zero]; rfl) (by rfl) (fun u => by go_simp <;> with_reducible rfl) ?_
          try simp only [Act.put, List.setIfInBounds_toArray, List.set_cons_zero, List.set_cons_succ]
          refine seq_nil ?_
          go_wp2
          go_ret
          exact ⟨rfl, HB4.out⟩
end Go.Proofs.YtdlfkjpnbgobhaaDoor
