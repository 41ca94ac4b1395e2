/- The walk of TrapCatches. Condition: the errors. -/
import Derived.Test.YtaegjdkmnkjggaaDoorTrapLaw
namespace Go.Proofs.YtaegjdkmnkjggaaDoor
set_option linter.unusedVariables false
set_option linter.unusedSimpArgs false
open Go.RowKit Go.Proofs

theorem catches_clos (D A C : Nat) (k : Nat) (hk : k < 11) (n x : Int) (E : Nat → Addr) (w0 w : World) (hd : Blk w D 3 #[.int .i64 x]) (ha : Blk w A 3 #[.int .i64 (k : Int)]) (hc : Blk w C 3 #[.int .i64 n]) (h : ErrsAre w0 E) (hb0 : Below w0.heap.size w0 w) (hAD : A ≠ D) (hCD : C ≠ D) (hN : w0.heap.size ≤ D) :
    Fate 33 #[.pointer (some ⟨D, 0, none⟩), .pointer (some ⟨A, 0, none⟩), .pointer (some ⟨C, 0, none⟩)] w E (ofK k n) (fun w2 => Blk w2 D 3 #[.int .i64 7] ∧ Chg (fun b => b = D) w w2) := by
  have hdl := hd.lt
  have b1 : Below w0.heap.size w0 ((w.setCell ⟨D, 0, none⟩ (.int .i64 7)).alloc (.cells #[.int .i64 1] 3)) := (hb0.setCell (p := ⟨D, 0, none⟩) hN _).alloc (by have := hb0.size; simp [World.setCell]; omega) _
  have hf := act_fate k hk n w.heap.size E ((w.setCell ⟨D, 0, none⟩ (.int .i64 7)).alloc (.cells #[.int .i64 1] 3)) ((Blk.new_at (W := w.setCell ⟨D, 0, none⟩ (.int .i64 7)) (by simp [World.setCell])).cell 0) (h.below b1)
  have d1 : Blk (w.setCell ⟨D, 0, none⟩ (.int .i64 7)) D 3 #[.int .i64 7] := hd.set 0 _
  have hq : ∀ w2, Below ((w.setCell ⟨D, 0, none⟩ (.int .i64 7)).alloc (.cells #[.int .i64 1] 3)).heap.size ((w.setCell ⟨D, 0, none⟩ (.int .i64 7)).alloc (.cells #[.int .i64 1] 3)) w2 → Blk w2 D 3 #[.int .i64 7] ∧ Chg (fun b => b = D) w w2 := by
    intro w2 hb
    exact ⟨(d1.alloc _).below hb (d1.alloc _).lt, (((Chg.refl _ _).set1 0 _).alloc _).thenBelow hb⟩
  have HQ := Lib.hid hq
  have f0 := hd.frozen 0
  have c0 := hd.cell 0
  have c1 := ha.cell 0
  have c2 := hc.cell 0
  clear hd ha hc h b1 d1 hq hb0
  rcases hf with ⟨h0, hF⟩ | ⟨h1, h2, hF⟩ | ⟨h0, hF⟩
  · refine .inl ⟨h0, ?_⟩
    replace h0 := Lib.hid h0
    go_enter Tryd.func33, Tryd.ntmps33
    go_wp2_with (go_at_call 34; refine hF.mono ?_; rintro e w2 ⟨rfl, hb⟩)
    ((try simp only [Exit.inBlock, Exit.then]); first | refine bodyPost_end (results_none rfl _ _ _) rfl ?_ | refine bodyPost_ret (results_none rfl _ _ _) rfl ?_)
    exact ⟨rfl, HQ.out _ hb⟩
  · refine .inr (.inl ⟨h1, h2, ?_⟩)
    go_enter Tryd.func33, Tryd.ntmps33
    go_wp2_with (go_at_call 34; refine hF.mono ?_; rintro e w2 ⟨rfl, hb⟩)
    exact ⟨rfl, rfl, HQ.out _ hb⟩
  · refine .inr (.inr ⟨h0, ?_⟩)
    replace h0 := Lib.hid h0
    go_enter Tryd.func33, Tryd.ntmps33
    go_wp2_with (go_at_call 34; refine hF.mono ?_; rintro e w2 ⟨⟨u, y, hu, rfl⟩, hb⟩)
    exact ⟨rfl, ⟨u, y, hu, rfl⟩, HQ.out _ hb⟩
/-- what Of says -/
theorem refOf05 (k : Nat) (hk : k < 11) (n : Int) (w : World) :
    Calls Tryd.prog 35 #[.int .i64 (k : Int), .int .i64 n] w fun e w' => e = .returned (.int .i64 ((ofK k n : Nat) : Int)) ∧ w = w' := by
  by_cases h0 : k = 0 ∨ k = 2
  · rw [show ofK k n = 0 from if_pos h0]
    rcases h0 with rfl | rfl
    · go_enter Tryd.func35, Tryd.ntmps35
      go_wp2
      go_ret
      exact ⟨rfl, rfl⟩
    · go_enter Tryd.func35, Tryd.ntmps35
      go_wp2
      go_ret
      exact ⟨rfl, rfl⟩
  · by_cases h1 : k = 1
    · subst h1
      by_cases hn : n < 1 ∨ 16 < n
      · rw [show ofK 1 n = 0 by unfold ofK; rw [if_neg h0, if_pos rfl, if_pos hn]]
        by_cases hn1 : n < 1
        · have e1 : decide (n < 1) = true := by simpa using hn1
          clear hn hn1 h0
          go_enter Tryd.func35, Tryd.ntmps35
          go_wp2
          go_ret
          exact ⟨rfl, rfl⟩
        · have e1 : decide (n < 1) = false := by simpa using hn1
          have e2 : decide (n > 16) = true := by simp; omega
          clear hn hn1 h0
          go_enter Tryd.func35, Tryd.ntmps35
          go_wp2
          go_ret
          exact ⟨rfl, rfl⟩
      · have hof : ofK 1 n = n.toNat := by unfold ofK; rw [if_neg h0, if_pos rfl, if_neg hn]
        have e3 := Lib.hid (show ((n.toNat : Nat) : Int) = n by omega)
        rw [hof]
        have e1 : decide (n < 1) = false := by simp; omega
        have e2 : decide (n > 16) = false := by simp; omega
        clear hn h0 hof
        go_enter Tryd.func35, Tryd.ntmps35
        go_wp2
        go_ret
        exact ⟨by rw [e3.out]; rfl, rfl⟩
    · rw [show ofK k n = 10 by unfold ofK; rw [if_neg h0, if_neg h1]]
      have e0 : ((k : Int) == 0) = false := by simp; omega
      have e1 : ((k : Int) == 1) = false := by simp; omega
      have e2 : ((k : Int) == 2) = false := by simp; omega
      clear h0 h1
      go_enter Tryd.func35, Tryd.ntmps35
      go_wp2
      go_ret
      exact ⟨rfl, rfl⟩

set_option maxRecDepth 100000 in
set_option maxHeartbeats 3200000 in
theorem trapCatches_any (kind n : Int) (E : Nat → Addr) (w0 : World) (he : ErrsAre w0 E) :
    Calls Tryd.prog 6 #[.int .i64 kind, .int .i64 n] w0 fun e w' => e = .returned (.bool true) ∧ Below w0.heap.size w0 w' := by
  have hmf : ∀ (fn : Fn) (first cap : Array Value) (w : World), (Instr.makeFunc fn first cap).run Tryd.prog w = .ok (.func fn first cap) w := fun _ _ _ _ => rfl
  have HE := Lib.hid he
  clear he
  have hkl := kindN_lt kind
  have HK := Lib.hid (kinds_any kind)
  generalize kindN kind = k at hkl HK
  have AL := Lib.hid (fun (w : World) h => alive05_any E w h)
  have N1 := Lib.hid (fun (w : World) h => num_any E (ofK k n) (ofK_le k n) w h)
  have N2 := Lib.hid (fun (w : World) h => num_err w E h 12 (by decide) (by decide))
  have OF := Lib.hid (refOf05 k hkl n)
  have CN := Lib.hid (fun (w : World) h => catch_nil E w h)
  have CC := Lib.hid (fun (W : World) (D A C : Nat) (hd : Blk W D 3 #[.int .i64 0]) (ha : Blk W A 3 #[.int .i64 (k : Int)]) (hc : Blk W C 3 #[.int .i64 n]) (hb : Below w0.heap.size w0 W) (hAD : A ≠ D) (hCD : C ≠ D) (hN : w0.heap.size ≤ D) =>
    catch_fate 33 #[.pointer (some ⟨D, 0, none⟩), .pointer (some ⟨A, 0, none⟩), .pointer (some ⟨C, 0, none⟩)] E (ofK k n) (fun w2 => Blk w2 D 3 #[.int .i64 7] ∧ Chg (fun b => b = D) (W.alloc (.cells #[.nilIface] 26)) w2) W catches_ent
      (catches_clos D A C k hkl n 0 E w0 _ (hd.alloc _) (ha.alloc _) (hc.alloc _) HE.out (hb.alloc hb.size _) hAD hCD hN)
      (fun w2 h2 => ⟨(Blk.new W _ _).chg h2.2 (by have := hd.lt; omega), (HE.out.below ((hb.alloc hb.size _).trans (h2.2.below (by have := hb.size; simp; omega) (fun k hk e => by omega)))).c10⟩))
  go_enter Tryd.func6, Tryd.ntmps6
  go_wp2_with (first
    | (go_at_call 30; refine (AL.out _ (HE.out.below (by go_grown))).mono ?_; rintro e w1 ⟨rfl, hb1⟩; have bC1 := Lib.hid ((Blk.new w0 3 #[.int .i64 n]).below hb1 (by simp)); have hb1' : Below w0.heap.size w0 w1 := Below.trans (by go_grown) (hb1.mono (by simp)))
    | (go_at_call 31; refine (HK.out _).mono ?_; rintro e w' ⟨rfl, rfl⟩)
    | (go_at_call 32; refine (CC.out _ (w1.heap.size + 1) w1.heap.size w0.heap.size (Blk.new_at (by simp)) ((Blk.new w1 _ _).alloc _) ((bC1.out.alloc _).alloc _) ((hb1'.alloc hb1'.size _).alloc (by have := hb1'.size; simp; omega) _) (by omega) (by have := bC1.out.lt; omega) (by have := hb1'.size; omega)).mono ?_; rintro e w3 ⟨rfl, w2, ⟨d2, h2⟩, hb3⟩; have h2' := hb3.size; have g2 := h2.size; simp only [World.size_alloc] at hb3 g2; have bD3 := d2.below hb3 (by omega); have bA3 := ((((Blk.new w1 _ _).alloc _).alloc _).chg h2 (by omega)).below hb3 (by omega); have bC3 := ((((bC1.out.alloc _).alloc _).alloc _).chg h2 (by have := bC1.out.lt; omega)).below hb3 (by have := bC1.out.lt; omega); have hb3' : Below w0.heap.size w0 w3 := (((hb1'.alloc hb1'.size _).alloc (by have := hb1'.size; simp; omega) _).alloc (by have := hb1'.size; simp; omega) _).trans ((h2.below (by have := hb1'.size; simp; omega) (fun k hk e => by have := hb1'.size; omega)).trans (hb3.mono (by have := hb1'.size; omega))); clear hb3 h2 d2 h2' g2))
  obtain ⟨w, hw⟩ : ∃ w, w = w3 := ⟨_, rfl⟩
  rw [← hw] at bD3 bA3 bC3 hb3' ⊢
  replace hw := Lib.hid hw
  have d0 := bD3.cell 0
  have a0 := bA3.cell 0
  have c0 := bC3.cell 0
  have hzD := bD3.lt
  have hzA := bA3.lt
  have hzC := bC3.lt
  have B3 := Lib.hid hb3'
  clear bD3 bA3 bC3 hb3'
  generalize w1.heap.size + 1 = D at *
  generalize w1.heap.size = A at *
  have B3z := B3.out.size
  refine wp_region_seq (fun _ => False) #[⟨0, 0, 16384, 128, 0⟩, ⟨1, 1, 32768, 16384, 2⟩, ⟨0, 0, 65536, 32, 1⟩, ⟨0, 0, 131072, 8, 1⟩, ⟨14, 15, 262144, 196608, 2⟩, ⟨18, 31, 524288, 294912, 0⟩, ⟨48, 63, 1048576, 524288, 0⟩, ⟨64, 127, 2097152, 1048640, 1⟩, ⟨192, 255, 4194304, 3145728, 0⟩, ⟨320, 511, 8388608, 5242880, 0⟩, ⟨576, 1023, 16777216, 8388608, 0⟩, ⟨1024, 2047, 33554432, 16777216, 3⟩, ⟨3072, 4095, 67108864, 50331648, 3⟩, ⟨5120, 8191, 134217728, 83886080, 0⟩, ⟨9216, 16383, 268435456, 150994944, 0⟩, ⟨32767, 32767, 16, 268435456, 0⟩] 140 [(0, 0), (2, 1), (3, 1), (1, 2), (4, 2), (5, 0), (6, 0), (7, 1), (8, 0), (9, 0), (10, 0), (11, 3), (12, 3), (13, 0), (14, 0), (15, 0)] (by kernel_rfl) (by kernel_rfl) (by kernel_rfl) (by kernel_rfl) (by kernel_rfl) (by kernel_rfl) (fun c a d v w h => by cases d <;> exact h) ?_
  refine seq_calc (by simp only [List.getElem?_toArray, List.getElem?_cons_succ, List.getElem?_cons_zero]; rfl) (by rfl) (fun u => by go_simp <;> with_reducible rfl) ?_
  try simp only [Act.put, List.setIfInBounds_toArray, List.set_cons_zero, List.set_cons_succ]
  refine seq_load1 (by simp only [List.getElem?_toArray, List.getElem?_cons_succ, List.getElem?_cons_zero]; rfl) (by rfl) rfl rfl Tryd.underlying3 rfl (by go_simp <;> with_reducible rfl) (by first | exact id | assumption | (simp; done) | (simp; omega)) ?_
  try simp only [Act.put, List.setIfInBounds_toArray, List.set_cons_zero, List.set_cons_succ]
  refine seq_load1 (by simp only [List.getElem?_toArray, List.getElem?_cons_succ, List.getElem?_cons_zero]; rfl) (by rfl) rfl rfl Tryd.underlying3 rfl (by go_simp <;> with_reducible rfl) (by first | exact id | assumption | (simp; done) | (simp; omega)) ?_
  try simp only [Act.put, List.setIfInBounds_toArray, List.set_cons_zero, List.set_cons_succ]
  refine seq_do (by simp only [List.getElem?_toArray, List.getElem?_cons_succ, List.getElem?_cons_zero]; rfl) (by rfl) (fun K hK => ?_); go_wp2_with (first | (go_at_call 23; refine (N2.out _ (HE.out.below (B3.out.trans (hB1.mono B3z)))).mono ?_; rintro e w' ⟨rfl, rfl⟩) | (go_at_call 23; refine (N1.out _ (HE.out.below B3.out.drew)).mono ?_; rintro e w4 ⟨rfl, hb4⟩; have hB1 : Below w.heap.size w w4 := (by first | exact hB1.trans (hb4.mono hB1.size) | exact hB1.trans (Below.undrew (hb4.mono hB1.size)) | exact hb4 | exact Below.trans (by go_grown) (hb4.mono (by simp <;> omega))); have hcD := fun (o : Nat) => hb4.cell (p := ⟨D, o, none⟩) (by first | assumption | (simp <;> omega)); have hfD := fun (o : Nat) => hb4.frozen (p := ⟨D, o, none⟩) (by first | assumption | (simp <;> omega)); have hzD : D < w4.heap.size := Nat.lt_of_lt_of_le (by first | assumption | (simp <;> omega)) hb4.size; have hcA := fun (o : Nat) => hb4.cell (p := ⟨A, o, none⟩) (by first | assumption | (simp <;> omega)); have hfA := fun (o : Nat) => hb4.frozen (p := ⟨A, o, none⟩) (by first | assumption | (simp <;> omega)); have hzA : A < w4.heap.size := Nat.lt_of_lt_of_le (by first | assumption | (simp <;> omega)) hb4.size; have hcw0heapsize := fun (o : Nat) => hb4.cell (p := ⟨w0.heap.size, o, none⟩) (by first | assumption | (simp <;> omega)); have hfw0heapsize := fun (o : Nat) => hb4.frozen (p := ⟨w0.heap.size, o, none⟩) (by first | assumption | (simp <;> omega)); have hzw0heapsize : w0.heap.size < w4.heap.size := Nat.lt_of_lt_of_le (by first | assumption | (simp <;> omega)) hb4.size) | (go_at_call 35; refine (OF.out _).mono ?_; rintro e w' ⟨rfl, rfl⟩) | (go_at_call 32; refine (CN.out _ (HE.out.below (B3.out.trans (hB1.mono B3z))).c12).mono ?_; rintro e w5 ⟨rfl, hb5⟩; have hB1 : Below w.heap.size w w5 := (by first | exact hB1.trans (hb5.mono hB1.size) | exact hB1.trans (Below.undrew (hb5.mono hB1.size)) | exact hb5 | exact Below.trans (by go_grown) (hb5.mono (by simp <;> omega))); have hcD := fun (o : Nat) => hb5.cell (p := ⟨D, o, none⟩) (by first | assumption | (simp <;> omega)); have hfD := fun (o : Nat) => hb5.frozen (p := ⟨D, o, none⟩) (by first | assumption | (simp <;> omega)); have hzD : D < w5.heap.size := Nat.lt_of_lt_of_le (by first | assumption | (simp <;> omega)) hb5.size)); refine hK.out _ _ (by first | (with_reducible exact Chg.refl _ _) | (with_reducible assumption) | (refine Chg.of_below ?_; with_reducible assumption) | (with_reducible exact (Chg.refl _ _).alloc _) | (with_reducible exact (Chg.refl _ _).drewN _) | (with_reducible exact (Chg.refl _ _).drew) | exact ⟨rfl, rfl, rfl, Nat.le_refl _, fun _ _ _ => rfl⟩) ?_; clear hK K
  try simp only [Act.put, List.setIfInBounds_toArray, List.set_cons_zero, List.set_cons_succ]
  refine seq_do (by simp only [List.getElem?_toArray, List.getElem?_cons_succ, List.getElem?_cons_zero]; rfl) (by rfl) (fun K hK => ?_); go_wp2_with (first | (go_at_call 23; refine (N2.out _ (HE.out.below (B3.out.trans (hB1.mono B3z)))).mono ?_; rintro e w' ⟨rfl, rfl⟩) | (go_at_call 23; refine (N1.out _ (HE.out.below B3.out.drew)).mono ?_; rintro e w4 ⟨rfl, hb4⟩; have hB1 : Below w.heap.size w w4 := (by first | exact hB1.trans (hb4.mono hB1.size) | exact hB1.trans (Below.undrew (hb4.mono hB1.size)) | exact hb4 | exact Below.trans (by go_grown) (hb4.mono (by simp <;> omega))); have hcD := fun (o : Nat) => hb4.cell (p := ⟨D, o, none⟩) (by first | assumption | (simp <;> omega)); have hfD := fun (o : Nat) => hb4.frozen (p := ⟨D, o, none⟩) (by first | assumption | (simp <;> omega)); have hzD : D < w4.heap.size := Nat.lt_of_lt_of_le (by first | assumption | (simp <;> omega)) hb4.size; have hcA := fun (o : Nat) => hb4.cell (p := ⟨A, o, none⟩) (by first | assumption | (simp <;> omega)); have hfA := fun (o : Nat) => hb4.frozen (p := ⟨A, o, none⟩) (by first | assumption | (simp <;> omega)); have hzA : A < w4.heap.size := Nat.lt_of_lt_of_le (by first | assumption | (simp <;> omega)) hb4.size; have hcw0heapsize := fun (o : Nat) => hb4.cell (p := ⟨w0.heap.size, o, none⟩) (by first | assumption | (simp <;> omega)); have hfw0heapsize := fun (o : Nat) => hb4.frozen (p := ⟨w0.heap.size, o, none⟩) (by first | assumption | (simp <;> omega)); have hzw0heapsize : w0.heap.size < w4.heap.size := Nat.lt_of_lt_of_le (by first | assumption | (simp <;> omega)) hb4.size) | (go_at_call 35; refine (OF.out _).mono ?_; rintro e w' ⟨rfl, rfl⟩) | (go_at_call 32; refine (CN.out _ (HE.out.below (B3.out.trans (hB1.mono B3z))).c12).mono ?_; rintro e w5 ⟨rfl, hb5⟩; have hB1 : Below w.heap.size w w5 := (by first | exact hB1.trans (hb5.mono hB1.size) | exact hB1.trans (Below.undrew (hb5.mono hB1.size)) | exact hb5 | exact Below.trans (by go_grown) (hb5.mono (by simp <;> omega))); have hcD := fun (o : Nat) => hb5.cell (p := ⟨D, o, none⟩) (by first | assumption | (simp <;> omega)); have hfD := fun (o : Nat) => hb5.frozen (p := ⟨D, o, none⟩) (by first | assumption | (simp <;> omega)); have hzD : D < w5.heap.size := Nat.lt_of_lt_of_le (by first | assumption | (simp <;> omega)) hb5.size)); refine hK.out _ _ (by first | (with_reducible exact Chg.refl _ _) | (with_reducible assumption) | (refine Chg.of_below ?_; with_reducible assumption) | (with_reducible exact (Chg.refl _ _).alloc _) | (with_reducible exact (Chg.refl _ _).drewN _) | (with_reducible exact (Chg.refl _ _).drew) | exact ⟨rfl, rfl, rfl, Nat.le_refl _, fun _ _ _ => rfl⟩) ?_; clear hK K
  try simp only [Act.put, List.setIfInBounds_toArray, List.set_cons_zero, List.set_cons_succ]
  refine seq_calc (by simp only [List.getElem?_toArray, List.getElem?_cons_succ, List.getElem?_cons_zero]; rfl) (by rfl) (fun u => by go_simp <;> with_reducible rfl) ?_
  try simp only [Act.put, List.setIfInBounds_toArray, List.set_cons_zero, List.set_cons_succ]
  refine seq_calc (by simp only [List.getElem?_toArray, List.getElem?_cons_succ, List.getElem?_cons_zero]; rfl) (by rfl) (fun u => by go_simp <;> with_reducible rfl) ?_
  try simp only [Act.put, List.setIfInBounds_toArray, List.set_cons_zero, List.set_cons_succ]
  first
    | (refine seq_skip (by simp only [List.getElem?_toArray, List.getElem?_cons_succ, List.getElem?_cons_zero]; rfl) (by rfl) ?_)
    | (refine seq_load1 (by simp only [List.getElem?_toArray, List.getElem?_cons_succ, List.getElem?_cons_zero]; rfl) (by rfl) rfl rfl Tryd.underlying3 rfl (by go_simp <;> with_reducible rfl) (by first | exact id | assumption | (simp; done) | (simp; omega)) ?_)
  try simp only [Act.put, List.setIfInBounds_toArray, List.set_cons_zero, List.set_cons_succ]
  first
    | (refine seq_skip (by simp only [List.getElem?_toArray, List.getElem?_cons_succ, List.getElem?_cons_zero]; rfl) (by rfl) ?_)
    | (refine seq_calc (by simp only [List.getElem?_toArray, List.getElem?_cons_succ, List.getElem?_cons_zero]; rfl) (by rfl) (fun u => by go_simp <;> with_reducible rfl) ?_)
  try simp only [Act.put, List.setIfInBounds_toArray, List.set_cons_zero, List.set_cons_succ]
  refine seq_calc (by simp only [List.getElem?_toArray, List.getElem?_cons_succ, List.getElem?_cons_zero]; rfl) (by rfl) (fun u => by go_simp <;> with_reducible rfl) ?_
  try simp only [Act.put, List.setIfInBounds_toArray, List.set_cons_zero, List.set_cons_succ]
  refine seq_calc (by simp only [List.getElem?_toArray, List.getElem?_cons_succ, List.getElem?_cons_zero]; rfl) (by rfl) (fun u => by go_simp <;> with_reducible rfl) ?_
  try simp only [Act.put, List.setIfInBounds_toArray, List.set_cons_zero, List.set_cons_succ]
  first
    | (refine seq_skip (by simp only [List.getElem?_toArray, List.getElem?_cons_succ, List.getElem?_cons_zero]; rfl) (by rfl) ?_)
    | (refine seq_last (by simp only [List.getElem?_toArray, List.getElem?_cons_succ, List.getElem?_cons_zero]; rfl) (by rfl) (fun K hK => ?_); go_wp2_with (first | (go_at_call 23; refine (N2.out _ (HE.out.below (B3.out.trans (hB1.mono B3z)))).mono ?_; rintro e w' ⟨rfl, rfl⟩) | (go_at_call 23; refine (N1.out _ (HE.out.below B3.out.drew)).mono ?_; rintro e w4 ⟨rfl, hb4⟩; have hB1 : Below w.heap.size w w4 := (by first | exact hB1.trans (hb4.mono hB1.size) | exact hB1.trans (Below.undrew (hb4.mono hB1.size)) | exact hb4 | exact Below.trans (by go_grown) (hb4.mono (by simp <;> omega))); have hcD := fun (o : Nat) => hb4.cell (p := ⟨D, o, none⟩) (by first | assumption | (simp <;> omega)); have hfD := fun (o : Nat) => hb4.frozen (p := ⟨D, o, none⟩) (by first | assumption | (simp <;> omega)); have hzD : D < w4.heap.size := Nat.lt_of_lt_of_le (by first | assumption | (simp <;> omega)) hb4.size; have hcA := fun (o : Nat) => hb4.cell (p := ⟨A, o, none⟩) (by first | assumption | (simp <;> omega)); have hfA := fun (o : Nat) => hb4.frozen (p := ⟨A, o, none⟩) (by first | assumption | (simp <;> omega)); have hzA : A < w4.heap.size := Nat.lt_of_lt_of_le (by first | assumption | (simp <;> omega)) hb4.size; have hcw0heapsize := fun (o : Nat) => hb4.cell (p := ⟨w0.heap.size, o, none⟩) (by first | assumption | (simp <;> omega)); have hfw0heapsize := fun (o : Nat) => hb4.frozen (p := ⟨w0.heap.size, o, none⟩) (by first | assumption | (simp <;> omega)); have hzw0heapsize : w0.heap.size < w4.heap.size := Nat.lt_of_lt_of_le (by first | assumption | (simp <;> omega)) hb4.size) | (go_at_call 35; refine (OF.out _).mono ?_; rintro e w' ⟨rfl, rfl⟩) | (go_at_call 32; refine (CN.out _ (HE.out.below (B3.out.trans (hB1.mono B3z))).c12).mono ?_; rintro e w5 ⟨rfl, hb5⟩; have hB1 : Below w.heap.size w w5 := (by first | exact hB1.trans (hb5.mono hB1.size) | exact hB1.trans (Below.undrew (hb5.mono hB1.size)) | exact hb5 | exact Below.trans (by go_grown) (hb5.mono (by simp <;> omega))); have hcD := fun (o : Nat) => hb5.cell (p := ⟨D, o, none⟩) (by first | assumption | (simp <;> omega)); have hfD := fun (o : Nat) => hb5.frozen (p := ⟨D, o, none⟩) (by first | assumption | (simp <;> omega)); have hzD : D < w5.heap.size := Nat.lt_of_lt_of_le (by first | assumption | (simp <;> omega)) hb5.size)); refine hK.out _ _ ?_; clear hK K)
  try simp only [Act.put, List.setIfInBounds_toArray, List.set_cons_zero, List.set_cons_succ]
  first
    | (refine seq_skip (by simp only [List.getElem?_toArray, List.getElem?_cons_succ, List.getElem?_cons_zero]; rfl) (by rfl) ?_)
    | (refine seq_last (by simp only [List.getElem?_toArray, List.getElem?_cons_succ, List.getElem?_cons_zero]; rfl) (by rfl) (fun K hK => ?_); go_wp2_with (first | (go_at_call 23; refine (N2.out _ (HE.out.below (B3.out.trans (hB1.mono B3z)))).mono ?_; rintro e w' ⟨rfl, rfl⟩) | (go_at_call 23; refine (N1.out _ (HE.out.below B3.out.drew)).mono ?_; rintro e w4 ⟨rfl, hb4⟩; have hB1 : Below w.heap.size w w4 := (by first | exact hB1.trans (hb4.mono hB1.size) | exact hB1.trans (Below.undrew (hb4.mono hB1.size)) | exact hb4 | exact Below.trans (by go_grown) (hb4.mono (by simp <;> omega))); have hcD := fun (o : Nat) => hb4.cell (p := ⟨D, o, none⟩) (by first | assumption | (simp <;> omega)); have hfD := fun (o : Nat) => hb4.frozen (p := ⟨D, o, none⟩) (by first | assumption | (simp <;> omega)); have hzD : D < w4.heap.size := Nat.lt_of_lt_of_le (by first | assumption | (simp <;> omega)) hb4.size; have hcA := fun (o : Nat) => hb4.cell (p := ⟨A, o, none⟩) (by first | assumption | (simp <;> omega)); have hfA := fun (o : Nat) => hb4.frozen (p := ⟨A, o, none⟩) (by first | assumption | (simp <;> omega)); have hzA : A < w4.heap.size := Nat.lt_of_lt_of_le (by first | assumption | (simp <;> omega)) hb4.size; have hcw0heapsize := fun (o : Nat) => hb4.cell (p := ⟨w0.heap.size, o, none⟩) (by first | assumption | (simp <;> omega)); have hfw0heapsize := fun (o : Nat) => hb4.frozen (p := ⟨w0.heap.size, o, none⟩) (by first | assumption | (simp <;> omega)); have hzw0heapsize : w0.heap.size < w4.heap.size := Nat.lt_of_lt_of_le (by first | assumption | (simp <;> omega)) hb4.size) | (go_at_call 35; refine (OF.out _).mono ?_; rintro e w' ⟨rfl, rfl⟩) | (go_at_call 32; refine (CN.out _ (HE.out.below (B3.out.trans (hB1.mono B3z))).c12).mono ?_; rintro e w5 ⟨rfl, hb5⟩; have hB1 : Below w.heap.size w w5 := (by first | exact hB1.trans (hb5.mono hB1.size) | exact hB1.trans (Below.undrew (hb5.mono hB1.size)) | exact hb5 | exact Below.trans (by go_grown) (hb5.mono (by simp <;> omega))); have hcD := fun (o : Nat) => hb5.cell (p := ⟨D, o, none⟩) (by first | assumption | (simp <;> omega)); have hfD := fun (o : Nat) => hb5.frozen (p := ⟨D, o, none⟩) (by first | assumption | (simp <;> omega)); have hzD : D < w5.heap.size := Nat.lt_of_lt_of_le (by first | assumption | (simp <;> omega)) hb5.size)); refine hK.out _ _ ?_; clear hK K)
  try simp only [Act.put, List.setIfInBounds_toArray, List.set_cons_zero, List.set_cons_succ]
  first
    | (refine seq_skip (by simp only [List.getElem?_toArray, List.getElem?_cons_succ, List.getElem?_cons_zero]; rfl) (by rfl) ?_)
    | (refine seq_calc (by simp only [List.getElem?_toArray, List.getElem?_cons_succ, List.getElem?_cons_zero]; rfl) (by rfl) (fun u => by go_simp <;> with_reducible rfl) ?_)
  try simp only [Act.put, List.setIfInBounds_toArray, List.set_cons_zero, List.set_cons_succ]
  refine seq_calc (by simp only [List.getElem?_toArray, List.getElem?_cons_succ, List.getElem?_cons_zero]; rfl) (by rfl) (fun u => by go_simp <;> with_reducible rfl) ?_
  try simp only [Act.put, List.setIfInBounds_toArray, List.set_cons_zero, List.set_cons_succ]
  refine seq_calc (by simp only [List.getElem?_toArray, List.getElem?_cons_succ, List.getElem?_cons_zero]; rfl) (by rfl) (fun u => by go_simp <;> with_reducible rfl) ?_
  try simp only [Act.put, List.setIfInBounds_toArray, List.set_cons_zero, List.set_cons_succ]
  refine seq_nil ?_
  go_wp2
  go_ret
  exact ⟨rfl, Below.trans (B3.out.trans (hB1.mono B3z)) (by have := hB1.size; exact (Below.refl _ _).alloc (by omega) _)⟩
end Go.Proofs.YtaegjdkmnkjggaaDoor
