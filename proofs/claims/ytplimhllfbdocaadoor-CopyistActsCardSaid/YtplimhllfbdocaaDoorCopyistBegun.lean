/- The chapter's example and the beginning of its laws. Condition: the errors' cells. -/
import Derived.Test.YtplimhllfbdocaaDoorRef17
namespace Go.Proofs.YtplimhllfbdocaaDoor
set_option linter.unusedVariables false
set_option linter.unusedSimpArgs false
open Go.RowKit Go.Proofs
attribute [local go_sem] neq_nilC

theorem field_units2 (a b c : Value) (w : World) : (Instr.field 62 (.agg #[a, b, c]) 2).run Tryd.prog w = .ok c w := by kernel_rfl
set_option maxRecDepth 100000 in
set_option maxHeartbeats 8000000 in
theorem alive17_any (w : World) : Calls Tryd.prog 50 #[] w fun e w' => e = .returned (.bool true) ∧ Below w.heap.size w w' := by
  have hfu := field_units2
  have hpos : ∀ q, 0 ≤ gD [3, 4] q := fun q => by
    match q with
    | 0 => decide
    | 1 => decide
    | q + 2 => rw [gD_out _ _ (by simp)]; decide
  have HPOS := Lib.hid hpos
  have e2 : ((MeterS.zero.add 0 0 1).add 0 0 1).a2 = 2 := by decide
  have P1 := Lib.hid (fun (w : World) B R (h : DW w B R 1 [0, 0]) => dput_chg B R 1 [0, 0] 0 0 3 rfl (by decide) (by decide) w h)
  have P2 := Lib.hid (fun (w : World) B R (h : DW w B R 1 [3, 0]) => dput_chg B R 1 [3, 0] 1 1 4 rfl (by decide) (by decide) w h)
  have S1 := Lib.hid (fun (w : World) C B R F S M (h : CW w C B R F S 1 [3, 4] 0 false) hM (q : M ≠ C ∧ M ≠ B ∧ M ≠ R ∧ M ≠ F ∧ M ≠ S) => cstep_ok C B R F S 1 M [3, 4] 0 false MeterS.zero rfl (by decide) w h hM q.1 q.2.1 q.2.2.1 q.2.2.2.1 q.2.2.2.2)
  have S2 := Lib.hid (fun (w : World) C B R F S M (h : CW w C B R F S 1 [3, 4] 1 false) hM (q : M ≠ C ∧ M ≠ B ∧ M ≠ R ∧ M ≠ F ∧ M ≠ S) => cstep_ok C B R F S 1 M [3, 4] 1 false (MeterS.zero.add 0 0 1) rfl (by decide) w h hM q.1 q.2.1 q.2.2.1 q.2.2.2.1 q.2.2.2.2)
  clear hpos
  go_enter Tryd.func50, Tryd.ntmps50
  go_wp2_with (first
    | (go_at_call 118; refine (dnew_ok 1 (by decide) _).mono ?_; rintro e w1 ⟨B, R, rfl, h, hB, hR, hb1⟩; have D1 := Lib.hid (show DW w1 B R 1 [0, 0] from h); clear h)
    | (go_at_call 119; (with_reducible refine (P1.out _ B R D1.out).mono ?_); rintro e w2 ⟨rfl, h, c2⟩; have D2 := Lib.hid (show DW w2 B R 1 [3, 0] from h); clear h)
    | (go_at_call 119; (with_reducible refine (P2.out _ B R D2.out).mono ?_); rintro e w3 ⟨rfl, h, c3⟩; have D3 := Lib.hid (show DW w3 B R 1 [3, 4] from h); clear h)
    | (go_at_call 120; refine (cnew_ok B R 1 [3, 4] (by decide) HPOS.out _ D3.out).mono ?_; rintro e w4 ⟨C, F, S, rfl, h, hC, hF, hS, hb4⟩; have K0 := Lib.hid (show CW (w4.alloc (.cells #[.int .i64 0, .int .i64 0, .int .i64 0, .int .i64 0, .int .i64 0, .int .i64 0, .bool false, .int .i64 0] 64)) C B R F S 1 [3, 4] 0 false from h.below ((Below.refl _ w4).alloc (Nat.le_refl _) _)); have M0 := Lib.hid (show Blk (w4.alloc (.cells #[.int .i64 0, .int .i64 0, .int .i64 0, .int .i64 0, .int .i64 0, .int .i64 0, .bool false, .int .i64 0] 64)) w4.heap.size 64 MeterS.zero.cells from Blk.new _ _ _); have hl1 := h.head.lt; have hl2 := h.old.head.lt; have hl3 := h.old.ring.lt; have hl4 := h.fresh.head.lt; have hl5 := h.fresh.ring.lt; have HNE := Lib.hid (show w4.heap.size ≠ C ∧ w4.heap.size ≠ B ∧ w4.heap.size ≠ R ∧ w4.heap.size ≠ F ∧ w4.heap.size ≠ S by omega); clear h)
    | (go_at_call 53; (with_reducible refine (S1.out _ C B R F S _ K0.out M0.out HNE.out).mono ?_); rintro e w5 ⟨rfl, h, hm, c5⟩; have K1 := Lib.hid h; have M1 := Lib.hid hm; clear h hm)
    | (go_at_call 53; (with_reducible refine (S2.out _ C B R F S _ K1.out M1.out HNE.out).mono ?_); rintro e w6 ⟨rfl, h, hm, c6⟩; have K2 := Lib.hid h; have M2 := Lib.hid hm; clear h hm)
    | (go_at_call 53; (with_reducible refine (cstep_end C B R F S 1 [3, 4] false _ _ K2.out).mono ?_); rintro e w7 ⟨rfl, hb7⟩; have K3 := Lib.hid (K2.out.below hb7); have M3 := Lib.hid (M2.out.below hb7 M2.out.lt))
    | (go_at_call 54; refine (ctake_ok C B R F S 1 [3, 4] _ K3.out).mono ?_; rintro e w8 ⟨rfl, h, c8⟩; have K4 := Lib.hid h; have M4 := Lib.hid (M3.out.chg c8 (by omega)); clear h)
    | (go_at_call 61; refine (dlist_any F S 2 [3, 3, 4, 4] _ (show DW _ F S 2 [3, 3, 4, 4] from K4.out.fresh)).mono ?_; rintro e w9 ⟨a9, q9, rfl, hr, hb9⟩; have R9 := Lib.hid (readsInts_gives hr); have M5 := Lib.hid (M4.out.below hb9 M4.out.lt); clear hr)
    | (go_at_call 39; refine (sameInts_any _ _ [3, 3, 4, 4] [3, 3, 4, 4] _ (R9.out.later (by go_grown)) (readsInts_blk (B := w9.heap.size) (xs := [3, 3, 4, 4]) (Blk.new _ _ _) rfl) (by decide)).mono ?_; rintro e w' ⟨rfl, rfl⟩)
    | (go_at_call 45; refine (meterAll_any _ _ 64 _ (M5.out.alloc _)).mono ?_; rintro e w10 ⟨rfl, hb10⟩))
  go_ret
  refine ⟨by rfl, ?_⟩
  have z1 := hb1.size
  have z2 := c2.size
  have z3 := c3.size
  have z4 := hb4.size
  have q1 : Chg (fun b => w.heap.size ≤ b) w w1 := Chg.of_below hb1
  have q2 := q1.trans (c2.mono fun i _ e => by omega)
  have q3 := q2.trans (c3.mono fun i _ e => by omega)
  have q4 := (q3.thenBelow hb4).alloc (.cells MeterS.zero.cells 64)
  have q5 := q4.trans (c5.mono fun i _ e => by omega)
  have q6 := q5.trans (c6.mono fun i _ e => by omega)
  have q8 := (q6.thenBelow hb7).trans (c8.mono fun i _ e => by omega)
  exact (((q8.thenBelow hb9).alloc _).thenBelow hb10).below (Nat.le_refl _) (fun k hk e => by omega)
/-- what the laws begin with: a copyist and its model of one directory -/
def BegunC (d : Nat) (w : World) (e : Ending) (w' : World) : Prop := ∃ C B R F S K M Z es, e = .returned (.tuple #[.pointer (some ⟨C, 0, none⟩), .pointer (some ⟨K, 0, none⟩), .nilIface]) ∧ CW w' C B R F S d es 0 false ∧ RC w' K M Z d es 0 false ∧
  (w.heap.size ≤ C ∧ w.heap.size ≤ R ∧ w.heap.size ≤ S ∧ w.heap.size ≤ F ∧ w.heap.size ≤ B) ∧ (w.heap.size ≤ K ∧ w.heap.size ≤ Z ∧ w.heap.size ≤ M) ∧ (K ≠ C ∧ K ≠ B ∧ K ≠ R ∧ K ≠ F ∧ K ≠ S) ∧ (M ≠ C ∧ M ≠ B ∧ M ≠ R ∧ M ≠ F ∧ M ≠ S) ∧ (Z ≠ C ∧ Z ≠ B ∧ Z ≠ R ∧ Z ≠ F ∧ Z ≠ S) ∧ Below w.heap.size w w'
set_option maxRecDepth 100000 in
set_option maxHeartbeats 4000000 in
theorem begun_none (a : Int) (ha : a < 0 ∨ 5 < a) (v : Value) (E : Nat → Addr) (w : World) (hE : EC w E [1, 4]) :
    Calls Tryd.prog 51 #[.int .i64 a, v] w fun e w' => e = .returned (.tuple #[.pointer none, .pointer none, errAt E 4]) ∧ Below w.heap.size w w' := by
  have DN := Lib.hid (dnew_bad a ha E w (hE.sub (by decide)))
  have CN := Lib.hid (fun w' (hb : Below w.heap.size w w') => cnew_nil E w' ((hE.below hb).sub (by decide)))
  unfold errAt at *
  clear ha hE
  go_enter Tryd.func51, Tryd.ntmps51
  go_wp2_with (first
    | (go_at_call 118; refine DN.out.mono ?_; rintro e w1 ⟨rfl, hb1⟩)
    | (go_at_call 120; refine (CN.out _ hb1).mono ?_; rintro e w2 ⟨rfl, hb2⟩))
  go_ret3
  exact ⟨rfl, hb1.trans (hb2.mono hb1.size)⟩
set_option maxRecDepth 100000 in
set_option maxHeartbeats 8000000 in
theorem begun_ok (d : Nat) (hd4 : d ≤ 4) (v : Value) (ids : List Int) (hl : ids.length ≤ 40) (E : Nat → Addr) (w : World) (hv : ReadsInts w v ids) (he : EC w E [1]) :
    Calls Tryd.prog 51 #[.int .i64 (d : Int), v] w (BegunC d w) := by
  have hd : d ≤ 5 := by omega
  have HL := Lib.hid hl
  obtain ⟨a, cap, rfl, hx⟩ := hv.cellsOf
  have HX := Lib.hid hx
  have ND := Lib.hid (dnew_ok d hd w)
  have NR := Lib.hid (fun w' => rdnew_ok d hd w')
  have HE := Lib.hid he
  clear hv hx he
  unfold NewD at ND
  unfold NewRD at NR
  go_enter Tryd.func51, Tryd.ntmps51
  go_wp2_with (first
    | (go_at_call 118; refine ND.out.mono ?_; rintro e w1 ⟨B, R, rfl, hD, hB, hR, hb1⟩; have HD := Lib.hid hD; have lB := hD.head.lt; have lR := hD.ring.lt; clear hD)
    | (go_at_call 121; refine (NR.out _).mono ?_; rintro e w2 ⟨M, Z, rfl, hR2, hM, hZ, hb2⟩; have HD2 := Lib.hid (HD.out.below hb2); have HR2 := Lib.hid hR2; have lM := hR2.head.lt; have lZ := hR2.ring.lt; clear hR2))
  have z1 := hb1.size
  have z2 := hb2.size
  have HB := Lib.hid (hb1.trans (hb2.mono z1))
  have hMR : M ≠ R ∧ Z ≠ R ∧ M ≠ B ∧ Z ≠ B := by omega
  clear hb1 hb2
  obtain ⟨es0, hes0⟩ : ∃ es : List Int, es = List.replicate (2 ^ d) 0 := ⟨_, rfl⟩
  have hlen0 : es0.length = 2 ^ d := by rw [hes0]; simp
  have hpos0 : ∀ q, 0 ≤ gD es0 q := fun q => by rw [hes0]; unfold gD; rw [List.getD_eq_getElem?_getD, List.getElem?_replicate]; split <;> exact Int.le_refl _
  rw [← hes0] at HD2 HR2
  have HP0 := Lib.hid hpos0
  have HLn := Lib.hid hlen0
  clear hes0 hpos0 hlen0
  go_loopw [37, 13, 14] (fun v37 _ _ wr => ∃ (k : Nat) (es : List Int), k ≤ ids.length ∧ v37 = .int .i64 (k : Int) ∧ (∀ q, 0 ≤ gD es q) ∧ DW wr B R d es ∧ RD wr M Z d es ∧ Below w.heap.size w wr) (fun v37 _ _ _ => ids.length - (intOf v37).toNat)
  case atStart => exact ⟨0, es0, Nat.zero_le _, rfl, HP0.out, HD2.out, HR2.out, HB.out⟩
  case round =>
    clear HD2 HR2 HP0 HLn HB
    obtain ⟨k, es, hk, rfl, hP, hD, hR, hBW⟩ := hrel
    have HP := Lib.hid hP
    have HD := Lib.hid hD
    have HR := Lib.hid hR
    have lBr := hD.head.lt
    have lRr := hD.ring.lt
    have hes := hD.pos
    clear hP hD hR
    by_cases hlt : k < ids.length
    · obtain ⟨b, off, rfl, hc⟩ := HX.out k hlt
      have c0 := hc wr hBW
      generalize ids[k] = x at c0
      clear hc
      by_cases hput : k < es.length ∧ 0 ≤ x
      · obtain ⟨hp1, hp2⟩ := hput
        have PT := Lib.hid (dput_chg B R d es k k x rfl hp1 hp2 wr HD.out)
        have hp1' : (k : Int) < (es.length : Int) := by omega
        have HPS := Lib.hid (show ∀ q, 0 ≤ gD (es.set k x) q from fun q => by unfold gD; rw [set_getD _ _ _ _ hp1]; split; exact hp2; exact HP.out q)
        go_wp2_with (go_at_call 119; refine PT.out.mono ?_; rintro e w3 ⟨rfl, h3, c3⟩; have HD3 := Lib.hid h3; have HR3 := Lib.hid (HR.out.chg c3 hMR.1 hMR.2.1); obtain ⟨hm0, hm1⟩ := rdHead_cells HR3.out; have fz := HR3.out.ring.frozen k; have cz := HR3.out.cellD k hp1; have lz3 := HR3.out.ring.lt; clear h3)
        go_roundw
        case rel => exact ⟨k + 1, es.set k x, by omega, by go_num, HPS.out, ⟨HD3.out.head.other hMR.2.2.2.symm _ _, HD3.out.ring.other hMR.2.1.symm _ _, HD3.out.ne, HD3.out.deep, HD3.out.len⟩, HR3.out.set k x, (hBW.trans (c3.below (n := w.heap.size) hBW.size (fun k hk e => by omega))).setCell (p := ⟨Z, k, none⟩) (by simp; omega) _⟩
        case measure => simp [intOf]; omega
      · have PT := Lib.hid (dput_bad B R d es k x (by omega) E wr HD.out (HE.out.below hBW))
        unfold errAt at PT
        clear hput
        go_wp2_with (go_at_call 119; refine PT.out.mono ?_; rintro e w3 ⟨rfl, hb3⟩)
        go_roundw
        case rel => exact ⟨k + 1, es, by omega, by go_num, HP.out, HD.out.below hb3, HR.out.below hb3, hBW.trans (hb3.mono hBW.size)⟩
        case measure => simp [intOf]; omega
    · obtain rfl : k = ids.length := by omega
      have CN := cnew_ok B R d es hd4 HP.out wr HD.out
      unfold NewC at CN
      replace CN := Lib.hid CN
      go_wp2_with (go_at_call 120; refine CN.out.mono ?_; rintro e w4 ⟨C, F, S, rfl, h4, hC, hF, hS, hb4⟩; have H4 := Lib.hid h4; clear h4)
      go_ret3
      have hh := H4.out
      have l1 := hh.head.lt
      have l2 := hh.old.head.lt
      have l3 := hh.old.ring.lt
      have l4 := hh.fresh.head.lt
      have l5 := hh.fresh.ring.lt
      have hr := HR.out.below hb4
      have l6 := HR.out.head.lt
      have l7 := HR.out.ring.lt
      have l8 := hr.head.lt
      have l9 := hr.ring.lt
      have z4 := hb4.size
      have zz := hBW.size
      have hal : Below w4.heap.size w4 (w4.alloc (.cells (rHead M 0 false) 102)) := (Below.refl _ _).alloc (Nat.le_refl _) _
      exact ⟨C, B, R, F, S, w4.heap.size, M, Z, es, rfl, hh.below hal, ⟨Blk.new _ _ _, hr.below hal, Nat.zero_le _, by omega, by omega⟩, by omega, by omega, by omega, by omega, by omega, (hBW.trans (hb4.mono zz)).alloc (by omega) _⟩
set_option maxRecDepth 100000 in
set_option maxHeartbeats 8000000 in
theorem begun_deep (v : Value) (ids : List Int) (hl : ids.length ≤ 40) (E : Nat → Addr) (w : World) (hv : ReadsInts w v ids) (he : EC w E [1]) :
    Calls Tryd.prog 51 #[.int .i64 5, v] w fun e w' => ∃ K, e = .returned (.tuple #[.pointer none, .pointer (some ⟨K, 0, none⟩), errAt E 1]) ∧ Below w.heap.size w w' := by
  obtain ⟨d, hd5⟩ : ∃ d : Nat, d = 5 := ⟨_, rfl⟩
  have hd : d ≤ 5 := by omega
  rw [show (5 : Int) = (d : Int) by omega]
  replace hd5 := Lib.hid hd5
  have HL := Lib.hid hl
  obtain ⟨a, cap, rfl, hx⟩ := hv.cellsOf
  have HX := Lib.hid hx
  have ND := Lib.hid (dnew_ok d hd w)
  have NR := Lib.hid (fun w' => rdnew_ok d hd w')
  have HE := Lib.hid he
  clear hv hx he
  unfold NewD at ND
  unfold NewRD at NR
  go_enter Tryd.func51, Tryd.ntmps51
  go_wp2_with (first
    | (go_at_call 118; refine ND.out.mono ?_; rintro e w1 ⟨B, R, rfl, hD, hB, hR, hb1⟩; have HD := Lib.hid hD; have lB := hD.head.lt; have lR := hD.ring.lt; clear hD)
    | (go_at_call 121; refine (NR.out _).mono ?_; rintro e w2 ⟨M, Z, rfl, hR2, hM, hZ, hb2⟩; have HD2 := Lib.hid (HD.out.below hb2); have HR2 := Lib.hid hR2; have lM := hR2.head.lt; have lZ := hR2.ring.lt; clear hR2))
  have z1 := hb1.size
  have z2 := hb2.size
  have HB := Lib.hid (hb1.trans (hb2.mono z1))
  have hMR : M ≠ R ∧ Z ≠ R ∧ M ≠ B ∧ Z ≠ B := by omega
  clear hb1 hb2
  obtain ⟨es0, hes0⟩ : ∃ es : List Int, es = List.replicate (2 ^ d) 0 := ⟨_, rfl⟩
  have hlen0 : es0.length = 2 ^ d := by rw [hes0]; simp
  have hpos0 : ∀ q, 0 ≤ gD es0 q := fun q => by rw [hes0]; unfold gD; rw [List.getD_eq_getElem?_getD, List.getElem?_replicate]; split <;> exact Int.le_refl _
  rw [← hes0] at HD2 HR2
  have HP0 := Lib.hid hpos0
  have HLn := Lib.hid hlen0
  clear hes0 hpos0 hlen0
  go_loopw [37, 13, 14] (fun v37 _ _ wr => ∃ (k : Nat) (es : List Int), k ≤ ids.length ∧ v37 = .int .i64 (k : Int) ∧ (∀ q, 0 ≤ gD es q) ∧ DW wr B R d es ∧ RD wr M Z d es ∧ Below w.heap.size w wr) (fun v37 _ _ _ => ids.length - (intOf v37).toNat)
  case atStart => exact ⟨0, es0, Nat.zero_le _, rfl, HP0.out, HD2.out, HR2.out, HB.out⟩
  case round =>
    clear HD2 HR2 HP0 HLn HB
    obtain ⟨k, es, hk, rfl, hP, hD, hR, hBW⟩ := hrel
    have HP := Lib.hid hP
    have HD := Lib.hid hD
    have HR := Lib.hid hR
    have lBr := hD.head.lt
    have lRr := hD.ring.lt
    have hes := hD.pos
    clear hP hD hR
    by_cases hlt : k < ids.length
    · obtain ⟨b, off, rfl, hc⟩ := HX.out k hlt
      have c0 := hc wr hBW
      generalize ids[k] = x at c0
      clear hc
      by_cases hput : k < es.length ∧ 0 ≤ x
      · obtain ⟨hp1, hp2⟩ := hput
        have PT := Lib.hid (dput_chg B R d es k k x rfl hp1 hp2 wr HD.out)
        have hp1' : (k : Int) < (es.length : Int) := by omega
        have HPS := Lib.hid (show ∀ q, 0 ≤ gD (es.set k x) q from fun q => by unfold gD; rw [set_getD _ _ _ _ hp1]; split; exact hp2; exact HP.out q)
        go_wp2_with (go_at_call 119; refine PT.out.mono ?_; rintro e w3 ⟨rfl, h3, c3⟩; have HD3 := Lib.hid h3; have HR3 := Lib.hid (HR.out.chg c3 hMR.1 hMR.2.1); obtain ⟨hm0, hm1⟩ := rdHead_cells HR3.out; have fz := HR3.out.ring.frozen k; have cz := HR3.out.cellD k hp1; have lz3 := HR3.out.ring.lt; clear h3)
        go_roundw
        case rel => exact ⟨k + 1, es.set k x, by omega, by go_num, HPS.out, ⟨HD3.out.head.other hMR.2.2.2.symm _ _, HD3.out.ring.other hMR.2.1.symm _ _, HD3.out.ne, HD3.out.deep, HD3.out.len⟩, HR3.out.set k x, (hBW.trans (c3.below (n := w.heap.size) hBW.size (fun k hk e => by omega))).setCell (p := ⟨Z, k, none⟩) (by simp; omega) _⟩
        case measure => simp [intOf]; omega
      · have PT := Lib.hid (dput_bad B R d es k x (by omega) E wr HD.out (HE.out.below hBW))
        unfold errAt at PT
        clear hput
        go_wp2_with (go_at_call 119; refine PT.out.mono ?_; rintro e w3 ⟨rfl, hb3⟩)
        go_roundw
        case rel => exact ⟨k + 1, es, by omega, by go_num, HP.out, HD.out.below hb3, HR.out.below hb3, hBW.trans (hb3.mono hBW.size)⟩
        case measure => simp [intOf]; omega
    · obtain rfl : k = ids.length := by omega
      have hDc := HD.out
      rw [hd5.out] at hDc
      have CN := Lib.hid (cnew_deep B R es E wr hDc (HE.out.below hBW))
      unfold errAt at CN
      clear hDc
      go_wp2_with (go_at_call 120; refine CN.out.mono ?_; rintro e w4 ⟨rfl, hb4⟩)
      go_ret3
      exact ⟨w4.heap.size, rfl, (hBW.trans (hb4.mono hBW.size)).alloc (by have := hBW.size; have := hb4.size; omega) _⟩
end Go.Proofs.YtplimhllfbdocaaDoor
