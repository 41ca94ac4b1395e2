/- The walk of MeterLast. Condition: the errors' cells. -/
import Derived.Test.YtplimhllfbdocaaDoorMeterActs
namespace Go.Proofs.YtplimhllfbdocaaDoor
set_option linter.unusedVariables false
set_option linter.unusedSimpArgs false
open Go.RowKit Go.Proofs

/-- no count has come to its end; the last counts are since t -/
structure LI (m : MeterS) (limit t0 t1 t2 : Int) (i : Nat) : Prop where
  b0 : 0 ≤ t0 ∧ t0 ≤ m.a0 ∧ m.a0 ≤ 50 * i
  b1 : 0 ≤ t1 ∧ t1 ≤ m.a1 ∧ m.a1 ≤ 50 * i
  b2 : 0 ≤ t2 ∧ t2 ≤ m.a2 ∧ m.a2 ≤ 1073741824 * i
  e0 : m.l0 = m.a0 - t0
  e1 : m.l1 = m.a1 - t1
  e2 : m.l2 = m.a2 - t2
  lt : m.limited = decide (0 ≤ limit)
  le : m.limit = limit
  lb : 0 ≤ limit → m.l2 ≤ limit
theorem LI.later {m : MeterS} {limit t0 t1 t2 : Int} {i : Nat} (h : LI m limit t0 t1 t2 i) : LI m limit t0 t1 t2 (i + 1) := by
  obtain ⟨b0, b1, b2, e0, e1, e2, lt, le, lb⟩ := h
  exact ⟨by omega, by omega, by omega, e0, e1, e2, lt, le, lb⟩
theorem LI.mok {m : MeterS} {limit t0 t1 t2 : Int} {i : Nat} (h : LI m limit t0 t1 t2 i) (hi : i ≤ 60) (hl : limit ≤ 9223372036854775807) : MOK m := by
  obtain ⟨b0, b1, b2, e0, e1, e2, lt, le, lb⟩ := h
  exact ⟨by omega, by omega, by omega, by omega, by omega, by omega, fun h => by rw [lt] at h; have := of_decide_eq_true h; omega⟩
theorem LI.step {m : MeterS} {limit t0 t1 t2 : Int} {i : Nat} (h : LI m limit t0 t1 t2 i) (hi : i ≤ 60) (k n : Int) (k3 : k ≠ 3) (k4 : k ≠ 4) (h2 : k = 2 → n ≤ 1073741824) : LI (doS m k n) limit t0 t1 t2 (i + 1) := by
  have hh := h
  obtain ⟨b0, b1, b2, e0, e1, e2, lt, le, lb⟩ := h
  by_cases k0 : k = 0
  · subst k0
    have hc := cntZ_le n
    rw [doS_0]
    have s0 : sumZ m.a0 (cntZ n : Int) = m.a0 + cntZ n := sumZ_add (by omega) (by omega) (by omega)
    have s1 : sumZ m.a1 0 = m.a1 := sumZ_zero (by omega)
    have s2 : sumZ m.a2 0 = m.a2 := sumZ_zero (by omega)
    have u0 : sumZ m.l0 (cntZ n : Int) = m.l0 + cntZ n := sumZ_add (by omega) (by omega) (by omega)
    have u1 : sumZ m.l1 0 = m.l1 := sumZ_zero (by omega)
    have u2 : sumZ m.l2 0 = m.l2 := sumZ_zero (by omega)
    unfold MeterS.add
    rw [s0, s1, s2, u0, u1, u2]
    exact ⟨by dsimp only; omega, by dsimp only; omega, by dsimp only; omega, by dsimp only; omega, by dsimp only; omega, by dsimp only; omega, lt, le, lb⟩
  by_cases k1 : k = 1
  · subst k1
    have hc := cntZ_le n
    rw [doS_1]
    have s0 : sumZ m.a1 (cntZ n : Int) = m.a1 + cntZ n := sumZ_add (by omega) (by omega) (by omega)
    have s1 : sumZ m.a0 0 = m.a0 := sumZ_zero (by omega)
    have s2 : sumZ m.a2 0 = m.a2 := sumZ_zero (by omega)
    have u0 : sumZ m.l1 (cntZ n : Int) = m.l1 + cntZ n := sumZ_add (by omega) (by omega) (by omega)
    have u1 : sumZ m.l0 0 = m.l0 := sumZ_zero (by omega)
    have u2 : sumZ m.l2 0 = m.l2 := sumZ_zero (by omega)
    unfold MeterS.add
    rw [s0, s1, s2, u0, u1, u2]
    exact ⟨by dsimp only; omega, by dsimp only; omega, by dsimp only; omega, by dsimp only; omega, by dsimp only; omega, by dsimp only; omega, lt, le, lb⟩
  by_cases k2 : k = 2
  · subst k2
    have hn := h2 rfl
    rw [doS_2]
    split
    · exact hh.later
    · rename_i hc
      have hc1 : 1 ≤ n := by
        by_cases q : n < 1
        · exact (hc (.inl q)).elim
        · omega
      have hc2 : 0 ≤ limit → m.l2 + n ≤ limit := fun h0 => by
        have : ¬ (m.limit - m.l2 < n) := fun q => hc (.inr ⟨by rw [lt]; simpa using h0, q⟩)
        omega
      have s0 : sumZ m.a2 n = m.a2 + n := sumZ_add (by omega) (by omega) (by omega)
      have s1 : sumZ m.a0 0 = m.a0 := sumZ_zero (by omega)
      have s2 : sumZ m.a1 0 = m.a1 := sumZ_zero (by omega)
      have u0 : sumZ m.l2 n = m.l2 + n := sumZ_add (by omega) (by omega) (by omega)
      have u1 : sumZ m.l0 0 = m.l0 := sumZ_zero (by omega)
      have u2 : sumZ m.l1 0 = m.l1 := sumZ_zero (by omega)
      unfold MeterS.add
      rw [s0, s1, s2, u0, u1, u2]
      exact ⟨by dsimp only; omega, by dsimp only; omega, by dsimp only; omega, by dsimp only; omega, by dsimp only; omega, by dsimp only; omega, lt, le, hc2⟩
  rw [doS_none m k n (by omega)]
  exact hh.later
theorem LI.reset {m : MeterS} {limit t0 t1 t2 : Int} {i : Nat} (h : LI m limit t0 t1 t2 i) (n : Int) : LI (doS m 3 n) limit m.a0 m.a1 m.a2 (i + 1) := by
  obtain ⟨b0, b1, b2, e0, e1, e2, lt, le, lb⟩ := h
  rw [doS_3]
  exact ⟨by dsimp only; omega, by dsimp only; omega, by dsimp only; omega, by dsimp only; omega, by dsimp only; omega, by dsimp only; omega, lt, le, fun h => h⟩
def cntC (t0 t1 t2 : Int) : Array Value := #[.int .i64 t0, .int .i64 t1, .int .i64 t2]
theorem cntC_cells {w : World} {B : Nat} {T : TypeId} {x y z : Int} (h : Blk w B T (cntC x y z)) : w.cell? ⟨B, 0, none⟩ = some (.int .i64 x) ∧ w.cell? ⟨B, 1, none⟩ = some (.int .i64 y) ∧ w.cell? ⟨B, 2, none⟩ = some (.int .i64 z) := ⟨h.cell 0, h.cell 1, h.cell 2⟩

set_option maxRecDepth 100000 in
set_option maxHeartbeats 16000000 in
theorem meterLast_law (v : Value) (n0 : Nat) (f : Nat → Nat → Int) (limit : Int) (hlim : limit ≤ 9223372036854775807) (E : Nat → Addr) (w0 : World) (he : ErrsAre w0 E) (h1 : RowsAt w0 v n0 2 .i64 f) :
    Calls Tryd.prog 7 #[v, .int .i64 limit] w0 fun e w' => e = .returned (.bool true) ∧ Below w0.heap.size w0 w' := by
  have m1 := h1.2.2
  have hwf := Lib.hid h1.2.1
  obtain ⟨a, cap, rfl, hx⟩ := h1.cellAt (by decide)
  unfold maxLen at m1
  have HE := Lib.hid he
  have HX := Lib.hid hx
  clear h1 hx he
  by_cases g1 : 60 < n0
  · have g1' : (60 : Int) < (n0 : Int) := by omega
    go_enter Tryd.func7, Tryd.ntmps7
    go_wp2_with (go_at_call 41; refine (alive06_any _).mono ?_; rintro e w1 ⟨rfl, hb1⟩)
    go_ret
    exact ⟨rfl, hb1⟩
  have g1' : (n0 : Int) ≤ 60 := by omega
  go_enter Tryd.func7, Tryd.ntmps7
  go_wp2_with (first
    | (go_at_call 41; refine (alive06_any _).mono ?_; rintro e w1 ⟨rfl, hb1⟩)
    | (go_at_call 48; refine (meterLimit_any MeterS.zero _ _ 64 _ (Blk.new w1 _ _)).mono ?_; rintro e w2 ⟨rfl, h2, c2⟩; have H2 := Lib.hid h2; clear h2)
    | (go_at_call 45; refine (meterAll_any _ _ 64 _ H2.out).mono ?_; rintro e w3 ⟨rfl, hb3⟩; have H3 := Lib.hid (H2.out.below hb3 H2.out.lt)))
  obtain ⟨B, hB⟩ : ∃ B, B = w1.heap.size := ⟨_, rfl⟩
  obtain ⟨T, hT⟩ : ∃ T, T = w3.heap.size := ⟨_, rfl⟩
  have hz1 := hb1.size
  have hz2 := c2.size
  have hz3 := hb3.size
  simp only [World.size_alloc] at hz2
  have hb2 : Below w0.heap.size w0 w2 := (hb1.alloc hz1 _).trans (c2.below (n := w0.heap.size) (by simp; omega) (fun k hk e => by omega))
  have q0 : Blk (w3.alloc (.cells (cntC 0 0 0) 62)) B 64 { MeterS.zero with limited := decide (0 ≤ limit), limit := limit : MeterS }.cells := by rw [hB]; exact H3.out.alloc _
  have t0 : Blk (w3.alloc (.cells (cntC 0 0 0) 62)) T 62 (cntC 0 0 0) := by rw [hT]; exact Blk.new _ _ _
  have Q0 := Lib.hid q0
  have T0 := Lib.hid t0
  have L0 := Lib.hid (show LI { MeterS.zero with limited := decide (0 ≤ limit), limit := limit : MeterS } limit 0 0 0 0 from ⟨⟨Int.le_refl 0, Int.le_refl 0, show (0 : Int) ≤ 50 * ((0 : Nat) : Int) by decide⟩, ⟨Int.le_refl 0, Int.le_refl 0, show (0 : Int) ≤ 50 * ((0 : Nat) : Int) by decide⟩, ⟨Int.le_refl 0, Int.le_refl 0, show (0 : Int) ≤ 1073741824 * ((0 : Nat) : Int) by decide⟩, rfl, rfl, rfl, rfl, rfl, fun h => h⟩)
  have BW := Lib.hid (show Below w0.heap.size w0 (w3.alloc (.cells (cntC 0 0 0) 62)) from (hb2.trans (hb3.mono hb2.size)).alloc (by have := hb2.size; omega) _)
  have hB0 : w0.heap.size ≤ B := by omega
  have hT0 : w0.heap.size ≤ T := by have := hb2.size; omega
  have hTB : T ≠ B := by omega
  rw [← hT, ← hB]
  clear hB hT q0 t0 hb1 hb2 hb3 hz1 hz2 hz3 c2 H2 H3
  go_loopw [24] (fun v24 wr => ∃ (k : Nat) (m : MeterS) (t0 t1 t2 : Int), k ≤ n0 ∧ v24 = .int .i64 (k : Int) ∧ LI m limit t0 t1 t2 k ∧ Blk wr B 64 m.cells ∧ Blk wr T 62 (cntC t0 t1 t2) ∧ Below w0.heap.size w0 wr) (fun v24 _ => n0 - (intOf v24).toNat)
  case atStart => exact ⟨0, _, 0, 0, 0, Nat.zero_le _, rfl, L0.out, Q0.out, T0.out, BW.out⟩
  case round =>
    clear Q0 T0 BW L0
    obtain ⟨i, m, t0, t1, t2, hi, rfl, hL, hQ, hT, hBW⟩ := hrel
    have HL := Lib.hid hL
    have HM := Lib.hid (hL.mok (by omega) hlim)
    have HQ := Lib.hid hQ
    have HT := Lib.hid hT
    have hQl := hQ.lt
    have hTl := hT.lt
    clear hL hQ hT
    by_cases hlt : i < n0
    · obtain ⟨b, off, rfl, hbz, hcells⟩ := HX.out (by omega)
      have c0 : wr.cell? ⟨b, off + i * 2, none⟩ = some (.int .i64 (f i 0)) := by simpa using hcells wr hBW i hlt 0 (by decide)
      have c1 : wr.cell? ⟨b, off + i * 2 + 1, none⟩ = some (.int .i64 (f i 1)) := by simpa [Nat.add_assoc] using hcells wr hBW i hlt 1 (by decide)
      have wf1 := i64_bd (hwf.out i hlt 1 (by decide))
      generalize f i 0 = k at c0
      generalize f i 1 = n at c1 wf1
      clear hcells
      have hAct0 := Lib.hid (show Blk (wr.alloc (.cells #[.int .i64 k, .int .i64 n] 71)) wr.heap.size 71 #[.int .i64 k, .int .i64 n] from Blk.new _ _ _)
      have hAB : ¬ wr.heap.size = B := by omega
      have hBA := Lib.hid (hBW.alloc hBW.size (.cells #[.int .i64 k, .int .i64 n] 71))
      have hTA := Lib.hid (HT.out.alloc (.cells #[.int .i64 k, .int .i64 n] 71))
      have hQA := Lib.hid (HQ.out.alloc (.cells #[.int .i64 k, .int .i64 n] 71))
      by_cases k4 : k = 4
      · subst k4
        go_wp2
        go_roundw
        case rel => exact ⟨i + 1, m, t0, t1, t2, by omega, by go_num, HL.out.later, hQA.out, hTA.out, hBA.out⟩
        case measure => simp [intOf]; omega
      have e4 : (k == 4) = false := by simpa using k4
      have DO := Lib.hid (do_any m HM.out k n B E w0 _ hQA.out HE.out hB0 hBA.out)
      by_cases k2 : k = 2
      · subst k2
        have ST := Lib.hid (fun h => HL.out.step (by omega) 2 n (by decide) (by decide) (fun _ => h))
        generalize doS m 2 n = m' at *
        generalize doBad m 2 n = p at *
        by_cases c1 : 1000 < n ∧ limit < 0
        · obtain ⟨x1, x2⟩ := c1
          go_wp2
          go_ret
          exact ⟨rfl, hBA.out⟩
        by_cases c2 : 1073741824 < n
        · have x2 : ¬ (limit < 0) := by omega
          clear c1
          go_wp2
          go_ret
          exact ⟨rfl, hBA.out⟩
        by_cases c3 : 1073741824 < limit
        · clear c1
          by_cases x1 : 1000 < n
          · go_wp2
            go_ret
            exact ⟨rfl, hBA.out⟩
          · go_wp2
            go_ret
            exact ⟨rfl, hBA.out⟩
        have HL2 := Lib.hid (ST.out (by omega))
        by_cases x1 : 1000 < n
        · have hl0 : 0 ≤ limit := by omega
          clear c1 ST
          go_upto_region 19 with (go_at_call 43; refine DO.out.mono ?_; rintro e w5 ⟨rfl, h5, c5⟩; have HQt := Lib.hid h5; have a0 := (hAct0.out.chg c5 hAB).cell 0; clear h5)
          have HTt := Lib.hid (hTA.out.chg c5 hTB)
          have HBt := Lib.hid (hBA.out.trans (c5.below (n := w0.heap.size) hBA.out.size (fun k hk e => by omega)))
          clear DO c5
          go_upto_region 20 with (go_at_call 45; refine (meterAll_any m' B 64 _ HQt.out).mono ?_; rintro e w7 ⟨rfl, hb7⟩)
          have hQ7 := HQt.out.below hb7 HQt.out.lt
          have hT7 := HTt.out.below hb7 HTt.out.lt
          have hB7 := HBt.out.trans (hb7.mono HBt.out.size)
          have hz7 := hB7.size
          refine wp_at (fun w hW => ?_)
          have HQw := Lib.hid (show Blk w B 64 m'.cells by rw [hW]; exact hQ7.alloc _)
          have HTw := Lib.hid (show Blk w T 62 (cntC t0 t1 t2) by rw [hW]; exact hT7.alloc _)
          have HBw := Lib.hid (show Below w0.heap.size w0 w by rw [hW]; exact hB7.alloc hz7 _)
          have HNw := Lib.hid (show Blk w w7.heap.size 62 (cntC m'.a0 m'.a1 m'.a2) by rw [hW]; exact Blk.new _ _ _)
          clear hW hQ7 hT7 hB7 hz7 hb7 HQt HTt HBt
          obtain ⟨N, hN⟩ : ∃ N, N = w7.heap.size := ⟨_, rfl⟩
          rw [← hN] at HNw ⊢
          clear hN
          obtain ⟨s0, s1, s2⟩ := cntC_cells HTw.out
          obtain ⟨y0, y1, y2⟩ := cntC_cells HNw.out
          have hzT := HTw.out.lt
          have hzN := HNw.out.lt
          have x0 : IntKind.i64.wrap (m'.a0 - t0) = m'.l0 := by have h := HL2.out; rw [h.e0]; exact IntWalk.i64_in _ (by have := h.b0; omega)
          have x1' : IntKind.i64.wrap (m'.a1 - t1) = m'.l1 := by have h := HL2.out; rw [h.e1]; exact IntWalk.i64_in _ (by have := h.b1; omega)
          have x2' : IntKind.i64.wrap (m'.a2 - t2) = m'.l2 := by have h := HL2.out; rw [h.e2]; exact IntWalk.i64_in _ (by have := h.b2; omega)
          have LB := Lib.hid HL2.out.lb
          have hfu := field_units
          replace HQw := Lib.hid (Blk.drew HQw.out)
          have d0 : decide (limit ≥ 0) = true := by simpa using hl0
          have d1 : decide (m'.l2 > limit) = false := by have := LB.out hl0; simp; omega
          refine wp_region_seq (fun _ => False) #[⟨0, 0, 36893488147419103232, 32, 0⟩, ⟨1, 1, 73786976294838206464, 36893488147419103232, 2⟩, ⟨0, 0, 147573952589676412928, 512, 0⟩, ⟨4, 4, 295147905179352825856, 147573952589676412928, 1⟩, ⟨0, 0, 590295810358705651712, 64, 0⟩, ⟨16, 16, 1180591620717411303424, 590295810358705651712, 1⟩, ⟨40, 60, 2361183241434822606848, 1475739525896764129280, 0⟩, ⟨0, 0, 4722366482869645213696, 512, 0⟩, ⟨128, 128, 9444732965739290427392, 4722366482869645213696, 1⟩, ⟨0, 0, 18889465931478580854784, 64, 0⟩, ⟨512, 512, 37778931862957161709568, 18889465931478580854784, 1⟩, ⟨1280, 1920, 75557863725914323419136, 47223664828696452136960, 0⟩, ⟨0, 0, 151115727451828646838272, 512, 0⟩, ⟨4096, 4096, 302231454903657293676544, 151115727451828646838272, 1⟩, ⟨0, 0, 604462909807314587353088, 64, 0⟩, ⟨16384, 16384, 1208925819614629174706176, 604462909807314587353088, 1⟩, ⟨40960, 61440, 2417851639229258349412352, 1511157274518286468382720, 0⟩, ⟨67648, 131068, 4835703278458516698824704, 2495770686196607495438336, 0⟩, ⟨131074, 262143, 9671406556917033397649408, 4835777065434811537031168, 0⟩, ⟨262146, 524287, 19342813113834066795298816, 9671406556917033397649408, 0⟩, ⟨524288, 1048575, 38685626227668133590597632, 19342813113834066795298818, 0⟩, ⟨1572864, 2097151, 77371252455336267181195264, 58028439341502200385896448, 0⟩, ⟨2621440, 4194303, 154742504910672534362390528, 96714065569170333976494080, 0⟩, ⟨4194304, 8388607, 309485009821345068724781056, 154742504910672534362390560, 0⟩, ⟨12582912, 16777215, 618970019642690137449562112, 464227514732017603087171584, 3⟩, ⟨20971520, 33554431, 1237940039285380274899124224, 773712524553362671811952640, 0⟩, ⟨4194304, 8388607, 2475880078570760549798248448, 154742504910672534362390530, 0⟩, ⟨104857600, 134217727, 4951760157141521099596496896, 3868562622766813359059763200, 0⟩, ⟨138936320, 268435455, 9903520314283042199192993792, 5125845475166027700754186240, 0⟩, ⟨268959744, 536870911, 19807040628566084398385987584, 9922863127396876265988292608, 0⟩] 42280 [(0, 0), (2, 0), (3, 1), (4, 0), (5, 1), (6, 0), (7, 0), (8, 1), (9, 0), (10, 1), (11, 0), (12, 0), (13, 1), (14, 0), (15, 1), (16, 0), (17, 0), (1, 2), (18, 0), (19, 0), (20, 0), (21, 0), (22, 0), (23, 0), (26, 0), (24, 3), (25, 0), (27, 0), (28, 0), (29, 0)] (by kernel_rfl) (by kernel_rfl) (by kernel_rfl) (by kernel_rfl) (by kernel_rfl) (by kernel_rfl) (fun c a d v w h => by cases d <;> exact h) ?_
          refine seq_calc (by simp only [List.getElem?_toArray, List.getElem?_cons_succ, List.getElem?_cons_zero]; rfl) (by rfl) (fun u => by go_simp <;> with_reducible rfl) ?_
          try simp only [Act.put, List.setIfInBounds_toArray, List.set_cons_zero, List.set_cons_succ]
          refine seq_calc (by simp only [List.getElem?_toArray, List.getElem?_cons_succ, List.getElem?_cons_zero]; rfl) (by rfl) (fun u => by go_simp <;> with_reducible rfl) ?_
          try simp only [Act.put, List.setIfInBounds_toArray, List.set_cons_zero, List.set_cons_succ]
          refine seq_load1 (by simp only [List.getElem?_toArray, List.getElem?_cons_succ, List.getElem?_cons_zero]; rfl) (by rfl) rfl rfl Tryd.underlying3 rfl (by go_simp <;> with_reducible rfl) (by first | exact id | assumption | (simp; done) | (simp; omega)) ?_
          try simp only [Act.put, List.setIfInBounds_toArray, List.set_cons_zero, List.set_cons_succ]
          refine seq_calc (by simp only [List.getElem?_toArray, List.getElem?_cons_succ, List.getElem?_cons_zero]; rfl) (by rfl) (fun u => by go_simp <;> with_reducible rfl) ?_
          try simp only [Act.put, List.setIfInBounds_toArray, List.set_cons_zero, List.set_cons_succ]
          refine seq_load1 (by simp only [List.getElem?_toArray, List.getElem?_cons_succ, List.getElem?_cons_zero]; rfl) (by rfl) rfl rfl Tryd.underlying3 rfl (by go_simp <;> with_reducible rfl) (by first | exact id | assumption | (simp; done) | (simp; omega)) ?_
          try simp only [Act.put, List.setIfInBounds_toArray, List.set_cons_zero, List.set_cons_succ]
          refine seq_calc (by simp only [List.getElem?_toArray, List.getElem?_cons_succ, List.getElem?_cons_zero]; rfl) (by rfl) (fun u => by go_simp <;> with_reducible rfl) ?_
          try simp only [Act.put, List.setIfInBounds_toArray, List.set_cons_zero, List.set_cons_succ]
          refine seq_calc (by simp only [List.getElem?_toArray, List.getElem?_cons_succ, List.getElem?_cons_zero]; rfl) (by rfl) (fun u => by go_simp <;> with_reducible rfl) ?_
          try simp only [Act.put, List.setIfInBounds_toArray, List.set_cons_zero, List.set_cons_succ]
          refine seq_load1 (by simp only [List.getElem?_toArray, List.getElem?_cons_succ, List.getElem?_cons_zero]; rfl) (by rfl) rfl rfl Tryd.underlying3 rfl (by go_simp <;> with_reducible rfl) (by first | exact id | assumption | (simp; done) | (simp; omega)) ?_
          try simp only [Act.put, List.setIfInBounds_toArray, List.set_cons_zero, List.set_cons_succ]
          refine seq_calc (by simp only [List.getElem?_toArray, List.getElem?_cons_succ, List.getElem?_cons_zero]; rfl) (by rfl) (fun u => by go_simp <;> with_reducible rfl) ?_
          try simp only [Act.put, List.setIfInBounds_toArray, List.set_cons_zero, List.set_cons_succ]
          refine seq_load1 (by simp only [List.getElem?_toArray, List.getElem?_cons_succ, List.getElem?_cons_zero]; rfl) (by rfl) rfl rfl Tryd.underlying3 rfl (by go_simp <;> with_reducible rfl) (by first | exact id | assumption | (simp; done) | (simp; omega)) ?_
          try simp only [Act.put, List.setIfInBounds_toArray, List.set_cons_zero, List.set_cons_succ]
          refine seq_calc (by simp only [List.getElem?_toArray, List.getElem?_cons_succ, List.getElem?_cons_zero]; rfl) (by rfl) (fun u => by go_simp <;> with_reducible rfl) ?_
          try simp only [Act.put, List.setIfInBounds_toArray, List.set_cons_zero, List.set_cons_succ]
          refine seq_calc (by simp only [List.getElem?_toArray, List.getElem?_cons_succ, List.getElem?_cons_zero]; rfl) (by rfl) (fun u => by go_simp <;> with_reducible rfl) ?_
          try simp only [Act.put, List.setIfInBounds_toArray, List.set_cons_zero, List.set_cons_succ]
          refine seq_load1 (by simp only [List.getElem?_toArray, List.getElem?_cons_succ, List.getElem?_cons_zero]; rfl) (by rfl) rfl rfl Tryd.underlying3 rfl (by go_simp <;> with_reducible rfl) (by first | exact id | assumption | (simp; done) | (simp; omega)) ?_
          try simp only [Act.put, List.setIfInBounds_toArray, List.set_cons_zero, List.set_cons_succ]
          refine seq_calc (by simp only [List.getElem?_toArray, List.getElem?_cons_succ, List.getElem?_cons_zero]; rfl) (by rfl) (fun u => by go_simp <;> with_reducible rfl) ?_
          try simp only [Act.put, List.setIfInBounds_toArray, List.set_cons_zero, List.set_cons_succ]
          refine seq_load1 (by simp only [List.getElem?_toArray, List.getElem?_cons_succ, List.getElem?_cons_zero]; rfl) (by rfl) rfl rfl Tryd.underlying3 rfl (by go_simp <;> with_reducible rfl) (by first | exact id | assumption | (simp; done) | (simp; omega)) ?_
          try simp only [Act.put, List.setIfInBounds_toArray, List.set_cons_zero, List.set_cons_succ]
          refine seq_calc (by simp only [List.getElem?_toArray, List.getElem?_cons_succ, List.getElem?_cons_zero]; rfl) (by rfl) (fun u => by go_simp <;> with_reducible rfl) ?_
          try simp only [Act.put, List.setIfInBounds_toArray, List.set_cons_zero, List.set_cons_succ]
          refine seq_calc (by simp only [List.getElem?_toArray, List.getElem?_cons_succ, List.getElem?_cons_zero]; rfl) (by rfl) (fun u => by go_simp <;> with_reducible rfl) ?_
          try simp only [Act.put, List.setIfInBounds_toArray, List.set_cons_zero, List.set_cons_succ]
          refine seq_do (by simp only [List.getElem?_toArray, List.getElem?_cons_succ, List.getElem?_cons_zero]; rfl) (by rfl) (fun K hK => ?_); go_wp2_with (go_at_call 46; refine (meterLast_any m' B 64 _ HQw.out).mono ?_; rintro e w1 ⟨rfl, hb1⟩; replace HQw := Lib.hid (HQw.out.below hb1 HQw.out.lt); have hB1 : Below w.heap.size w w1 := (by first | exact hB1.trans (hb1.mono hB1.size) | exact hB1.trans (Below.undrew (hb1.mono hB1.size)) | exact hb1 | exact Below.trans (by go_grown) (hb1.mono (by simp <;> omega))); have hcT := fun (o : Nat) => hb1.cell (p := ⟨T, o, none⟩) (by first | assumption | (simp <;> omega)); have hfT := fun (o : Nat) => hb1.frozen (p := ⟨T, o, none⟩) (by first | assumption | (simp <;> omega)); have hzT : T < w1.heap.size := Nat.lt_of_lt_of_le (by first | assumption | (simp <;> omega)) hb1.size; have hcN := fun (o : Nat) => hb1.cell (p := ⟨N, o, none⟩) (by first | assumption | (simp <;> omega)); have hfN := fun (o : Nat) => hb1.frozen (p := ⟨N, o, none⟩) (by first | assumption | (simp <;> omega)); have hzN : N < w1.heap.size := Nat.lt_of_lt_of_le (by first | assumption | (simp <;> omega)) hb1.size); refine hK.out _ _ (by first | (with_reducible exact Chg.refl _ _) | (with_reducible assumption) | (refine Chg.of_below ?_; with_reducible assumption) | (with_reducible exact (Chg.refl _ _).alloc _) | (with_reducible exact (Chg.refl _ _).drewN _) | (with_reducible exact (Chg.refl _ _).drew) | exact ⟨rfl, rfl, rfl, Nat.le_refl _, fun _ _ _ => rfl⟩) ?_; clear hK K
          try simp only [Act.put, List.setIfInBounds_toArray, List.set_cons_zero, List.set_cons_succ]
          refine seq_calc (by simp only [List.getElem?_toArray, List.getElem?_cons_succ, List.getElem?_cons_zero]; rfl) (by rfl) (fun u => by go_simp <;> with_reducible rfl) ?_
          try simp only [Act.put, List.setIfInBounds_toArray, List.set_cons_zero, List.set_cons_succ]
          refine seq_calc (by simp only [List.getElem?_toArray, List.getElem?_cons_succ, List.getElem?_cons_zero]; rfl) (by rfl) (fun u => by go_simp <;> with_reducible rfl) ?_
          try simp only [Act.put, List.setIfInBounds_toArray, List.set_cons_zero, List.set_cons_succ]
          first
            | (refine seq_skip (by simp only [List.getElem?_toArray, List.getElem?_cons_succ, List.getElem?_cons_zero]; rfl) (by rfl) ?_)
            | (refine seq_calc (by simp only [List.getElem?_toArray, List.getElem?_cons_succ, List.getElem?_cons_zero]; rfl) (by rfl) (fun u => by go_simp <;> with_reducible rfl) ?_)
          try simp only [Act.put, List.setIfInBounds_toArray, List.set_cons_zero, List.set_cons_succ]
          first
            | (refine seq_skip (by simp only [List.getElem?_toArray, List.getElem?_cons_succ, List.getElem?_cons_zero]; rfl) (by rfl) ?_)
            | (refine seq_calc (by simp only [List.getElem?_toArray, List.getElem?_cons_succ, List.getElem?_cons_zero]; rfl) (by rfl) (fun u => by go_simp <;> with_reducible rfl) ?_)
          try simp only [Act.put, List.setIfInBounds_toArray, List.set_cons_zero, List.set_cons_succ]
          first
            | (refine seq_skip (by simp only [List.getElem?_toArray, List.getElem?_cons_succ, List.getElem?_cons_zero]; rfl) (by rfl) ?_)
            | (refine seq_calc (by simp only [List.getElem?_toArray, List.getElem?_cons_succ, List.getElem?_cons_zero]; rfl) (by rfl) (fun u => by go_simp <;> with_reducible rfl) ?_)
          try simp only [Act.put, List.setIfInBounds_toArray, List.set_cons_zero, List.set_cons_succ]
          first
            | (refine seq_skip (by simp only [List.getElem?_toArray, List.getElem?_cons_succ, List.getElem?_cons_zero]; rfl) (by rfl) ?_)
            | (refine seq_calc (by simp only [List.getElem?_toArray, List.getElem?_cons_succ, List.getElem?_cons_zero]; rfl) (by rfl) (fun u => by go_simp <;> with_reducible rfl) ?_)
          try simp only [Act.put, List.setIfInBounds_toArray, List.set_cons_zero, List.set_cons_succ]
          first
            | (refine seq_skip (by simp only [List.getElem?_toArray, List.getElem?_cons_succ, List.getElem?_cons_zero]; rfl) (by rfl) ?_)
            | (refine seq_calc (by simp only [List.getElem?_toArray, List.getElem?_cons_succ, List.getElem?_cons_zero]; rfl) (by rfl) (fun u => by go_simp <;> with_reducible rfl) ?_)
          try simp only [Act.put, List.setIfInBounds_toArray, List.set_cons_zero, List.set_cons_succ]
          first
            | (refine seq_skip (by simp only [List.getElem?_toArray, List.getElem?_cons_succ, List.getElem?_cons_zero]; rfl) (by rfl) ?_)
            | (refine seq_last (by simp only [List.getElem?_toArray, List.getElem?_cons_succ, List.getElem?_cons_zero]; rfl) (by rfl) (fun K hK => ?_); go_wp2_with (go_at_call 46; refine (meterLast_any m' B 64 _ HQw.out).mono ?_; rintro e w1 ⟨rfl, hb1⟩; replace HQw := Lib.hid (HQw.out.below hb1 HQw.out.lt); have hB1 : Below w.heap.size w w1 := (by first | exact hB1.trans (hb1.mono hB1.size) | exact hB1.trans (Below.undrew (hb1.mono hB1.size)) | exact hb1 | exact Below.trans (by go_grown) (hb1.mono (by simp <;> omega))); have hcT := fun (o : Nat) => hb1.cell (p := ⟨T, o, none⟩) (by first | assumption | (simp <;> omega)); have hfT := fun (o : Nat) => hb1.frozen (p := ⟨T, o, none⟩) (by first | assumption | (simp <;> omega)); have hzT : T < w1.heap.size := Nat.lt_of_lt_of_le (by first | assumption | (simp <;> omega)) hb1.size; have hcN := fun (o : Nat) => hb1.cell (p := ⟨N, o, none⟩) (by first | assumption | (simp <;> omega)); have hfN := fun (o : Nat) => hb1.frozen (p := ⟨N, o, none⟩) (by first | assumption | (simp <;> omega)); have hzN : N < w1.heap.size := Nat.lt_of_lt_of_le (by first | assumption | (simp <;> omega)) hb1.size); refine hK.out _ _ ?_; clear hK K)
          try simp only [Act.put, List.setIfInBounds_toArray, List.set_cons_zero, List.set_cons_succ]
          first
            | (refine seq_skip (by simp only [List.getElem?_toArray, List.getElem?_cons_succ, List.getElem?_cons_zero]; rfl) (by rfl) ?_)
            | (refine seq_calc (by simp only [List.getElem?_toArray, List.getElem?_cons_succ, List.getElem?_cons_zero]; rfl) (by rfl) (fun u => by go_simp <;> with_reducible rfl) ?_)
          try simp only [Act.put, List.setIfInBounds_toArray, List.set_cons_zero, List.set_cons_succ]
          first
            | (refine seq_skip (by simp only [List.getElem?_toArray, List.getElem?_cons_succ, List.getElem?_cons_zero]; rfl) (by rfl) ?_)
            | (refine seq_calc (by simp only [List.getElem?_toArray, List.getElem?_cons_succ, List.getElem?_cons_zero]; rfl) (by rfl) (fun u => by go_simp <;> with_reducible rfl) ?_)
          try simp only [Act.put, List.setIfInBounds_toArray, List.set_cons_zero, List.set_cons_succ]
          first
            | (refine seq_skip (by simp only [List.getElem?_toArray, List.getElem?_cons_succ, List.getElem?_cons_zero]; rfl) (by rfl) ?_)
            | (refine seq_calc (by simp only [List.getElem?_toArray, List.getElem?_cons_succ, List.getElem?_cons_zero]; rfl) (by rfl) (fun u => by go_simp <;> with_reducible rfl) ?_)
          try simp only [Act.put, List.setIfInBounds_toArray, List.set_cons_zero, List.set_cons_succ]
          refine seq_calc (by simp only [List.getElem?_toArray, List.getElem?_cons_succ, List.getElem?_cons_zero]; rfl) (by rfl) (fun u => by go_simp <;> with_reducible rfl) ?_
          try simp only [Act.put, List.setIfInBounds_toArray, List.set_cons_zero, List.set_cons_succ]
          refine seq_nil ?_
          go_wp2
          go_roundw
          case rel => exact ⟨i + 1, m', _, _, _, by omega, by go_num, HL2.out, HQw.out, HTw.out.below hB1 HTw.out.lt, HBw.out.trans (hB1.mono HBw.out.size)⟩
          case measure => simp [intOf]; omega
        · clear c1 ST
          go_upto_region 19 with (go_at_call 43; refine DO.out.mono ?_; rintro e w5 ⟨rfl, h5, c5⟩; have HQt := Lib.hid h5; have a0 := (hAct0.out.chg c5 hAB).cell 0; clear h5)
          have HTt := Lib.hid (hTA.out.chg c5 hTB)
          have HBt := Lib.hid (hBA.out.trans (c5.below (n := w0.heap.size) hBA.out.size (fun k hk e => by omega)))
          clear DO c5
          go_upto_region 20 with (go_at_call 45; refine (meterAll_any m' B 64 _ HQt.out).mono ?_; rintro e w7 ⟨rfl, hb7⟩)
          have hQ7 := HQt.out.below hb7 HQt.out.lt
          have hT7 := HTt.out.below hb7 HTt.out.lt
          have hB7 := HBt.out.trans (hb7.mono HBt.out.size)
          have hz7 := hB7.size
          refine wp_at (fun w hW => ?_)
          have HQw := Lib.hid (show Blk w B 64 m'.cells by rw [hW]; exact hQ7.alloc _)
          have HTw := Lib.hid (show Blk w T 62 (cntC t0 t1 t2) by rw [hW]; exact hT7.alloc _)
          have HBw := Lib.hid (show Below w0.heap.size w0 w by rw [hW]; exact hB7.alloc hz7 _)
          have HNw := Lib.hid (show Blk w w7.heap.size 62 (cntC m'.a0 m'.a1 m'.a2) by rw [hW]; exact Blk.new _ _ _)
          clear hW hQ7 hT7 hB7 hz7 hb7 HQt HTt HBt
          obtain ⟨N, hN⟩ : ∃ N, N = w7.heap.size := ⟨_, rfl⟩
          rw [← hN] at HNw ⊢
          clear hN
          obtain ⟨s0, s1, s2⟩ := cntC_cells HTw.out
          obtain ⟨y0, y1, y2⟩ := cntC_cells HNw.out
          have hzT := HTw.out.lt
          have hzN := HNw.out.lt
          have x0 : IntKind.i64.wrap (m'.a0 - t0) = m'.l0 := by have h := HL2.out; rw [h.e0]; exact IntWalk.i64_in _ (by have := h.b0; omega)
          have x1' : IntKind.i64.wrap (m'.a1 - t1) = m'.l1 := by have h := HL2.out; rw [h.e1]; exact IntWalk.i64_in _ (by have := h.b1; omega)
          have x2' : IntKind.i64.wrap (m'.a2 - t2) = m'.l2 := by have h := HL2.out; rw [h.e2]; exact IntWalk.i64_in _ (by have := h.b2; omega)
          have LB := Lib.hid HL2.out.lb
          have hfu := field_units
          replace HQw := Lib.hid (Blk.drew HQw.out)
          by_cases hl0 : 0 ≤ limit
          · skip
            have d0 : decide (limit ≥ 0) = true := by simpa using hl0
            have d1 : decide (m'.l2 > limit) = false := by have := LB.out hl0; simp; omega
            refine wp_region_seq (fun _ => False) #[⟨0, 0, 36893488147419103232, 32, 0⟩, ⟨1, 1, 73786976294838206464, 36893488147419103232, 2⟩, ⟨0, 0, 147573952589676412928, 512, 0⟩, ⟨4, 4, 295147905179352825856, 147573952589676412928, 1⟩, ⟨0, 0, 590295810358705651712, 64, 0⟩, ⟨16, 16, 1180591620717411303424, 590295810358705651712, 1⟩, ⟨40, 60, 2361183241434822606848, 1475739525896764129280, 0⟩, ⟨0, 0, 4722366482869645213696, 512, 0⟩, ⟨128, 128, 9444732965739290427392, 4722366482869645213696, 1⟩, ⟨0, 0, 18889465931478580854784, 64, 0⟩, ⟨512, 512, 37778931862957161709568, 18889465931478580854784, 1⟩, ⟨1280, 1920, 75557863725914323419136, 47223664828696452136960, 0⟩, ⟨0, 0, 151115727451828646838272, 512, 0⟩, ⟨4096, 4096, 302231454903657293676544, 151115727451828646838272, 1⟩, ⟨0, 0, 604462909807314587353088, 64, 0⟩, ⟨16384, 16384, 1208925819614629174706176, 604462909807314587353088, 1⟩, ⟨40960, 61440, 2417851639229258349412352, 1511157274518286468382720, 0⟩, ⟨67648, 131068, 4835703278458516698824704, 2495770686196607495438336, 0⟩, ⟨131074, 262143, 9671406556917033397649408, 4835777065434811537031168, 0⟩, ⟨262146, 524287, 19342813113834066795298816, 9671406556917033397649408, 0⟩, ⟨524288, 1048575, 38685626227668133590597632, 19342813113834066795298818, 0⟩, ⟨1572864, 2097151, 77371252455336267181195264, 58028439341502200385896448, 0⟩, ⟨2621440, 4194303, 154742504910672534362390528, 96714065569170333976494080, 0⟩, ⟨4194304, 8388607, 309485009821345068724781056, 154742504910672534362390560, 0⟩, ⟨12582912, 16777215, 618970019642690137449562112, 464227514732017603087171584, 3⟩, ⟨20971520, 33554431, 1237940039285380274899124224, 773712524553362671811952640, 0⟩, ⟨4194304, 8388607, 2475880078570760549798248448, 154742504910672534362390530, 0⟩, ⟨104857600, 134217727, 4951760157141521099596496896, 3868562622766813359059763200, 0⟩, ⟨138936320, 268435455, 9903520314283042199192993792, 5125845475166027700754186240, 0⟩, ⟨268959744, 536870911, 19807040628566084398385987584, 9922863127396876265988292608, 0⟩] 42280 [(0, 0), (2, 0), (3, 1), (4, 0), (5, 1), (6, 0), (7, 0), (8, 1), (9, 0), (10, 1), (11, 0), (12, 0), (13, 1), (14, 0), (15, 1), (16, 0), (17, 0), (1, 2), (18, 0), (19, 0), (20, 0), (21, 0), (22, 0), (23, 0), (26, 0), (24, 3), (25, 0), (27, 0), (28, 0), (29, 0)] (by kernel_rfl) (by kernel_rfl) (by kernel_rfl) (by kernel_rfl) (by kernel_rfl) (by kernel_rfl) (fun c a d v w h => by cases d <;> exact h) ?_
            refine seq_calc (by simp only [List.getElem?_toArray, List.getElem?_cons_succ, List.getElem?_cons_zero]; rfl) (by rfl) (fun u => by go_simp <;> with_reducible rfl) ?_
            try simp only [Act.put, List.setIfInBounds_toArray, List.set_cons_zero, List.set_cons_succ]
            refine seq_calc (by simp only [List.getElem?_toArray, List.getElem?_cons_succ, List.getElem?_cons_zero]; rfl) (by rfl) (fun u => by go_simp <;> with_reducible rfl) ?_
            try simp only [Act.put, List.setIfInBounds_toArray, List.set_cons_zero, List.set_cons_succ]
            refine seq_load1 (by simp only [List.getElem?_toArray, List.getElem?_cons_succ, List.getElem?_cons_zero]; rfl) (by rfl) rfl rfl Tryd.underlying3 rfl (by go_simp <;> with_reducible rfl) (by first | exact id | assumption | (simp; done) | (simp; omega)) ?_
            try simp only [Act.put, List.setIfInBounds_toArray, List.set_cons_zero, List.set_cons_succ]
            refine seq_calc (by simp only [List.getElem?_toArray, List.getElem?_cons_succ, List.getElem?_cons_zero]; rfl) (by rfl) (fun u => by go_simp <;> with_reducible rfl) ?_
            try simp only [Act.put, List.setIfInBounds_toArray, List.set_cons_zero, List.set_cons_succ]
            refine seq_load1 (by simp only [List.getElem?_toArray, List.getElem?_cons_succ, List.getElem?_cons_zero]; rfl) (by rfl) rfl rfl Tryd.underlying3 rfl (by go_simp <;> with_reducible rfl) (by first | exact id | assumption | (simp; done) | (simp; omega)) ?_
            try simp only [Act.put, List.setIfInBounds_toArray, List.set_cons_zero, List.set_cons_succ]
            refine seq_calc (by simp only [List.getElem?_toArray, List.getElem?_cons_succ, List.getElem?_cons_zero]; rfl) (by rfl) (fun u => by go_simp <;> with_reducible rfl) ?_
            try simp only [Act.put, List.setIfInBounds_toArray, List.set_cons_zero, List.set_cons_succ]
            refine seq_calc (by simp only [List.getElem?_toArray, List.getElem?_cons_succ, List.getElem?_cons_zero]; rfl) (by rfl) (fun u => by go_simp <;> with_reducible rfl) ?_
            try simp only [Act.put, List.setIfInBounds_toArray, List.set_cons_zero, List.set_cons_succ]
            refine seq_load1 (by simp only [List.getElem?_toArray, List.getElem?_cons_succ, List.getElem?_cons_zero]; rfl) (by rfl) rfl rfl Tryd.underlying3 rfl (by go_simp <;> with_reducible rfl) (by first | exact id | assumption | (simp; done) | (simp; omega)) ?_
            try simp only [Act.put, List.setIfInBounds_toArray, List.set_cons_zero, List.set_cons_succ]
            refine seq_calc (by simp only [List.getElem?_toArray, List.getElem?_cons_succ, List.getElem?_cons_zero]; rfl) (by rfl) (fun u => by go_simp <;> with_reducible rfl) ?_
            try simp only [Act.put, List.setIfInBounds_toArray, List.set_cons_zero, List.set_cons_succ]
            refine seq_load1 (by simp only [List.getElem?_toArray, List.getElem?_cons_succ, List.getElem?_cons_zero]; rfl) (by rfl) rfl rfl Tryd.underlying3 rfl (by go_simp <;> with_reducible rfl) (by first | exact id | assumption | (simp; done) | (simp; omega)) ?_
            try simp only [Act.put, List.setIfInBounds_toArray, List.set_cons_zero, List.set_cons_succ]
            refine seq_calc (by simp only [List.getElem?_toArray, List.getElem?_cons_succ, List.getElem?_cons_zero]; rfl) (by rfl) (fun u => by go_simp <;> with_reducible rfl) ?_
            try simp only [Act.put, List.setIfInBounds_toArray, List.set_cons_zero, List.set_cons_succ]
            refine seq_calc (by simp only [List.getElem?_toArray, List.getElem?_cons_succ, List.getElem?_cons_zero]; rfl) (by rfl) (fun u => by go_simp <;> with_reducible rfl) ?_
            try simp only [Act.put, List.setIfInBounds_toArray, List.set_cons_zero, List.set_cons_succ]
            refine seq_load1 (by simp only [List.getElem?_toArray, List.getElem?_cons_succ, List.getElem?_cons_zero]; rfl) (by rfl) rfl rfl Tryd.underlying3 rfl (by go_simp <;> with_reducible rfl) (by first | exact id | assumption | (simp; done) | (simp; omega)) ?_
            try simp only [Act.put, List.setIfInBounds_toArray, List.set_cons_zero, List.set_cons_succ]
            refine seq_calc (by simp only [List.getElem?_toArray, List.getElem?_cons_succ, List.getElem?_cons_zero]; rfl) (by rfl) (fun u => by go_simp <;> with_reducible rfl) ?_
            try simp only [Act.put, List.setIfInBounds_toArray, List.set_cons_zero, List.set_cons_succ]
            refine seq_load1 (by simp only [List.getElem?_toArray, List.getElem?_cons_succ, List.getElem?_cons_zero]; rfl) (by rfl) rfl rfl Tryd.underlying3 rfl (by go_simp <;> with_reducible rfl) (by first | exact id | assumption | (simp; done) | (simp; omega)) ?_
            try simp only [Act.put, List.setIfInBounds_toArray, List.set_cons_zero, List.set_cons_succ]
            refine seq_calc (by simp only [List.getElem?_toArray, List.getElem?_cons_succ, List.getElem?_cons_zero]; rfl) (by rfl) (fun u => by go_simp <;> with_reducible rfl) ?_
            try simp only [Act.put, List.setIfInBounds_toArray, List.set_cons_zero, List.set_cons_succ]
            refine seq_calc (by simp only [List.getElem?_toArray, List.getElem?_cons_succ, List.getElem?_cons_zero]; rfl) (by rfl) (fun u => by go_simp <;> with_reducible rfl) ?_
            try simp only [Act.put, List.setIfInBounds_toArray, List.set_cons_zero, List.set_cons_succ]
            refine seq_do (by simp only [List.getElem?_toArray, List.getElem?_cons_succ, List.getElem?_cons_zero]; rfl) (by rfl) (fun K hK => ?_); go_wp2_with (go_at_call 46; refine (meterLast_any m' B 64 _ HQw.out).mono ?_; rintro e w1 ⟨rfl, hb1⟩; replace HQw := Lib.hid (HQw.out.below hb1 HQw.out.lt); have hB1 : Below w.heap.size w w1 := (by first | exact hB1.trans (hb1.mono hB1.size) | exact hB1.trans (Below.undrew (hb1.mono hB1.size)) | exact hb1 | exact Below.trans (by go_grown) (hb1.mono (by simp <;> omega))); have hcT := fun (o : Nat) => hb1.cell (p := ⟨T, o, none⟩) (by first | assumption | (simp <;> omega)); have hfT := fun (o : Nat) => hb1.frozen (p := ⟨T, o, none⟩) (by first | assumption | (simp <;> omega)); have hzT : T < w1.heap.size := Nat.lt_of_lt_of_le (by first | assumption | (simp <;> omega)) hb1.size; have hcN := fun (o : Nat) => hb1.cell (p := ⟨N, o, none⟩) (by first | assumption | (simp <;> omega)); have hfN := fun (o : Nat) => hb1.frozen (p := ⟨N, o, none⟩) (by first | assumption | (simp <;> omega)); have hzN : N < w1.heap.size := Nat.lt_of_lt_of_le (by first | assumption | (simp <;> omega)) hb1.size); refine hK.out _ _ (by first | (with_reducible exact Chg.refl _ _) | (with_reducible assumption) | (refine Chg.of_below ?_; with_reducible assumption) | (with_reducible exact (Chg.refl _ _).alloc _) | (with_reducible exact (Chg.refl _ _).drewN _) | (with_reducible exact (Chg.refl _ _).drew) | exact ⟨rfl, rfl, rfl, Nat.le_refl _, fun _ _ _ => rfl⟩) ?_; clear hK K
            try simp only [Act.put, List.setIfInBounds_toArray, List.set_cons_zero, List.set_cons_succ]
            refine seq_calc (by simp only [List.getElem?_toArray, List.getElem?_cons_succ, List.getElem?_cons_zero]; rfl) (by rfl) (fun u => by go_simp <;> with_reducible rfl) ?_
            try simp only [Act.put, List.setIfInBounds_toArray, List.set_cons_zero, List.set_cons_succ]
            refine seq_calc (by simp only [List.getElem?_toArray, List.getElem?_cons_succ, List.getElem?_cons_zero]; rfl) (by rfl) (fun u => by go_simp <;> with_reducible rfl) ?_
            try simp only [Act.put, List.setIfInBounds_toArray, List.set_cons_zero, List.set_cons_succ]
            first
              | (refine seq_skip (by simp only [List.getElem?_toArray, List.getElem?_cons_succ, List.getElem?_cons_zero]; rfl) (by rfl) ?_)
              | (refine seq_calc (by simp only [List.getElem?_toArray, List.getElem?_cons_succ, List.getElem?_cons_zero]; rfl) (by rfl) (fun u => by go_simp <;> with_reducible rfl) ?_)
            try simp only [Act.put, List.setIfInBounds_toArray, List.set_cons_zero, List.set_cons_succ]
            first
              | (refine seq_skip (by simp only [List.getElem?_toArray, List.getElem?_cons_succ, List.getElem?_cons_zero]; rfl) (by rfl) ?_)
              | (refine seq_calc (by simp only [List.getElem?_toArray, List.getElem?_cons_succ, List.getElem?_cons_zero]; rfl) (by rfl) (fun u => by go_simp <;> with_reducible rfl) ?_)
            try simp only [Act.put, List.setIfInBounds_toArray, List.set_cons_zero, List.set_cons_succ]
            first
              | (refine seq_skip (by simp only [List.getElem?_toArray, List.getElem?_cons_succ, List.getElem?_cons_zero]; rfl) (by rfl) ?_)
              | (refine seq_calc (by simp only [List.getElem?_toArray, List.getElem?_cons_succ, List.getElem?_cons_zero]; rfl) (by rfl) (fun u => by go_simp <;> with_reducible rfl) ?_)
            try simp only [Act.put, List.setIfInBounds_toArray, List.set_cons_zero, List.set_cons_succ]
            first
              | (refine seq_skip (by simp only [List.getElem?_toArray, List.getElem?_cons_succ, List.getElem?_cons_zero]; rfl) (by rfl) ?_)
              | (refine seq_calc (by simp only [List.getElem?_toArray, List.getElem?_cons_succ, List.getElem?_cons_zero]; rfl) (by rfl) (fun u => by go_simp <;> with_reducible rfl) ?_)
            try simp only [Act.put, List.setIfInBounds_toArray, List.set_cons_zero, List.set_cons_succ]
            first
              | (refine seq_skip (by simp only [List.getElem?_toArray, List.getElem?_cons_succ, List.getElem?_cons_zero]; rfl) (by rfl) ?_)
              | (refine seq_calc (by simp only [List.getElem?_toArray, List.getElem?_cons_succ, List.getElem?_cons_zero]; rfl) (by rfl) (fun u => by go_simp <;> with_reducible rfl) ?_)
            try simp only [Act.put, List.setIfInBounds_toArray, List.set_cons_zero, List.set_cons_succ]
            first
              | (refine seq_skip (by simp only [List.getElem?_toArray, List.getElem?_cons_succ, List.getElem?_cons_zero]; rfl) (by rfl) ?_)
              | (refine seq_last (by simp only [List.getElem?_toArray, List.getElem?_cons_succ, List.getElem?_cons_zero]; rfl) (by rfl) (fun K hK => ?_); go_wp2_with (go_at_call 46; refine (meterLast_any m' B 64 _ HQw.out).mono ?_; rintro e w1 ⟨rfl, hb1⟩; replace HQw := Lib.hid (HQw.out.below hb1 HQw.out.lt); have hB1 : Below w.heap.size w w1 := (by first | exact hB1.trans (hb1.mono hB1.size) | exact hB1.trans (Below.undrew (hb1.mono hB1.size)) | exact hb1 | exact Below.trans (by go_grown) (hb1.mono (by simp <;> omega))); have hcT := fun (o : Nat) => hb1.cell (p := ⟨T, o, none⟩) (by first | assumption | (simp <;> omega)); have hfT := fun (o : Nat) => hb1.frozen (p := ⟨T, o, none⟩) (by first | assumption | (simp <;> omega)); have hzT : T < w1.heap.size := Nat.lt_of_lt_of_le (by first | assumption | (simp <;> omega)) hb1.size; have hcN := fun (o : Nat) => hb1.cell (p := ⟨N, o, none⟩) (by first | assumption | (simp <;> omega)); have hfN := fun (o : Nat) => hb1.frozen (p := ⟨N, o, none⟩) (by first | assumption | (simp <;> omega)); have hzN : N < w1.heap.size := Nat.lt_of_lt_of_le (by first | assumption | (simp <;> omega)) hb1.size); refine hK.out _ _ ?_; clear hK K)
            try simp only [Act.put, List.setIfInBounds_toArray, List.set_cons_zero, List.set_cons_succ]
            first
              | (refine seq_skip (by simp only [List.getElem?_toArray, List.getElem?_cons_succ, List.getElem?_cons_zero]; rfl) (by rfl) ?_)
              | (refine seq_calc (by simp only [List.getElem?_toArray, List.getElem?_cons_succ, List.getElem?_cons_zero]; rfl) (by rfl) (fun u => by go_simp <;> with_reducible rfl) ?_)
            try simp only [Act.put, List.setIfInBounds_toArray, List.set_cons_zero, List.set_cons_succ]
            first
              | (refine seq_skip (by simp only [List.getElem?_toArray, List.getElem?_cons_succ, List.getElem?_cons_zero]; rfl) (by rfl) ?_)
              | (refine seq_calc (by simp only [List.getElem?_toArray, List.getElem?_cons_succ, List.getElem?_cons_zero]; rfl) (by rfl) (fun u => by go_simp <;> with_reducible rfl) ?_)
            try simp only [Act.put, List.setIfInBounds_toArray, List.set_cons_zero, List.set_cons_succ]
            first
              | (refine seq_skip (by simp only [List.getElem?_toArray, List.getElem?_cons_succ, List.getElem?_cons_zero]; rfl) (by rfl) ?_)
              | (refine seq_calc (by simp only [List.getElem?_toArray, List.getElem?_cons_succ, List.getElem?_cons_zero]; rfl) (by rfl) (fun u => by go_simp <;> with_reducible rfl) ?_)
            try simp only [Act.put, List.setIfInBounds_toArray, List.set_cons_zero, List.set_cons_succ]
            refine seq_calc (by simp only [List.getElem?_toArray, List.getElem?_cons_succ, List.getElem?_cons_zero]; rfl) (by rfl) (fun u => by go_simp <;> with_reducible rfl) ?_
            try simp only [Act.put, List.setIfInBounds_toArray, List.set_cons_zero, List.set_cons_succ]
            refine seq_nil ?_
            go_wp2
            go_roundw
            case rel => exact ⟨i + 1, m', _, _, _, by omega, by go_num, HL2.out, HQw.out, HTw.out.below hB1 HTw.out.lt, HBw.out.trans (hB1.mono HBw.out.size)⟩
            case measure => simp [intOf]; omega
          · skip
            have d0 : decide (limit ≥ 0) = false := by simp; omega
            refine wp_region_seq (fun _ => False) #[⟨0, 0, 36893488147419103232, 32, 0⟩, ⟨1, 1, 73786976294838206464, 36893488147419103232, 2⟩, ⟨0, 0, 147573952589676412928, 512, 0⟩, ⟨4, 4, 295147905179352825856, 147573952589676412928, 1⟩, ⟨0, 0, 590295810358705651712, 64, 0⟩, ⟨16, 16, 1180591620717411303424, 590295810358705651712, 1⟩, ⟨40, 60, 2361183241434822606848, 1475739525896764129280, 0⟩, ⟨0, 0, 4722366482869645213696, 512, 0⟩, ⟨128, 128, 9444732965739290427392, 4722366482869645213696, 1⟩, ⟨0, 0, 18889465931478580854784, 64, 0⟩, ⟨512, 512, 37778931862957161709568, 18889465931478580854784, 1⟩, ⟨1280, 1920, 75557863725914323419136, 47223664828696452136960, 0⟩, ⟨0, 0, 151115727451828646838272, 512, 0⟩, ⟨4096, 4096, 302231454903657293676544, 151115727451828646838272, 1⟩, ⟨0, 0, 604462909807314587353088, 64, 0⟩, ⟨16384, 16384, 1208925819614629174706176, 604462909807314587353088, 1⟩, ⟨40960, 61440, 2417851639229258349412352, 1511157274518286468382720, 0⟩, ⟨67648, 131068, 4835703278458516698824704, 2495770686196607495438336, 0⟩, ⟨131074, 262143, 9671406556917033397649408, 4835777065434811537031168, 0⟩, ⟨262146, 524287, 19342813113834066795298816, 9671406556917033397649408, 0⟩, ⟨524288, 1048575, 38685626227668133590597632, 19342813113834066795298818, 0⟩, ⟨1572864, 2097151, 77371252455336267181195264, 58028439341502200385896448, 0⟩, ⟨2621440, 4194303, 154742504910672534362390528, 96714065569170333976494080, 0⟩, ⟨4194304, 8388607, 309485009821345068724781056, 154742504910672534362390560, 0⟩, ⟨12582912, 16777215, 618970019642690137449562112, 464227514732017603087171584, 3⟩, ⟨20971520, 33554431, 1237940039285380274899124224, 773712524553362671811952640, 0⟩, ⟨4194304, 8388607, 2475880078570760549798248448, 154742504910672534362390530, 0⟩, ⟨104857600, 134217727, 4951760157141521099596496896, 3868562622766813359059763200, 0⟩, ⟨138936320, 268435455, 9903520314283042199192993792, 5125845475166027700754186240, 0⟩, ⟨268959744, 536870911, 19807040628566084398385987584, 9922863127396876265988292608, 0⟩] 42280 [(0, 0), (2, 0), (3, 1), (4, 0), (5, 1), (6, 0), (7, 0), (8, 1), (9, 0), (10, 1), (11, 0), (12, 0), (13, 1), (14, 0), (15, 1), (16, 0), (17, 0), (1, 2), (18, 0), (19, 0), (20, 0), (21, 0), (22, 0), (23, 0), (26, 0), (24, 3), (25, 0), (27, 0), (28, 0), (29, 0)] (by kernel_rfl) (by kernel_rfl) (by kernel_rfl) (by kernel_rfl) (by kernel_rfl) (by kernel_rfl) (fun c a d v w h => by cases d <;> exact h) ?_
            refine seq_calc (by simp only [List.getElem?_toArray, List.getElem?_cons_succ, List.getElem?_cons_zero]; rfl) (by rfl) (fun u => by go_simp <;> with_reducible rfl) ?_
            try simp only [Act.put, List.setIfInBounds_toArray, List.set_cons_zero, List.set_cons_succ]
            refine seq_calc (by simp only [List.getElem?_toArray, List.getElem?_cons_succ, List.getElem?_cons_zero]; rfl) (by rfl) (fun u => by go_simp <;> with_reducible rfl) ?_
            try simp only [Act.put, List.setIfInBounds_toArray, List.set_cons_zero, List.set_cons_succ]
            refine seq_load1 (by simp only [List.getElem?_toArray, List.getElem?_cons_succ, List.getElem?_cons_zero]; rfl) (by rfl) rfl rfl Tryd.underlying3 rfl (by go_simp <;> with_reducible rfl) (by first | exact id | assumption | (simp; done) | (simp; omega)) ?_
            try simp only [Act.put, List.setIfInBounds_toArray, List.set_cons_zero, List.set_cons_succ]
            refine seq_calc (by simp only [List.getElem?_toArray, List.getElem?_cons_succ, List.getElem?_cons_zero]; rfl) (by rfl) (fun u => by go_simp <;> with_reducible rfl) ?_
            try simp only [Act.put, List.setIfInBounds_toArray, List.set_cons_zero, List.set_cons_succ]
            refine seq_load1 (by simp only [List.getElem?_toArray, List.getElem?_cons_succ, List.getElem?_cons_zero]; rfl) (by rfl) rfl rfl Tryd.underlying3 rfl (by go_simp <;> with_reducible rfl) (by first | exact id | assumption | (simp; done) | (simp; omega)) ?_
            try simp only [Act.put, List.setIfInBounds_toArray, List.set_cons_zero, List.set_cons_succ]
            refine seq_calc (by simp only [List.getElem?_toArray, List.getElem?_cons_succ, List.getElem?_cons_zero]; rfl) (by rfl) (fun u => by go_simp <;> with_reducible rfl) ?_
            try simp only [Act.put, List.setIfInBounds_toArray, List.set_cons_zero, List.set_cons_succ]
            refine seq_calc (by simp only [List.getElem?_toArray, List.getElem?_cons_succ, List.getElem?_cons_zero]; rfl) (by rfl) (fun u => by go_simp <;> with_reducible rfl) ?_
            try simp only [Act.put, List.setIfInBounds_toArray, List.set_cons_zero, List.set_cons_succ]
            refine seq_load1 (by simp only [List.getElem?_toArray, List.getElem?_cons_succ, List.getElem?_cons_zero]; rfl) (by rfl) rfl rfl Tryd.underlying3 rfl (by go_simp <;> with_reducible rfl) (by first | exact id | assumption | (simp; done) | (simp; omega)) ?_
            try simp only [Act.put, List.setIfInBounds_toArray, List.set_cons_zero, List.set_cons_succ]
            refine seq_calc (by simp only [List.getElem?_toArray, List.getElem?_cons_succ, List.getElem?_cons_zero]; rfl) (by rfl) (fun u => by go_simp <;> with_reducible rfl) ?_
            try simp only [Act.put, List.setIfInBounds_toArray, List.set_cons_zero, List.set_cons_succ]
            refine seq_load1 (by simp only [List.getElem?_toArray, List.getElem?_cons_succ, List.getElem?_cons_zero]; rfl) (by rfl) rfl rfl Tryd.underlying3 rfl (by go_simp <;> with_reducible rfl) (by first | exact id | assumption | (simp; done) | (simp; omega)) ?_
            try simp only [Act.put, List.setIfInBounds_toArray, List.set_cons_zero, List.set_cons_succ]
            refine seq_calc (by simp only [List.getElem?_toArray, List.getElem?_cons_succ, List.getElem?_cons_zero]; rfl) (by rfl) (fun u => by go_simp <;> with_reducible rfl) ?_
            try simp only [Act.put, List.setIfInBounds_toArray, List.set_cons_zero, List.set_cons_succ]
            refine seq_calc (by simp only [List.getElem?_toArray, List.getElem?_cons_succ, List.getElem?_cons_zero]; rfl) (by rfl) (fun u => by go_simp <;> with_reducible rfl) ?_
            try simp only [Act.put, List.setIfInBounds_toArray, List.set_cons_zero, List.set_cons_succ]
            refine seq_load1 (by simp only [List.getElem?_toArray, List.getElem?_cons_succ, List.getElem?_cons_zero]; rfl) (by rfl) rfl rfl Tryd.underlying3 rfl (by go_simp <;> with_reducible rfl) (by first | exact id | assumption | (simp; done) | (simp; omega)) ?_
            try simp only [Act.put, List.setIfInBounds_toArray, List.set_cons_zero, List.set_cons_succ]
            refine seq_calc (by simp only [List.getElem?_toArray, List.getElem?_cons_succ, List.getElem?_cons_zero]; rfl) (by rfl) (fun u => by go_simp <;> with_reducible rfl) ?_
            try simp only [Act.put, List.setIfInBounds_toArray, List.set_cons_zero, List.set_cons_succ]
            refine seq_load1 (by simp only [List.getElem?_toArray, List.getElem?_cons_succ, List.getElem?_cons_zero]; rfl) (by rfl) rfl rfl Tryd.underlying3 rfl (by go_simp <;> with_reducible rfl) (by first | exact id | assumption | (simp; done) | (simp; omega)) ?_
            try simp only [Act.put, List.setIfInBounds_toArray, List.set_cons_zero, List.set_cons_succ]
            refine seq_calc (by simp only [List.getElem?_toArray, List.getElem?_cons_succ, List.getElem?_cons_zero]; rfl) (by rfl) (fun u => by go_simp <;> with_reducible rfl) ?_
            try simp only [Act.put, List.setIfInBounds_toArray, List.set_cons_zero, List.set_cons_succ]
            refine seq_calc (by simp only [List.getElem?_toArray, List.getElem?_cons_succ, List.getElem?_cons_zero]; rfl) (by rfl) (fun u => by go_simp <;> with_reducible rfl) ?_
            try simp only [Act.put, List.setIfInBounds_toArray, List.set_cons_zero, List.set_cons_succ]
            refine seq_do (by simp only [List.getElem?_toArray, List.getElem?_cons_succ, List.getElem?_cons_zero]; rfl) (by rfl) (fun K hK => ?_); go_wp2_with (go_at_call 46; refine (meterLast_any m' B 64 _ HQw.out).mono ?_; rintro e w1 ⟨rfl, hb1⟩; replace HQw := Lib.hid (HQw.out.below hb1 HQw.out.lt); have hB1 : Below w.heap.size w w1 := (by first | exact hB1.trans (hb1.mono hB1.size) | exact hB1.trans (Below.undrew (hb1.mono hB1.size)) | exact hb1 | exact Below.trans (by go_grown) (hb1.mono (by simp <;> omega))); have hcT := fun (o : Nat) => hb1.cell (p := ⟨T, o, none⟩) (by first | assumption | (simp <;> omega)); have hfT := fun (o : Nat) => hb1.frozen (p := ⟨T, o, none⟩) (by first | assumption | (simp <;> omega)); have hzT : T < w1.heap.size := Nat.lt_of_lt_of_le (by first | assumption | (simp <;> omega)) hb1.size; have hcN := fun (o : Nat) => hb1.cell (p := ⟨N, o, none⟩) (by first | assumption | (simp <;> omega)); have hfN := fun (o : Nat) => hb1.frozen (p := ⟨N, o, none⟩) (by first | assumption | (simp <;> omega)); have hzN : N < w1.heap.size := Nat.lt_of_lt_of_le (by first | assumption | (simp <;> omega)) hb1.size); refine hK.out _ _ (by first | (with_reducible exact Chg.refl _ _) | (with_reducible assumption) | (refine Chg.of_below ?_; with_reducible assumption) | (with_reducible exact (Chg.refl _ _).alloc _) | (with_reducible exact (Chg.refl _ _).drewN _) | (with_reducible exact (Chg.refl _ _).drew) | exact ⟨rfl, rfl, rfl, Nat.le_refl _, fun _ _ _ => rfl⟩) ?_; clear hK K
            try simp only [Act.put, List.setIfInBounds_toArray, List.set_cons_zero, List.set_cons_succ]
            refine seq_calc (by simp only [List.getElem?_toArray, List.getElem?_cons_succ, List.getElem?_cons_zero]; rfl) (by rfl) (fun u => by go_simp <;> with_reducible rfl) ?_
            try simp only [Act.put, List.setIfInBounds_toArray, List.set_cons_zero, List.set_cons_succ]
            refine seq_calc (by simp only [List.getElem?_toArray, List.getElem?_cons_succ, List.getElem?_cons_zero]; rfl) (by rfl) (fun u => by go_simp <;> with_reducible rfl) ?_
            try simp only [Act.put, List.setIfInBounds_toArray, List.set_cons_zero, List.set_cons_succ]
            first
              | (refine seq_skip (by simp only [List.getElem?_toArray, List.getElem?_cons_succ, List.getElem?_cons_zero]; rfl) (by rfl) ?_)
              | (refine seq_calc (by simp only [List.getElem?_toArray, List.getElem?_cons_succ, List.getElem?_cons_zero]; rfl) (by rfl) (fun u => by go_simp <;> with_reducible rfl) ?_)
            try simp only [Act.put, List.setIfInBounds_toArray, List.set_cons_zero, List.set_cons_succ]
            first
              | (refine seq_skip (by simp only [List.getElem?_toArray, List.getElem?_cons_succ, List.getElem?_cons_zero]; rfl) (by rfl) ?_)
              | (refine seq_calc (by simp only [List.getElem?_toArray, List.getElem?_cons_succ, List.getElem?_cons_zero]; rfl) (by rfl) (fun u => by go_simp <;> with_reducible rfl) ?_)
            try simp only [Act.put, List.setIfInBounds_toArray, List.set_cons_zero, List.set_cons_succ]
            first
              | (refine seq_skip (by simp only [List.getElem?_toArray, List.getElem?_cons_succ, List.getElem?_cons_zero]; rfl) (by rfl) ?_)
              | (refine seq_calc (by simp only [List.getElem?_toArray, List.getElem?_cons_succ, List.getElem?_cons_zero]; rfl) (by rfl) (fun u => by go_simp <;> with_reducible rfl) ?_)
            try simp only [Act.put, List.setIfInBounds_toArray, List.set_cons_zero, List.set_cons_succ]
            first
              | (refine seq_skip (by simp only [List.getElem?_toArray, List.getElem?_cons_succ, List.getElem?_cons_zero]; rfl) (by rfl) ?_)
              | (refine seq_calc (by simp only [List.getElem?_toArray, List.getElem?_cons_succ, List.getElem?_cons_zero]; rfl) (by rfl) (fun u => by go_simp <;> with_reducible rfl) ?_)
            try simp only [Act.put, List.setIfInBounds_toArray, List.set_cons_zero, List.set_cons_succ]
            first
              | (refine seq_skip (by simp only [List.getElem?_toArray, List.getElem?_cons_succ, List.getElem?_cons_zero]; rfl) (by rfl) ?_)
              | (refine seq_calc (by simp only [List.getElem?_toArray, List.getElem?_cons_succ, List.getElem?_cons_zero]; rfl) (by rfl) (fun u => by go_simp <;> with_reducible rfl) ?_)
            try simp only [Act.put, List.setIfInBounds_toArray, List.set_cons_zero, List.set_cons_succ]
            first
              | (refine seq_skip (by simp only [List.getElem?_toArray, List.getElem?_cons_succ, List.getElem?_cons_zero]; rfl) (by rfl) ?_)
              | (refine seq_last (by simp only [List.getElem?_toArray, List.getElem?_cons_succ, List.getElem?_cons_zero]; rfl) (by rfl) (fun K hK => ?_); go_wp2_with (go_at_call 46; refine (meterLast_any m' B 64 _ HQw.out).mono ?_; rintro e w1 ⟨rfl, hb1⟩; replace HQw := Lib.hid (HQw.out.below hb1 HQw.out.lt); have hB1 : Below w.heap.size w w1 := (by first | exact hB1.trans (hb1.mono hB1.size) | exact hB1.trans (Below.undrew (hb1.mono hB1.size)) | exact hb1 | exact Below.trans (by go_grown) (hb1.mono (by simp <;> omega))); have hcT := fun (o : Nat) => hb1.cell (p := ⟨T, o, none⟩) (by first | assumption | (simp <;> omega)); have hfT := fun (o : Nat) => hb1.frozen (p := ⟨T, o, none⟩) (by first | assumption | (simp <;> omega)); have hzT : T < w1.heap.size := Nat.lt_of_lt_of_le (by first | assumption | (simp <;> omega)) hb1.size; have hcN := fun (o : Nat) => hb1.cell (p := ⟨N, o, none⟩) (by first | assumption | (simp <;> omega)); have hfN := fun (o : Nat) => hb1.frozen (p := ⟨N, o, none⟩) (by first | assumption | (simp <;> omega)); have hzN : N < w1.heap.size := Nat.lt_of_lt_of_le (by first | assumption | (simp <;> omega)) hb1.size); refine hK.out _ _ ?_; clear hK K)
            try simp only [Act.put, List.setIfInBounds_toArray, List.set_cons_zero, List.set_cons_succ]
            first
              | (refine seq_skip (by simp only [List.getElem?_toArray, List.getElem?_cons_succ, List.getElem?_cons_zero]; rfl) (by rfl) ?_)
              | (refine seq_calc (by simp only [List.getElem?_toArray, List.getElem?_cons_succ, List.getElem?_cons_zero]; rfl) (by rfl) (fun u => by go_simp <;> with_reducible rfl) ?_)
            try simp only [Act.put, List.setIfInBounds_toArray, List.set_cons_zero, List.set_cons_succ]
            first
              | (refine seq_skip (by simp only [List.getElem?_toArray, List.getElem?_cons_succ, List.getElem?_cons_zero]; rfl) (by rfl) ?_)
              | (refine seq_calc (by simp only [List.getElem?_toArray, List.getElem?_cons_succ, List.getElem?_cons_zero]; rfl) (by rfl) (fun u => by go_simp <;> with_reducible rfl) ?_)
            try simp only [Act.put, List.setIfInBounds_toArray, List.set_cons_zero, List.set_cons_succ]
            first
              | (refine seq_skip (by simp only [List.getElem?_toArray, List.getElem?_cons_succ, List.getElem?_cons_zero]; rfl) (by rfl) ?_)
              | (refine seq_calc (by simp only [List.getElem?_toArray, List.getElem?_cons_succ, List.getElem?_cons_zero]; rfl) (by rfl) (fun u => by go_simp <;> with_reducible rfl) ?_)
            try simp only [Act.put, List.setIfInBounds_toArray, List.set_cons_zero, List.set_cons_succ]
            refine seq_calc (by simp only [List.getElem?_toArray, List.getElem?_cons_succ, List.getElem?_cons_zero]; rfl) (by rfl) (fun u => by go_simp <;> with_reducible rfl) ?_
            try simp only [Act.put, List.setIfInBounds_toArray, List.set_cons_zero, List.set_cons_succ]
            refine seq_nil ?_
            go_wp2
            go_roundw
            case rel => exact ⟨i + 1, m', _, _, _, by omega, by go_num, HL2.out, HQw.out, HTw.out.below hB1 HTw.out.lt, HBw.out.trans (hB1.mono HBw.out.size)⟩
            case measure => simp [intOf]; omega
      have e2 : (k == 2) = false := by simpa using k2
      by_cases c3 : 1073741824 < limit
      · go_wp2
        go_ret
        exact ⟨rfl, hBA.out⟩
      by_cases k3 : k = 3
      · subst k3
        have hra := doS_3 m n
        have HL2 := Lib.hid (show LI (doS m 3 n) limit (doS m 3 n).a0 (doS m 3 n).a1 (doS m 3 n).a2 (i + 1) by have := HL.out.reset n; rw [hra] at this ⊢; exact this)
        clear hra
        generalize doS m 3 n = m' at *
        generalize doBad m 3 n = p at *
        clear k2 k4
        go_upto_region 19 with (first
          | (go_at_call 43; refine DO.out.mono ?_; rintro e w5 ⟨rfl, h5, c5⟩; have HQ5 := Lib.hid h5; have a0 := (hAct0.out.chg c5 hAB).cell 0; clear h5)
          | (go_at_call 45; refine (meterAll_any m' B 64 _ HQ5.out).mono ?_; rintro e w6 ⟨rfl, hb6⟩; have HQ6 := Lib.hid (HQ5.out.below hb6 HQ5.out.lt); have HT6 := Lib.hid ((hTA.out.chg c5 hTB).below hb6 (hTA.out.chg c5 hTB).lt); have f6 := HT6.out.frozen; have l6 := HT6.out.lt; obtain ⟨s0, s1, s2⟩ := cntC_cells HT6.out))
        have HB5 : Below w0.heap.size w0 w5 := hBA.out.trans (c5.below (n := w0.heap.size) hBA.out.size (fun k hk e => by omega))
        have HB6 := HB5.trans (hb6.mono HB5.size)
        refine wp_at (fun wt hW => ?_)
        have HQt := Lib.hid (show Blk wt B 64 m'.cells by rw [hW]; exact ((HQ6.out.other (B' := T) (by omega) _ _).other (B' := T) (by omega) _ _).other (B' := T) (by omega) _ _)
        have HTt := Lib.hid (show Blk wt T 62 (cntC m'.a0 m'.a1 m'.a2) by rw [hW]; exact ((HT6.out.set 0 _).set 1 _).set 2 _)
        have HBt := Lib.hid (show Below w0.heap.size w0 wt by rw [hW]; exact ((HB6.setCell (p := ⟨T, 0, none⟩) hT0 _).setCell (p := ⟨T, 1, none⟩) hT0 _).setCell (p := ⟨T, 2, none⟩) hT0 _)
        clear hW s0 s1 s2 f6 l6 HQ6 HT6 HB5 HB6 hb6 DO c5
        obtain ⟨g0, hg0⟩ : ∃ x, x = m'.a0 := ⟨_, rfl⟩
        obtain ⟨g1, hg1⟩ : ∃ x, x = m'.a1 := ⟨_, rfl⟩
        obtain ⟨g2, hg2⟩ : ∃ x, x = m'.a2 := ⟨_, rfl⟩
        rw [← hg0, ← hg1, ← hg2] at HL2 HTt
        clear hg0 hg1 hg2
        go_upto_region 20 with (go_at_call 45; refine (meterAll_any m' B 64 _ HQt.out).mono ?_; rintro e w7 ⟨rfl, hb7⟩)
        have hQ7 := HQt.out.below hb7 HQt.out.lt
        have hT7 := HTt.out.below hb7 HTt.out.lt
        have hB7 := HBt.out.trans (hb7.mono HBt.out.size)
        have hz7 := hB7.size
        refine wp_at (fun w hW => ?_)
        have HQw := Lib.hid (show Blk w B 64 m'.cells by rw [hW]; exact hQ7.alloc _)
        have HTw := Lib.hid (show Blk w T 62 (cntC g0 g1 g2) by rw [hW]; exact hT7.alloc _)
        have HBw := Lib.hid (show Below w0.heap.size w0 w by rw [hW]; exact hB7.alloc hz7 _)
        have HNw := Lib.hid (show Blk w w7.heap.size 62 (cntC m'.a0 m'.a1 m'.a2) by rw [hW]; exact Blk.new _ _ _)
        clear hW hQ7 hT7 hB7 hz7 hb7 HQt HTt HBt
        obtain ⟨N, hN⟩ : ∃ N, N = w7.heap.size := ⟨_, rfl⟩
        rw [← hN] at HNw ⊢
        clear hN
        obtain ⟨s0, s1, s2⟩ := cntC_cells HTw.out
        obtain ⟨y0, y1, y2⟩ := cntC_cells HNw.out
        have hzT := HTw.out.lt
        have hzN := HNw.out.lt
        have x0 : IntKind.i64.wrap (m'.a0 - g0) = m'.l0 := by have h := HL2.out; rw [h.e0]; exact IntWalk.i64_in _ (by have := h.b0; omega)
        have x1' : IntKind.i64.wrap (m'.a1 - g1) = m'.l1 := by have h := HL2.out; rw [h.e1]; exact IntWalk.i64_in _ (by have := h.b1; omega)
        have x2' : IntKind.i64.wrap (m'.a2 - g2) = m'.l2 := by have h := HL2.out; rw [h.e2]; exact IntWalk.i64_in _ (by have := h.b2; omega)
        have LB := Lib.hid HL2.out.lb
        have hfu := field_units
        replace HQw := Lib.hid (Blk.drew HQw.out)
        by_cases hl0 : 0 ≤ limit
        · skip
          have d0 : decide (limit ≥ 0) = true := by simpa using hl0
          have d1 : decide (m'.l2 > limit) = false := by have := LB.out hl0; simp; omega
          refine wp_region_seq (fun _ => False) #[⟨0, 0, 36893488147419103232, 32, 0⟩, ⟨1, 1, 73786976294838206464, 36893488147419103232, 2⟩, ⟨0, 0, 147573952589676412928, 512, 0⟩, ⟨4, 4, 295147905179352825856, 147573952589676412928, 1⟩, ⟨0, 0, 590295810358705651712, 64, 0⟩, ⟨16, 16, 1180591620717411303424, 590295810358705651712, 1⟩, ⟨40, 60, 2361183241434822606848, 1475739525896764129280, 0⟩, ⟨0, 0, 4722366482869645213696, 512, 0⟩, ⟨128, 128, 9444732965739290427392, 4722366482869645213696, 1⟩, ⟨0, 0, 18889465931478580854784, 64, 0⟩, ⟨512, 512, 37778931862957161709568, 18889465931478580854784, 1⟩, ⟨1280, 1920, 75557863725914323419136, 47223664828696452136960, 0⟩, ⟨0, 0, 151115727451828646838272, 512, 0⟩, ⟨4096, 4096, 302231454903657293676544, 151115727451828646838272, 1⟩, ⟨0, 0, 604462909807314587353088, 64, 0⟩, ⟨16384, 16384, 1208925819614629174706176, 604462909807314587353088, 1⟩, ⟨40960, 61440, 2417851639229258349412352, 1511157274518286468382720, 0⟩, ⟨67648, 131068, 4835703278458516698824704, 2495770686196607495438336, 0⟩, ⟨131074, 262143, 9671406556917033397649408, 4835777065434811537031168, 0⟩, ⟨262146, 524287, 19342813113834066795298816, 9671406556917033397649408, 0⟩, ⟨524288, 1048575, 38685626227668133590597632, 19342813113834066795298818, 0⟩, ⟨1572864, 2097151, 77371252455336267181195264, 58028439341502200385896448, 0⟩, ⟨2621440, 4194303, 154742504910672534362390528, 96714065569170333976494080, 0⟩, ⟨4194304, 8388607, 309485009821345068724781056, 154742504910672534362390560, 0⟩, ⟨12582912, 16777215, 618970019642690137449562112, 464227514732017603087171584, 3⟩, ⟨20971520, 33554431, 1237940039285380274899124224, 773712524553362671811952640, 0⟩, ⟨4194304, 8388607, 2475880078570760549798248448, 154742504910672534362390530, 0⟩, ⟨104857600, 134217727, 4951760157141521099596496896, 3868562622766813359059763200, 0⟩, ⟨138936320, 268435455, 9903520314283042199192993792, 5125845475166027700754186240, 0⟩, ⟨268959744, 536870911, 19807040628566084398385987584, 9922863127396876265988292608, 0⟩] 42280 [(0, 0), (2, 0), (3, 1), (4, 0), (5, 1), (6, 0), (7, 0), (8, 1), (9, 0), (10, 1), (11, 0), (12, 0), (13, 1), (14, 0), (15, 1), (16, 0), (17, 0), (1, 2), (18, 0), (19, 0), (20, 0), (21, 0), (22, 0), (23, 0), (26, 0), (24, 3), (25, 0), (27, 0), (28, 0), (29, 0)] (by kernel_rfl) (by kernel_rfl) (by kernel_rfl) (by kernel_rfl) (by kernel_rfl) (by kernel_rfl) (fun c a d v w h => by cases d <;> exact h) ?_
          refine seq_calc (by simp only [List.getElem?_toArray, List.getElem?_cons_succ, List.getElem?_cons_zero]; rfl) (by rfl) (fun u => by go_simp <;> with_reducible rfl) ?_
          try simp only [Act.put, List.setIfInBounds_toArray, List.set_cons_zero, List.set_cons_succ]
          refine seq_calc (by simp only [List.getElem?_toArray, List.getElem?_cons_succ, List.getElem?_cons_zero]; rfl) (by rfl) (fun u => by go_simp <;> with_reducible rfl) ?_
          try simp only [Act.put, List.setIfInBounds_toArray, List.set_cons_zero, List.set_cons_succ]
          refine seq_load1 (by simp only [List.getElem?_toArray, List.getElem?_cons_succ, List.getElem?_cons_zero]; rfl) (by rfl) rfl rfl Tryd.underlying3 rfl (by go_simp <;> with_reducible rfl) (by first | exact id | assumption | (simp; done) | (simp; omega)) ?_
          try simp only [Act.put, List.setIfInBounds_toArray, List.set_cons_zero, List.set_cons_succ]
          refine seq_calc (by simp only [List.getElem?_toArray, List.getElem?_cons_succ, List.getElem?_cons_zero]; rfl) (by rfl) (fun u => by go_simp <;> with_reducible rfl) ?_
          try simp only [Act.put, List.setIfInBounds_toArray, List.set_cons_zero, List.set_cons_succ]
          refine seq_load1 (by simp only [List.getElem?_toArray, List.getElem?_cons_succ, List.getElem?_cons_zero]; rfl) (by rfl) rfl rfl Tryd.underlying3 rfl (by go_simp <;> with_reducible rfl) (by first | exact id | assumption | (simp; done) | (simp; omega)) ?_
          try simp only [Act.put, List.setIfInBounds_toArray, List.set_cons_zero, List.set_cons_succ]
          refine seq_calc (by simp only [List.getElem?_toArray, List.getElem?_cons_succ, List.getElem?_cons_zero]; rfl) (by rfl) (fun u => by go_simp <;> with_reducible rfl) ?_
          try simp only [Act.put, List.setIfInBounds_toArray, List.set_cons_zero, List.set_cons_succ]
          refine seq_calc (by simp only [List.getElem?_toArray, List.getElem?_cons_succ, List.getElem?_cons_zero]; rfl) (by rfl) (fun u => by go_simp <;> with_reducible rfl) ?_
          try simp only [Act.put, List.setIfInBounds_toArray, List.set_cons_zero, List.set_cons_succ]
          refine seq_load1 (by simp only [List.getElem?_toArray, List.getElem?_cons_succ, List.getElem?_cons_zero]; rfl) (by rfl) rfl rfl Tryd.underlying3 rfl (by go_simp <;> with_reducible rfl) (by first | exact id | assumption | (simp; done) | (simp; omega)) ?_
          try simp only [Act.put, List.setIfInBounds_toArray, List.set_cons_zero, List.set_cons_succ]
          refine seq_calc (by simp only [List.getElem?_toArray, List.getElem?_cons_succ, List.getElem?_cons_zero]; rfl) (by rfl) (fun u => by go_simp <;> with_reducible rfl) ?_
          try simp only [Act.put, List.setIfInBounds_toArray, List.set_cons_zero, List.set_cons_succ]
          refine seq_load1 (by simp only [List.getElem?_toArray, List.getElem?_cons_succ, List.getElem?_cons_zero]; rfl) (by rfl) rfl rfl Tryd.underlying3 rfl (by go_simp <;> with_reducible rfl) (by first | exact id | assumption | (simp; done) | (simp; omega)) ?_
          try simp only [Act.put, List.setIfInBounds_toArray, List.set_cons_zero, List.set_cons_succ]
          refine seq_calc (by simp only [List.getElem?_toArray, List.getElem?_cons_succ, List.getElem?_cons_zero]; rfl) (by rfl) (fun u => by go_simp <;> with_reducible rfl) ?_
          try simp only [Act.put, List.setIfInBounds_toArray, List.set_cons_zero, List.set_cons_succ]
          refine seq_calc (by simp only [List.getElem?_toArray, List.getElem?_cons_succ, List.getElem?_cons_zero]; rfl) (by rfl) (fun u => by go_simp <;> with_reducible rfl) ?_
          try simp only [Act.put, List.setIfInBounds_toArray, List.set_cons_zero, List.set_cons_succ]
          refine seq_load1 (by simp only [List.getElem?_toArray, List.getElem?_cons_succ, List.getElem?_cons_zero]; rfl) (by rfl) rfl rfl Tryd.underlying3 rfl (by go_simp <;> with_reducible rfl) (by first | exact id | assumption | (simp; done) | (simp; omega)) ?_
          try simp only [Act.put, List.setIfInBounds_toArray, List.set_cons_zero, List.set_cons_succ]
          refine seq_calc (by simp only [List.getElem?_toArray, List.getElem?_cons_succ, List.getElem?_cons_zero]; rfl) (by rfl) (fun u => by go_simp <;> with_reducible rfl) ?_
          try simp only [Act.put, List.setIfInBounds_toArray, List.set_cons_zero, List.set_cons_succ]
          refine seq_load1 (by simp only [List.getElem?_toArray, List.getElem?_cons_succ, List.getElem?_cons_zero]; rfl) (by rfl) rfl rfl Tryd.underlying3 rfl (by go_simp <;> with_reducible rfl) (by first | exact id | assumption | (simp; done) | (simp; omega)) ?_
          try simp only [Act.put, List.setIfInBounds_toArray, List.set_cons_zero, List.set_cons_succ]
          refine seq_calc (by simp only [List.getElem?_toArray, List.getElem?_cons_succ, List.getElem?_cons_zero]; rfl) (by rfl) (fun u => by go_simp <;> with_reducible rfl) ?_
          try simp only [Act.put, List.setIfInBounds_toArray, List.set_cons_zero, List.set_cons_succ]
          refine seq_calc (by simp only [List.getElem?_toArray, List.getElem?_cons_succ, List.getElem?_cons_zero]; rfl) (by rfl) (fun u => by go_simp <;> with_reducible rfl) ?_
          try simp only [Act.put, List.setIfInBounds_toArray, List.set_cons_zero, List.set_cons_succ]
          refine seq_do (by simp only [List.getElem?_toArray, List.getElem?_cons_succ, List.getElem?_cons_zero]; rfl) (by rfl) (fun K hK => ?_); go_wp2_with (go_at_call 46; refine (meterLast_any m' B 64 _ HQw.out).mono ?_; rintro e w1 ⟨rfl, hb1⟩; replace HQw := Lib.hid (HQw.out.below hb1 HQw.out.lt); have hB1 : Below w.heap.size w w1 := (by first | exact hB1.trans (hb1.mono hB1.size) | exact hB1.trans (Below.undrew (hb1.mono hB1.size)) | exact hb1 | exact Below.trans (by go_grown) (hb1.mono (by simp <;> omega))); have hcT := fun (o : Nat) => hb1.cell (p := ⟨T, o, none⟩) (by first | assumption | (simp <;> omega)); have hfT := fun (o : Nat) => hb1.frozen (p := ⟨T, o, none⟩) (by first | assumption | (simp <;> omega)); have hzT : T < w1.heap.size := Nat.lt_of_lt_of_le (by first | assumption | (simp <;> omega)) hb1.size; have hcN := fun (o : Nat) => hb1.cell (p := ⟨N, o, none⟩) (by first | assumption | (simp <;> omega)); have hfN := fun (o : Nat) => hb1.frozen (p := ⟨N, o, none⟩) (by first | assumption | (simp <;> omega)); have hzN : N < w1.heap.size := Nat.lt_of_lt_of_le (by first | assumption | (simp <;> omega)) hb1.size); refine hK.out _ _ (by first | (with_reducible exact Chg.refl _ _) | (with_reducible assumption) | (refine Chg.of_below ?_; with_reducible assumption) | (with_reducible exact (Chg.refl _ _).alloc _) | (with_reducible exact (Chg.refl _ _).drewN _) | (with_reducible exact (Chg.refl _ _).drew) | exact ⟨rfl, rfl, rfl, Nat.le_refl _, fun _ _ _ => rfl⟩) ?_; clear hK K
          try simp only [Act.put, List.setIfInBounds_toArray, List.set_cons_zero, List.set_cons_succ]
          refine seq_calc (by simp only [List.getElem?_toArray, List.getElem?_cons_succ, List.getElem?_cons_zero]; rfl) (by rfl) (fun u => by go_simp <;> with_reducible rfl) ?_
          try simp only [Act.put, List.setIfInBounds_toArray, List.set_cons_zero, List.set_cons_succ]
          refine seq_calc (by simp only [List.getElem?_toArray, List.getElem?_cons_succ, List.getElem?_cons_zero]; rfl) (by rfl) (fun u => by go_simp <;> with_reducible rfl) ?_
          try simp only [Act.put, List.setIfInBounds_toArray, List.set_cons_zero, List.set_cons_succ]
          first
            | (refine seq_skip (by simp only [List.getElem?_toArray, List.getElem?_cons_succ, List.getElem?_cons_zero]; rfl) (by rfl) ?_)
            | (refine seq_calc (by simp only [List.getElem?_toArray, List.getElem?_cons_succ, List.getElem?_cons_zero]; rfl) (by rfl) (fun u => by go_simp <;> with_reducible rfl) ?_)
          try simp only [Act.put, List.setIfInBounds_toArray, List.set_cons_zero, List.set_cons_succ]
          first
            | (refine seq_skip (by simp only [List.getElem?_toArray, List.getElem?_cons_succ, List.getElem?_cons_zero]; rfl) (by rfl) ?_)
            | (refine seq_calc (by simp only [List.getElem?_toArray, List.getElem?_cons_succ, List.getElem?_cons_zero]; rfl) (by rfl) (fun u => by go_simp <;> with_reducible rfl) ?_)
          try simp only [Act.put, List.setIfInBounds_toArray, List.set_cons_zero, List.set_cons_succ]
          first
            | (refine seq_skip (by simp only [List.getElem?_toArray, List.getElem?_cons_succ, List.getElem?_cons_zero]; rfl) (by rfl) ?_)
            | (refine seq_calc (by simp only [List.getElem?_toArray, List.getElem?_cons_succ, List.getElem?_cons_zero]; rfl) (by rfl) (fun u => by go_simp <;> with_reducible rfl) ?_)
          try simp only [Act.put, List.setIfInBounds_toArray, List.set_cons_zero, List.set_cons_succ]
          first
            | (refine seq_skip (by simp only [List.getElem?_toArray, List.getElem?_cons_succ, List.getElem?_cons_zero]; rfl) (by rfl) ?_)
            | (refine seq_calc (by simp only [List.getElem?_toArray, List.getElem?_cons_succ, List.getElem?_cons_zero]; rfl) (by rfl) (fun u => by go_simp <;> with_reducible rfl) ?_)
          try simp only [Act.put, List.setIfInBounds_toArray, List.set_cons_zero, List.set_cons_succ]
          first
            | (refine seq_skip (by simp only [List.getElem?_toArray, List.getElem?_cons_succ, List.getElem?_cons_zero]; rfl) (by rfl) ?_)
            | (refine seq_calc (by simp only [List.getElem?_toArray, List.getElem?_cons_succ, List.getElem?_cons_zero]; rfl) (by rfl) (fun u => by go_simp <;> with_reducible rfl) ?_)
          try simp only [Act.put, List.setIfInBounds_toArray, List.set_cons_zero, List.set_cons_succ]
          first
            | (refine seq_skip (by simp only [List.getElem?_toArray, List.getElem?_cons_succ, List.getElem?_cons_zero]; rfl) (by rfl) ?_)
            | (refine seq_last (by simp only [List.getElem?_toArray, List.getElem?_cons_succ, List.getElem?_cons_zero]; rfl) (by rfl) (fun K hK => ?_); go_wp2_with (go_at_call 46; refine (meterLast_any m' B 64 _ HQw.out).mono ?_; rintro e w1 ⟨rfl, hb1⟩; replace HQw := Lib.hid (HQw.out.below hb1 HQw.out.lt); have hB1 : Below w.heap.size w w1 := (by first | exact hB1.trans (hb1.mono hB1.size) | exact hB1.trans (Below.undrew (hb1.mono hB1.size)) | exact hb1 | exact Below.trans (by go_grown) (hb1.mono (by simp <;> omega))); have hcT := fun (o : Nat) => hb1.cell (p := ⟨T, o, none⟩) (by first | assumption | (simp <;> omega)); have hfT := fun (o : Nat) => hb1.frozen (p := ⟨T, o, none⟩) (by first | assumption | (simp <;> omega)); have hzT : T < w1.heap.size := Nat.lt_of_lt_of_le (by first | assumption | (simp <;> omega)) hb1.size; have hcN := fun (o : Nat) => hb1.cell (p := ⟨N, o, none⟩) (by first | assumption | (simp <;> omega)); have hfN := fun (o : Nat) => hb1.frozen (p := ⟨N, o, none⟩) (by first | assumption | (simp <;> omega)); have hzN : N < w1.heap.size := Nat.lt_of_lt_of_le (by first | assumption | (simp <;> omega)) hb1.size); refine hK.out _ _ ?_; clear hK K)
          try simp only [Act.put, List.setIfInBounds_toArray, List.set_cons_zero, List.set_cons_succ]
          first
            | (refine seq_skip (by simp only [List.getElem?_toArray, List.getElem?_cons_succ, List.getElem?_cons_zero]; rfl) (by rfl) ?_)
            | (refine seq_calc (by simp only [List.getElem?_toArray, List.getElem?_cons_succ, List.getElem?_cons_zero]; rfl) (by rfl) (fun u => by go_simp <;> with_reducible rfl) ?_)
          try simp only [Act.put, List.setIfInBounds_toArray, List.set_cons_zero, List.set_cons_succ]
          first
            | (refine seq_skip (by simp only [List.getElem?_toArray, List.getElem?_cons_succ, List.getElem?_cons_zero]; rfl) (by rfl) ?_)
            | (refine seq_calc (by simp only [List.getElem?_toArray, List.getElem?_cons_succ, List.getElem?_cons_zero]; rfl) (by rfl) (fun u => by go_simp <;> with_reducible rfl) ?_)
          try simp only [Act.put, List.setIfInBounds_toArray, List.set_cons_zero, List.set_cons_succ]
          first
            | (refine seq_skip (by simp only [List.getElem?_toArray, List.getElem?_cons_succ, List.getElem?_cons_zero]; rfl) (by rfl) ?_)
            | (refine seq_calc (by simp only [List.getElem?_toArray, List.getElem?_cons_succ, List.getElem?_cons_zero]; rfl) (by rfl) (fun u => by go_simp <;> with_reducible rfl) ?_)
          try simp only [Act.put, List.setIfInBounds_toArray, List.set_cons_zero, List.set_cons_succ]
          refine seq_calc (by simp only [List.getElem?_toArray, List.getElem?_cons_succ, List.getElem?_cons_zero]; rfl) (by rfl) (fun u => by go_simp <;> with_reducible rfl) ?_
          try simp only [Act.put, List.setIfInBounds_toArray, List.set_cons_zero, List.set_cons_succ]
          refine seq_nil ?_
          go_wp2
          go_roundw
          case rel => exact ⟨i + 1, m', _, _, _, by omega, by go_num, HL2.out, HQw.out, HTw.out.below hB1 HTw.out.lt, HBw.out.trans (hB1.mono HBw.out.size)⟩
          case measure => simp [intOf]; omega
        · skip
          have d0 : decide (limit ≥ 0) = false := by simp; omega
          refine wp_region_seq (fun _ => False) #[⟨0, 0, 36893488147419103232, 32, 0⟩, ⟨1, 1, 73786976294838206464, 36893488147419103232, 2⟩, ⟨0, 0, 147573952589676412928, 512, 0⟩, ⟨4, 4, 295147905179352825856, 147573952589676412928, 1⟩, ⟨0, 0, 590295810358705651712, 64, 0⟩, ⟨16, 16, 1180591620717411303424, 590295810358705651712, 1⟩, ⟨40, 60, 2361183241434822606848, 1475739525896764129280, 0⟩, ⟨0, 0, 4722366482869645213696, 512, 0⟩, ⟨128, 128, 9444732965739290427392, 4722366482869645213696, 1⟩, ⟨0, 0, 18889465931478580854784, 64, 0⟩, ⟨512, 512, 37778931862957161709568, 18889465931478580854784, 1⟩, ⟨1280, 1920, 75557863725914323419136, 47223664828696452136960, 0⟩, ⟨0, 0, 151115727451828646838272, 512, 0⟩, ⟨4096, 4096, 302231454903657293676544, 151115727451828646838272, 1⟩, ⟨0, 0, 604462909807314587353088, 64, 0⟩, ⟨16384, 16384, 1208925819614629174706176, 604462909807314587353088, 1⟩, ⟨40960, 61440, 2417851639229258349412352, 1511157274518286468382720, 0⟩, ⟨67648, 131068, 4835703278458516698824704, 2495770686196607495438336, 0⟩, ⟨131074, 262143, 9671406556917033397649408, 4835777065434811537031168, 0⟩, ⟨262146, 524287, 19342813113834066795298816, 9671406556917033397649408, 0⟩, ⟨524288, 1048575, 38685626227668133590597632, 19342813113834066795298818, 0⟩, ⟨1572864, 2097151, 77371252455336267181195264, 58028439341502200385896448, 0⟩, ⟨2621440, 4194303, 154742504910672534362390528, 96714065569170333976494080, 0⟩, ⟨4194304, 8388607, 309485009821345068724781056, 154742504910672534362390560, 0⟩, ⟨12582912, 16777215, 618970019642690137449562112, 464227514732017603087171584, 3⟩, ⟨20971520, 33554431, 1237940039285380274899124224, 773712524553362671811952640, 0⟩, ⟨4194304, 8388607, 2475880078570760549798248448, 154742504910672534362390530, 0⟩, ⟨104857600, 134217727, 4951760157141521099596496896, 3868562622766813359059763200, 0⟩, ⟨138936320, 268435455, 9903520314283042199192993792, 5125845475166027700754186240, 0⟩, ⟨268959744, 536870911, 19807040628566084398385987584, 9922863127396876265988292608, 0⟩] 42280 [(0, 0), (2, 0), (3, 1), (4, 0), (5, 1), (6, 0), (7, 0), (8, 1), (9, 0), (10, 1), (11, 0), (12, 0), (13, 1), (14, 0), (15, 1), (16, 0), (17, 0), (1, 2), (18, 0), (19, 0), (20, 0), (21, 0), (22, 0), (23, 0), (26, 0), (24, 3), (25, 0), (27, 0), (28, 0), (29, 0)] (by kernel_rfl) (by kernel_rfl) (by kernel_rfl) (by kernel_rfl) (by kernel_rfl) (by kernel_rfl) (fun c a d v w h => by cases d <;> exact h) ?_
          refine seq_calc (by simp only [List.getElem?_toArray, List.getElem?_cons_succ, List.getElem?_cons_zero]; rfl) (by rfl) (fun u => by go_simp <;> with_reducible rfl) ?_
          try simp only [Act.put, List.setIfInBounds_toArray, List.set_cons_zero, List.set_cons_succ]
          refine seq_calc (by simp only [List.getElem?_toArray, List.getElem?_cons_succ, List.getElem?_cons_zero]; rfl) (by rfl) (fun u => by go_simp <;> with_reducible rfl) ?_
          try simp only [Act.put, List.setIfInBounds_toArray, List.set_cons_zero, List.set_cons_succ]
          refine seq_load1 (by simp only [List.getElem?_toArray, List.getElem?_cons_succ, List.getElem?_cons_zero]; rfl) (by rfl) rfl rfl Tryd.underlying3 rfl (by go_simp <;> with_reducible rfl) (by first | exact id | assumption | (simp; done) | (simp; omega)) ?_
          try simp only [Act.put, List.setIfInBounds_toArray, List.set_cons_zero, List.set_cons_succ]
          refine seq_calc (by simp only [List.getElem?_toArray, List.getElem?_cons_succ, List.getElem?_cons_zero]; rfl) (by rfl) (fun u => by go_simp <;> with_reducible rfl) ?_
          try simp only [Act.put, List.setIfInBounds_toArray, List.set_cons_zero, List.set_cons_succ]
          refine seq_load1 (by simp only [List.getElem?_toArray, List.getElem?_cons_succ, List.getElem?_cons_zero]; rfl) (by rfl) rfl rfl Tryd.underlying3 rfl (by go_simp <;> with_reducible rfl) (by first | exact id | assumption | (simp; done) | (simp; omega)) ?_
          try simp only [Act.put, List.setIfInBounds_toArray, List.set_cons_zero, List.set_cons_succ]
          refine seq_calc (by simp only [List.getElem?_toArray, List.getElem?_cons_succ, List.getElem?_cons_zero]; rfl) (by rfl) (fun u => by go_simp <;> with_reducible rfl) ?_
          try simp only [Act.put, List.setIfInBounds_toArray, List.set_cons_zero, List.set_cons_succ]
          refine seq_calc (by simp only [List.getElem?_toArray, List.getElem?_cons_succ, List.getElem?_cons_zero]; rfl) (by rfl) (fun u => by go_simp <;> with_reducible rfl) ?_
          try simp only [Act.put, List.setIfInBounds_toArray, List.set_cons_zero, List.set_cons_succ]
          refine seq_load1 (by simp only [List.getElem?_toArray, List.getElem?_cons_succ, List.getElem?_cons_zero]; rfl) (by rfl) rfl rfl Tryd.underlying3 rfl (by go_simp <;> with_reducible rfl) (by first | exact id | assumption | (simp; done) | (simp; omega)) ?_
          try simp only [Act.put, List.setIfInBounds_toArray, List.set_cons_zero, List.set_cons_succ]
          refine seq_calc (by simp only [List.getElem?_toArray, List.getElem?_cons_succ, List.getElem?_cons_zero]; rfl) (by rfl) (fun u => by go_simp <;> with_reducible rfl) ?_
          try simp only [Act.put, List.setIfInBounds_toArray, List.set_cons_zero, List.set_cons_succ]
          refine seq_load1 (by simp only [List.getElem?_toArray, List.getElem?_cons_succ, List.getElem?_cons_zero]; rfl) (by rfl) rfl rfl Tryd.underlying3 rfl (by go_simp <;> with_reducible rfl) (by first | exact id | assumption | (simp; done) | (simp; omega)) ?_
          try simp only [Act.put, List.setIfInBounds_toArray, List.set_cons_zero, List.set_cons_succ]
          refine seq_calc (by simp only [List.getElem?_toArray, List.getElem?_cons_succ, List.getElem?_cons_zero]; rfl) (by rfl) (fun u => by go_simp <;> with_reducible rfl) ?_
          try simp only [Act.put, List.setIfInBounds_toArray, List.set_cons_zero, List.set_cons_succ]
          refine seq_calc (by simp only [List.getElem?_toArray, List.getElem?_cons_succ, List.getElem?_cons_zero]; rfl) (by rfl) (fun u => by go_simp <;> with_reducible rfl) ?_
          try simp only [Act.put, List.setIfInBounds_toArray, List.set_cons_zero, List.set_cons_succ]
          refine seq_load1 (by simp only [List.getElem?_toArray, List.getElem?_cons_succ, List.getElem?_cons_zero]; rfl) (by rfl) rfl rfl Tryd.underlying3 rfl (by go_simp <;> with_reducible rfl) (by first | exact id | assumption | (simp; done) | (simp; omega)) ?_
          try simp only [Act.put, List.setIfInBounds_toArray, List.set_cons_zero, List.set_cons_succ]
          refine seq_calc (by simp only [List.getElem?_toArray, List.getElem?_cons_succ, List.getElem?_cons_zero]; rfl) (by rfl) (fun u => by go_simp <;> with_reducible rfl) ?_
          try simp only [Act.put, List.setIfInBounds_toArray, List.set_cons_zero, List.set_cons_succ]
          refine seq_load1 (by simp only [List.getElem?_toArray, List.getElem?_cons_succ, List.getElem?_cons_zero]; rfl) (by rfl) rfl rfl Tryd.underlying3 rfl (by go_simp <;> with_reducible rfl) (by first | exact id | assumption | (simp; done) | (simp; omega)) ?_
          try simp only [Act.put, List.setIfInBounds_toArray, List.set_cons_zero, List.set_cons_succ]
          refine seq_calc (by simp only [List.getElem?_toArray, List.getElem?_cons_succ, List.getElem?_cons_zero]; rfl) (by rfl) (fun u => by go_simp <;> with_reducible rfl) ?_
          try simp only [Act.put, List.setIfInBounds_toArray, List.set_cons_zero, List.set_cons_succ]
          refine seq_calc (by simp only [List.getElem?_toArray, List.getElem?_cons_succ, List.getElem?_cons_zero]; rfl) (by rfl) (fun u => by go_simp <;> with_reducible rfl) ?_
          try simp only [Act.put, List.setIfInBounds_toArray, List.set_cons_zero, List.set_cons_succ]
          refine seq_do (by simp only [List.getElem?_toArray, List.getElem?_cons_succ, List.getElem?_cons_zero]; rfl) (by rfl) (fun K hK => ?_); go_wp2_with (go_at_call 46; refine (meterLast_any m' B 64 _ HQw.out).mono ?_; rintro e w1 ⟨rfl, hb1⟩; replace HQw := Lib.hid (HQw.out.below hb1 HQw.out.lt); have hB1 : Below w.heap.size w w1 := (by first | exact hB1.trans (hb1.mono hB1.size) | exact hB1.trans (Below.undrew (hb1.mono hB1.size)) | exact hb1 | exact Below.trans (by go_grown) (hb1.mono (by simp <;> omega))); have hcT := fun (o : Nat) => hb1.cell (p := ⟨T, o, none⟩) (by first | assumption | (simp <;> omega)); have hfT := fun (o : Nat) => hb1.frozen (p := ⟨T, o, none⟩) (by first | assumption | (simp <;> omega)); have hzT : T < w1.heap.size := Nat.lt_of_lt_of_le (by first | assumption | (simp <;> omega)) hb1.size; have hcN := fun (o : Nat) => hb1.cell (p := ⟨N, o, none⟩) (by first | assumption | (simp <;> omega)); have hfN := fun (o : Nat) => hb1.frozen (p := ⟨N, o, none⟩) (by first | assumption | (simp <;> omega)); have hzN : N < w1.heap.size := Nat.lt_of_lt_of_le (by first | assumption | (simp <;> omega)) hb1.size); refine hK.out _ _ (by first | (with_reducible exact Chg.refl _ _) | (with_reducible assumption) | (refine Chg.of_below ?_; with_reducible assumption) | (with_reducible exact (Chg.refl _ _).alloc _) | (with_reducible exact (Chg.refl _ _).drewN _) | (with_reducible exact (Chg.refl _ _).drew) | exact ⟨rfl, rfl, rfl, Nat.le_refl _, fun _ _ _ => rfl⟩) ?_; clear hK K
          try simp only [Act.put, List.setIfInBounds_toArray, List.set_cons_zero, List.set_cons_succ]
          refine seq_calc (by simp only [List.getElem?_toArray, List.getElem?_cons_succ, List.getElem?_cons_zero]; rfl) (by rfl) (fun u => by go_simp <;> with_reducible rfl) ?_
          try simp only [Act.put, List.setIfInBounds_toArray, List.set_cons_zero, List.set_cons_succ]
          refine seq_calc (by simp only [List.getElem?_toArray, List.getElem?_cons_succ, List.getElem?_cons_zero]; rfl) (by rfl) (fun u => by go_simp <;> with_reducible rfl) ?_
          try simp only [Act.put, List.setIfInBounds_toArray, List.set_cons_zero, List.set_cons_succ]
          first
            | (refine seq_skip (by simp only [List.getElem?_toArray, List.getElem?_cons_succ, List.getElem?_cons_zero]; rfl) (by rfl) ?_)
            | (refine seq_calc (by simp only [List.getElem?_toArray, List.getElem?_cons_succ, List.getElem?_cons_zero]; rfl) (by rfl) (fun u => by go_simp <;> with_reducible rfl) ?_)
          try simp only [Act.put, List.setIfInBounds_toArray, List.set_cons_zero, List.set_cons_succ]
          first
            | (refine seq_skip (by simp only [List.getElem?_toArray, List.getElem?_cons_succ, List.getElem?_cons_zero]; rfl) (by rfl) ?_)
            | (refine seq_calc (by simp only [List.getElem?_toArray, List.getElem?_cons_succ, List.getElem?_cons_zero]; rfl) (by rfl) (fun u => by go_simp <;> with_reducible rfl) ?_)
          try simp only [Act.put, List.setIfInBounds_toArray, List.set_cons_zero, List.set_cons_succ]
          first
            | (refine seq_skip (by simp only [List.getElem?_toArray, List.getElem?_cons_succ, List.getElem?_cons_zero]; rfl) (by rfl) ?_)
            | (refine seq_calc (by simp only [List.getElem?_toArray, List.getElem?_cons_succ, List.getElem?_cons_zero]; rfl) (by rfl) (fun u => by go_simp <;> with_reducible rfl) ?_)
          try simp only [Act.put, List.setIfInBounds_toArray, List.set_cons_zero, List.set_cons_succ]
          first
            | (refine seq_skip (by simp only [List.getElem?_toArray, List.getElem?_cons_succ, List.getElem?_cons_zero]; rfl) (by rfl) ?_)
            | (refine seq_calc (by simp only [List.getElem?_toArray, List.getElem?_cons_succ, List.getElem?_cons_zero]; rfl) (by rfl) (fun u => by go_simp <;> with_reducible rfl) ?_)
          try simp only [Act.put, List.setIfInBounds_toArray, List.set_cons_zero, List.set_cons_succ]
          first
            | (refine seq_skip (by simp only [List.getElem?_toArray, List.getElem?_cons_succ, List.getElem?_cons_zero]; rfl) (by rfl) ?_)
            | (refine seq_calc (by simp only [List.getElem?_toArray, List.getElem?_cons_succ, List.getElem?_cons_zero]; rfl) (by rfl) (fun u => by go_simp <;> with_reducible rfl) ?_)
          try simp only [Act.put, List.setIfInBounds_toArray, List.set_cons_zero, List.set_cons_succ]
          first
            | (refine seq_skip (by simp only [List.getElem?_toArray, List.getElem?_cons_succ, List.getElem?_cons_zero]; rfl) (by rfl) ?_)
            | (refine seq_last (by simp only [List.getElem?_toArray, List.getElem?_cons_succ, List.getElem?_cons_zero]; rfl) (by rfl) (fun K hK => ?_); go_wp2_with (go_at_call 46; refine (meterLast_any m' B 64 _ HQw.out).mono ?_; rintro e w1 ⟨rfl, hb1⟩; replace HQw := Lib.hid (HQw.out.below hb1 HQw.out.lt); have hB1 : Below w.heap.size w w1 := (by first | exact hB1.trans (hb1.mono hB1.size) | exact hB1.trans (Below.undrew (hb1.mono hB1.size)) | exact hb1 | exact Below.trans (by go_grown) (hb1.mono (by simp <;> omega))); have hcT := fun (o : Nat) => hb1.cell (p := ⟨T, o, none⟩) (by first | assumption | (simp <;> omega)); have hfT := fun (o : Nat) => hb1.frozen (p := ⟨T, o, none⟩) (by first | assumption | (simp <;> omega)); have hzT : T < w1.heap.size := Nat.lt_of_lt_of_le (by first | assumption | (simp <;> omega)) hb1.size; have hcN := fun (o : Nat) => hb1.cell (p := ⟨N, o, none⟩) (by first | assumption | (simp <;> omega)); have hfN := fun (o : Nat) => hb1.frozen (p := ⟨N, o, none⟩) (by first | assumption | (simp <;> omega)); have hzN : N < w1.heap.size := Nat.lt_of_lt_of_le (by first | assumption | (simp <;> omega)) hb1.size); refine hK.out _ _ ?_; clear hK K)
          try simp only [Act.put, List.setIfInBounds_toArray, List.set_cons_zero, List.set_cons_succ]
          first
            | (refine seq_skip (by simp only [List.getElem?_toArray, List.getElem?_cons_succ, List.getElem?_cons_zero]; rfl) (by rfl) ?_)
            | (refine seq_calc (by simp only [List.getElem?_toArray, List.getElem?_cons_succ, List.getElem?_cons_zero]; rfl) (by rfl) (fun u => by go_simp <;> with_reducible rfl) ?_)
          try simp only [Act.put, List.setIfInBounds_toArray, List.set_cons_zero, List.set_cons_succ]
          first
            | (refine seq_skip (by simp only [List.getElem?_toArray, List.getElem?_cons_succ, List.getElem?_cons_zero]; rfl) (by rfl) ?_)
            | (refine seq_calc (by simp only [List.getElem?_toArray, List.getElem?_cons_succ, List.getElem?_cons_zero]; rfl) (by rfl) (fun u => by go_simp <;> with_reducible rfl) ?_)
          try simp only [Act.put, List.setIfInBounds_toArray, List.set_cons_zero, List.set_cons_succ]
          first
            | (refine seq_skip (by simp only [List.getElem?_toArray, List.getElem?_cons_succ, List.getElem?_cons_zero]; rfl) (by rfl) ?_)
            | (refine seq_calc (by simp only [List.getElem?_toArray, List.getElem?_cons_succ, List.getElem?_cons_zero]; rfl) (by rfl) (fun u => by go_simp <;> with_reducible rfl) ?_)
          try simp only [Act.put, List.setIfInBounds_toArray, List.set_cons_zero, List.set_cons_succ]
          refine seq_calc (by simp only [List.getElem?_toArray, List.getElem?_cons_succ, List.getElem?_cons_zero]; rfl) (by rfl) (fun u => by go_simp <;> with_reducible rfl) ?_
          try simp only [Act.put, List.setIfInBounds_toArray, List.set_cons_zero, List.set_cons_succ]
          refine seq_nil ?_
          go_wp2
          go_roundw
          case rel => exact ⟨i + 1, m', _, _, _, by omega, by go_num, HL2.out, HQw.out, HTw.out.below hB1 HTw.out.lt, HBw.out.trans (hB1.mono HBw.out.size)⟩
          case measure => simp [intOf]; omega
      have HL2 := Lib.hid (HL.out.step (by omega) k n k3 k4 (fun h => (k2 h).elim))
      generalize doS m k n = m' at *
      generalize doBad m k n = p at *
      have e3 : (k == 3) = false := by simpa using k3
      clear k2 k3 k4
      go_upto_region 19 with (go_at_call 43; refine DO.out.mono ?_; rintro e w5 ⟨rfl, h5, c5⟩; have HQt := Lib.hid h5; have a0 := (hAct0.out.chg c5 hAB).cell 0; clear h5)
      have HTt := Lib.hid (hTA.out.chg c5 hTB)
      have HBt := Lib.hid (hBA.out.trans (c5.below (n := w0.heap.size) hBA.out.size (fun k hk e => by omega)))
      clear DO c5
      go_upto_region 20 with (go_at_call 45; refine (meterAll_any m' B 64 _ HQt.out).mono ?_; rintro e w7 ⟨rfl, hb7⟩)
      have hQ7 := HQt.out.below hb7 HQt.out.lt
      have hT7 := HTt.out.below hb7 HTt.out.lt
      have hB7 := HBt.out.trans (hb7.mono HBt.out.size)
      have hz7 := hB7.size
      refine wp_at (fun w hW => ?_)
      have HQw := Lib.hid (show Blk w B 64 m'.cells by rw [hW]; exact hQ7.alloc _)
      have HTw := Lib.hid (show Blk w T 62 (cntC t0 t1 t2) by rw [hW]; exact hT7.alloc _)
      have HBw := Lib.hid (show Below w0.heap.size w0 w by rw [hW]; exact hB7.alloc hz7 _)
      have HNw := Lib.hid (show Blk w w7.heap.size 62 (cntC m'.a0 m'.a1 m'.a2) by rw [hW]; exact Blk.new _ _ _)
      clear hW hQ7 hT7 hB7 hz7 hb7 HQt HTt HBt
      obtain ⟨N, hN⟩ : ∃ N, N = w7.heap.size := ⟨_, rfl⟩
      rw [← hN] at HNw ⊢
      clear hN
      obtain ⟨s0, s1, s2⟩ := cntC_cells HTw.out
      obtain ⟨y0, y1, y2⟩ := cntC_cells HNw.out
      have hzT := HTw.out.lt
      have hzN := HNw.out.lt
      have x0 : IntKind.i64.wrap (m'.a0 - t0) = m'.l0 := by have h := HL2.out; rw [h.e0]; exact IntWalk.i64_in _ (by have := h.b0; omega)
      have x1' : IntKind.i64.wrap (m'.a1 - t1) = m'.l1 := by have h := HL2.out; rw [h.e1]; exact IntWalk.i64_in _ (by have := h.b1; omega)
      have x2' : IntKind.i64.wrap (m'.a2 - t2) = m'.l2 := by have h := HL2.out; rw [h.e2]; exact IntWalk.i64_in _ (by have := h.b2; omega)
      have LB := Lib.hid HL2.out.lb
      have hfu := field_units
      replace HQw := Lib.hid (Blk.drew HQw.out)
      by_cases hl0 : 0 ≤ limit
      · skip
        have d0 : decide (limit ≥ 0) = true := by simpa using hl0
        have d1 : decide (m'.l2 > limit) = false := by have := LB.out hl0; simp; omega
        refine wp_region_seq (fun _ => False) #[⟨0, 0, 36893488147419103232, 32, 0⟩, ⟨1, 1, 73786976294838206464, 36893488147419103232, 2⟩, ⟨0, 0, 147573952589676412928, 512, 0⟩, ⟨4, 4, 295147905179352825856, 147573952589676412928, 1⟩, ⟨0, 0, 590295810358705651712, 64, 0⟩, ⟨16, 16, 1180591620717411303424, 590295810358705651712, 1⟩, ⟨40, 60, 2361183241434822606848, 1475739525896764129280, 0⟩, ⟨0, 0, 4722366482869645213696, 512, 0⟩, ⟨128, 128, 9444732965739290427392, 4722366482869645213696, 1⟩, ⟨0, 0, 18889465931478580854784, 64, 0⟩, ⟨512, 512, 37778931862957161709568, 18889465931478580854784, 1⟩, ⟨1280, 1920, 75557863725914323419136, 47223664828696452136960, 0⟩, ⟨0, 0, 151115727451828646838272, 512, 0⟩, ⟨4096, 4096, 302231454903657293676544, 151115727451828646838272, 1⟩, ⟨0, 0, 604462909807314587353088, 64, 0⟩, ⟨16384, 16384, 1208925819614629174706176, 604462909807314587353088, 1⟩, ⟨40960, 61440, 2417851639229258349412352, 1511157274518286468382720, 0⟩, ⟨67648, 131068, 4835703278458516698824704, 2495770686196607495438336, 0⟩, ⟨131074, 262143, 9671406556917033397649408, 4835777065434811537031168, 0⟩, ⟨262146, 524287, 19342813113834066795298816, 9671406556917033397649408, 0⟩, ⟨524288, 1048575, 38685626227668133590597632, 19342813113834066795298818, 0⟩, ⟨1572864, 2097151, 77371252455336267181195264, 58028439341502200385896448, 0⟩, ⟨2621440, 4194303, 154742504910672534362390528, 96714065569170333976494080, 0⟩, ⟨4194304, 8388607, 309485009821345068724781056, 154742504910672534362390560, 0⟩, ⟨12582912, 16777215, 618970019642690137449562112, 464227514732017603087171584, 3⟩, ⟨20971520, 33554431, 1237940039285380274899124224, 773712524553362671811952640, 0⟩, ⟨4194304, 8388607, 2475880078570760549798248448, 154742504910672534362390530, 0⟩, ⟨104857600, 134217727, 4951760157141521099596496896, 3868562622766813359059763200, 0⟩, ⟨138936320, 268435455, 9903520314283042199192993792, 5125845475166027700754186240, 0⟩, ⟨268959744, 536870911, 19807040628566084398385987584, 9922863127396876265988292608, 0⟩] 42280 [(0, 0), (2, 0), (3, 1), (4, 0), (5, 1), (6, 0), (7, 0), (8, 1), (9, 0), (10, 1), (11, 0), (12, 0), (13, 1), (14, 0), (15, 1), (16, 0), (17, 0), (1, 2), (18, 0), (19, 0), (20, 0), (21, 0), (22, 0), (23, 0), (26, 0), (24, 3), (25, 0), (27, 0), (28, 0), (29, 0)] (by kernel_rfl) (by kernel_rfl) (by kernel_rfl) (by kernel_rfl) (by kernel_rfl) (by kernel_rfl) (fun c a d v w h => by cases d <;> exact h) ?_
        refine seq_calc (by simp only [List.getElem?_toArray, List.getElem?_cons_succ, List.getElem?_cons_zero]; rfl) (by rfl) (fun u => by go_simp <;> with_reducible rfl) ?_
        try simp only [Act.put, List.setIfInBounds_toArray, List.set_cons_zero, List.set_cons_succ]
        refine seq_calc (by simp only [List.getElem?_toArray, List.getElem?_cons_succ, List.getElem?_cons_zero]; rfl) (by rfl) (fun u => by go_simp <;> with_reducible rfl) ?_
        try simp only [Act.put, List.setIfInBounds_toArray, List.set_cons_zero, List.set_cons_succ]
        refine seq_load1 (by simp only [List.getElem?_toArray, List.getElem?_cons_succ, List.getElem?_cons_zero]; rfl) (by rfl) rfl rfl Tryd.underlying3 rfl (by go_simp <;> with_reducible rfl) (by first | exact id | assumption | (simp; done) | (simp; omega)) ?_
        try simp only [Act.put, List.setIfInBounds_toArray, List.set_cons_zero, List.set_cons_succ]
        refine seq_calc (by simp only [List.getElem?_toArray, List.getElem?_cons_succ, List.getElem?_cons_zero]; rfl) (by rfl) (fun u => by go_simp <;> with_reducible rfl) ?_
        try simp only [Act.put, List.setIfInBounds_toArray, List.set_cons_zero, List.set_cons_succ]
        refine seq_load1 (by simp only [List.getElem?_toArray, List.getElem?_cons_succ, List.getElem?_cons_zero]; rfl) (by rfl) rfl rfl Tryd.underlying3 rfl (by go_simp <;> with_reducible rfl) (by first | exact id | assumption | (simp; done) | (simp; omega)) ?_
        try simp only [Act.put, List.setIfInBounds_toArray, List.set_cons_zero, List.set_cons_succ]
        refine seq_calc (by simp only [List.getElem?_toArray, List.getElem?_cons_succ, List.getElem?_cons_zero]; rfl) (by rfl) (fun u => by go_simp <;> with_reducible rfl) ?_
        try simp only [Act.put, List.setIfInBounds_toArray, List.set_cons_zero, List.set_cons_succ]
        refine seq_calc (by simp only [List.getElem?_toArray, List.getElem?_cons_succ, List.getElem?_cons_zero]; rfl) (by rfl) (fun u => by go_simp <;> with_reducible rfl) ?_
        try simp only [Act.put, List.setIfInBounds_toArray, List.set_cons_zero, List.set_cons_succ]
        refine seq_load1 (by simp only [List.getElem?_toArray, List.getElem?_cons_succ, List.getElem?_cons_zero]; rfl) (by rfl) rfl rfl Tryd.underlying3 rfl (by go_simp <;> with_reducible rfl) (by first | exact id | assumption | (simp; done) | (simp; omega)) ?_
        try simp only [Act.put, List.setIfInBounds_toArray, List.set_cons_zero, List.set_cons_succ]
        refine seq_calc (by simp only [List.getElem?_toArray, List.getElem?_cons_succ, List.getElem?_cons_zero]; rfl) (by rfl) (fun u => by go_simp <;> with_reducible rfl) ?_
        try simp only [Act.put, List.setIfInBounds_toArray, List.set_cons_zero, List.set_cons_succ]
        refine seq_load1 (by simp only [List.getElem?_toArray, List.getElem?_cons_succ, List.getElem?_cons_zero]; rfl) (by rfl) rfl rfl Tryd.underlying3 rfl (by go_simp <;> with_reducible rfl) (by first | exact id | assumption | (simp; done) | (simp; omega)) ?_
        try simp only [Act.put, List.setIfInBounds_toArray, List.set_cons_zero, List.set_cons_succ]
        refine seq_calc (by simp only [List.getElem?_toArray, List.getElem?_cons_succ, List.getElem?_cons_zero]; rfl) (by rfl) (fun u => by go_simp <;> with_reducible rfl) ?_
        try simp only [Act.put, List.setIfInBounds_toArray, List.set_cons_zero, List.set_cons_succ]
        refine seq_calc (by simp only [List.getElem?_toArray, List.getElem?_cons_succ, List.getElem?_cons_zero]; rfl) (by rfl) (fun u => by go_simp <;> with_reducible rfl) ?_
        try simp only [Act.put, List.setIfInBounds_toArray, List.set_cons_zero, List.set_cons_succ]
        refine seq_load1 (by simp only [List.getElem?_toArray, List.getElem?_cons_succ, List.getElem?_cons_zero]; rfl) (by rfl) rfl rfl Tryd.underlying3 rfl (by go_simp <;> with_reducible rfl) (by first | exact id | assumption | (simp; done) | (simp; omega)) ?_
        try simp only [Act.put, List.setIfInBounds_toArray, List.set_cons_zero, List.set_cons_succ]
        refine seq_calc (by simp only [List.getElem?_toArray, List.getElem?_cons_succ, List.getElem?_cons_zero]; rfl) (by rfl) (fun u => by go_simp <;> with_reducible rfl) ?_
        try simp only [Act.put, List.setIfInBounds_toArray, List.set_cons_zero, List.set_cons_succ]
        refine seq_load1 (by simp only [List.getElem?_toArray, List.getElem?_cons_succ, List.getElem?_cons_zero]; rfl) (by rfl) rfl rfl Tryd.underlying3 rfl (by go_simp <;> with_reducible rfl) (by first | exact id | assumption | (simp; done) | (simp; omega)) ?_
        try simp only [Act.put, List.setIfInBounds_toArray, List.set_cons_zero, List.set_cons_succ]
        refine seq_calc (by simp only [List.getElem?_toArray, List.getElem?_cons_succ, List.getElem?_cons_zero]; rfl) (by rfl) (fun u => by go_simp <;> with_reducible rfl) ?_
        try simp only [Act.put, List.setIfInBounds_toArray, List.set_cons_zero, List.set_cons_succ]
        refine seq_calc (by simp only [List.getElem?_toArray, List.getElem?_cons_succ, List.getElem?_cons_zero]; rfl) (by rfl) (fun u => by go_simp <;> with_reducible rfl) ?_
        try simp only [Act.put, List.setIfInBounds_toArray, List.set_cons_zero, List.set_cons_succ]
        refine seq_do (by simp only [List.getElem?_toArray, List.getElem?_cons_succ, List.getElem?_cons_zero]; rfl) (by rfl) (fun K hK => ?_); go_wp2_with (go_at_call 46; refine (meterLast_any m' B 64 _ HQw.out).mono ?_; rintro e w1 ⟨rfl, hb1⟩; replace HQw := Lib.hid (HQw.out.below hb1 HQw.out.lt); have hB1 : Below w.heap.size w w1 := (by first | exact hB1.trans (hb1.mono hB1.size) | exact hB1.trans (Below.undrew (hb1.mono hB1.size)) | exact hb1 | exact Below.trans (by go_grown) (hb1.mono (by simp <;> omega))); have hcT := fun (o : Nat) => hb1.cell (p := ⟨T, o, none⟩) (by first | assumption | (simp <;> omega)); have hfT := fun (o : Nat) => hb1.frozen (p := ⟨T, o, none⟩) (by first | assumption | (simp <;> omega)); have hzT : T < w1.heap.size := Nat.lt_of_lt_of_le (by first | assumption | (simp <;> omega)) hb1.size; have hcN := fun (o : Nat) => hb1.cell (p := ⟨N, o, none⟩) (by first | assumption | (simp <;> omega)); have hfN := fun (o : Nat) => hb1.frozen (p := ⟨N, o, none⟩) (by first | assumption | (simp <;> omega)); have hzN : N < w1.heap.size := Nat.lt_of_lt_of_le (by first | assumption | (simp <;> omega)) hb1.size); refine hK.out _ _ (by first | (with_reducible exact Chg.refl _ _) | (with_reducible assumption) | (refine Chg.of_below ?_; with_reducible assumption) | (with_reducible exact (Chg.refl _ _).alloc _) | (with_reducible exact (Chg.refl _ _).drewN _) | (with_reducible exact (Chg.refl _ _).drew) | exact ⟨rfl, rfl, rfl, Nat.le_refl _, fun _ _ _ => rfl⟩) ?_; clear hK K
        try simp only [Act.put, List.setIfInBounds_toArray, List.set_cons_zero, List.set_cons_succ]
        refine seq_calc (by simp only [List.getElem?_toArray, List.getElem?_cons_succ, List.getElem?_cons_zero]; rfl) (by rfl) (fun u => by go_simp <;> with_reducible rfl) ?_
        try simp only [Act.put, List.setIfInBounds_toArray, List.set_cons_zero, List.set_cons_succ]
        refine seq_calc (by simp only [List.getElem?_toArray, List.getElem?_cons_succ, List.getElem?_cons_zero]; rfl) (by rfl) (fun u => by go_simp <;> with_reducible rfl) ?_
        try simp only [Act.put, List.setIfInBounds_toArray, List.set_cons_zero, List.set_cons_succ]
        first
          | (refine seq_skip (by simp only [List.getElem?_toArray, List.getElem?_cons_succ, List.getElem?_cons_zero]; rfl) (by rfl) ?_)
          | (refine seq_calc (by simp only [List.getElem?_toArray, List.getElem?_cons_succ, List.getElem?_cons_zero]; rfl) (by rfl) (fun u => by go_simp <;> with_reducible rfl) ?_)
        try simp only [Act.put, List.setIfInBounds_toArray, List.set_cons_zero, List.set_cons_succ]
        first
          | (refine seq_skip (by simp only [List.getElem?_toArray, List.getElem?_cons_succ, List.getElem?_cons_zero]; rfl) (by rfl) ?_)
          | (refine seq_calc (by simp only [List.getElem?_toArray, List.getElem?_cons_succ, List.getElem?_cons_zero]; rfl) (by rfl) (fun u => by go_simp <;> with_reducible rfl) ?_)
        try simp only [Act.put, List.setIfInBounds_toArray, List.set_cons_zero, List.set_cons_succ]
        first
          | (refine seq_skip (by simp only [List.getElem?_toArray, List.getElem?_cons_succ, List.getElem?_cons_zero]; rfl) (by rfl) ?_)
          | (refine seq_calc (by simp only [List.getElem?_toArray, List.getElem?_cons_succ, List.getElem?_cons_zero]; rfl) (by rfl) (fun u => by go_simp <;> with_reducible rfl) ?_)
        try simp only [Act.put, List.setIfInBounds_toArray, List.set_cons_zero, List.set_cons_succ]
        first
          | (refine seq_skip (by simp only [List.getElem?_toArray, List.getElem?_cons_succ, List.getElem?_cons_zero]; rfl) (by rfl) ?_)
          | (refine seq_calc (by simp only [List.getElem?_toArray, List.getElem?_cons_succ, List.getElem?_cons_zero]; rfl) (by rfl) (fun u => by go_simp <;> with_reducible rfl) ?_)
        try simp only [Act.put, List.setIfInBounds_toArray, List.set_cons_zero, List.set_cons_succ]
        first
          | (refine seq_skip (by simp only [List.getElem?_toArray, List.getElem?_cons_succ, List.getElem?_cons_zero]; rfl) (by rfl) ?_)
          | (refine seq_calc (by simp only [List.getElem?_toArray, List.getElem?_cons_succ, List.getElem?_cons_zero]; rfl) (by rfl) (fun u => by go_simp <;> with_reducible rfl) ?_)
        try simp only [Act.put, List.setIfInBounds_toArray, List.set_cons_zero, List.set_cons_succ]
        first
          | (refine seq_skip (by simp only [List.getElem?_toArray, List.getElem?_cons_succ, List.getElem?_cons_zero]; rfl) (by rfl) ?_)
          | (refine seq_last (by simp only [List.getElem?_toArray, List.getElem?_cons_succ, List.getElem?_cons_zero]; rfl) (by rfl) (fun K hK => ?_); go_wp2_with (go_at_call 46; refine (meterLast_any m' B 64 _ HQw.out).mono ?_; rintro e w1 ⟨rfl, hb1⟩; replace HQw := Lib.hid (HQw.out.below hb1 HQw.out.lt); have hB1 : Below w.heap.size w w1 := (by first | exact hB1.trans (hb1.mono hB1.size) | exact hB1.trans (Below.undrew (hb1.mono hB1.size)) | exact hb1 | exact Below.trans (by go_grown) (hb1.mono (by simp <;> omega))); have hcT := fun (o : Nat) => hb1.cell (p := ⟨T, o, none⟩) (by first | assumption | (simp <;> omega)); have hfT := fun (o : Nat) => hb1.frozen (p := ⟨T, o, none⟩) (by first | assumption | (simp <;> omega)); have hzT : T < w1.heap.size := Nat.lt_of_lt_of_le (by first | assumption | (simp <;> omega)) hb1.size; have hcN := fun (o : Nat) => hb1.cell (p := ⟨N, o, none⟩) (by first | assumption | (simp <;> omega)); have hfN := fun (o : Nat) => hb1.frozen (p := ⟨N, o, none⟩) (by first | assumption | (simp <;> omega)); have hzN : N < w1.heap.size := Nat.lt_of_lt_of_le (by first | assumption | (simp <;> omega)) hb1.size); refine hK.out _ _ ?_; clear hK K)
        try simp only [Act.put, List.setIfInBounds_toArray, List.set_cons_zero, List.set_cons_succ]
        first
          | (refine seq_skip (by simp only [List.getElem?_toArray, List.getElem?_cons_succ, List.getElem?_cons_zero]; rfl) (by rfl) ?_)
          | (refine seq_calc (by simp only [List.getElem?_toArray, List.getElem?_cons_succ, List.getElem?_cons_zero]; rfl) (by rfl) (fun u => by go_simp <;> with_reducible rfl) ?_)
        try simp only [Act.put, List.setIfInBounds_toArray, List.set_cons_zero, List.set_cons_succ]
        first
          | (refine seq_skip (by simp only [List.getElem?_toArray, List.getElem?_cons_succ, List.getElem?_cons_zero]; rfl) (by rfl) ?_)
          | (refine seq_calc (by simp only [List.getElem?_toArray, List.getElem?_cons_succ, List.getElem?_cons_zero]; rfl) (by rfl) (fun u => by go_simp <;> with_reducible rfl) ?_)
        try simp only [Act.put, List.setIfInBounds_toArray, List.set_cons_zero, List.set_cons_succ]
        first
          | (refine seq_skip (by simp only [List.getElem?_toArray, List.getElem?_cons_succ, List.getElem?_cons_zero]; rfl) (by rfl) ?_)
          | (refine seq_calc (by simp only [List.getElem?_toArray, List.getElem?_cons_succ, List.getElem?_cons_zero]; rfl) (by rfl) (fun u => by go_simp <;> with_reducible rfl) ?_)
        try simp only [Act.put, List.setIfInBounds_toArray, List.set_cons_zero, List.set_cons_succ]
        refine seq_calc (by simp only [List.getElem?_toArray, List.getElem?_cons_succ, List.getElem?_cons_zero]; rfl) (by rfl) (fun u => by go_simp <;> with_reducible rfl) ?_
        try simp only [Act.put, List.setIfInBounds_toArray, List.set_cons_zero, List.set_cons_succ]
        refine seq_nil ?_
        go_wp2
        go_roundw
        case rel => exact ⟨i + 1, m', _, _, _, by omega, by go_num, HL2.out, HQw.out, HTw.out.below hB1 HTw.out.lt, HBw.out.trans (hB1.mono HBw.out.size)⟩
        case measure => simp [intOf]; omega
      · skip
        have d0 : decide (limit ≥ 0) = false := by simp; omega
        refine wp_region_seq (fun _ => False) #[⟨0, 0, 36893488147419103232, 32, 0⟩, ⟨1, 1, 73786976294838206464, 36893488147419103232, 2⟩, ⟨0, 0, 147573952589676412928, 512, 0⟩, ⟨4, 4, 295147905179352825856, 147573952589676412928, 1⟩, ⟨0, 0, 590295810358705651712, 64, 0⟩, ⟨16, 16, 1180591620717411303424, 590295810358705651712, 1⟩, ⟨40, 60, 2361183241434822606848, 1475739525896764129280, 0⟩, ⟨0, 0, 4722366482869645213696, 512, 0⟩, ⟨128, 128, 9444732965739290427392, 4722366482869645213696, 1⟩, ⟨0, 0, 18889465931478580854784, 64, 0⟩, ⟨512, 512, 37778931862957161709568, 18889465931478580854784, 1⟩, ⟨1280, 1920, 75557863725914323419136, 47223664828696452136960, 0⟩, ⟨0, 0, 151115727451828646838272, 512, 0⟩, ⟨4096, 4096, 302231454903657293676544, 151115727451828646838272, 1⟩, ⟨0, 0, 604462909807314587353088, 64, 0⟩, ⟨16384, 16384, 1208925819614629174706176, 604462909807314587353088, 1⟩, ⟨40960, 61440, 2417851639229258349412352, 1511157274518286468382720, 0⟩, ⟨67648, 131068, 4835703278458516698824704, 2495770686196607495438336, 0⟩, ⟨131074, 262143, 9671406556917033397649408, 4835777065434811537031168, 0⟩, ⟨262146, 524287, 19342813113834066795298816, 9671406556917033397649408, 0⟩, ⟨524288, 1048575, 38685626227668133590597632, 19342813113834066795298818, 0⟩, ⟨1572864, 2097151, 77371252455336267181195264, 58028439341502200385896448, 0⟩, ⟨2621440, 4194303, 154742504910672534362390528, 96714065569170333976494080, 0⟩, ⟨4194304, 8388607, 309485009821345068724781056, 154742504910672534362390560, 0⟩, ⟨12582912, 16777215, 618970019642690137449562112, 464227514732017603087171584, 3⟩, ⟨20971520, 33554431, 1237940039285380274899124224, 773712524553362671811952640, 0⟩, ⟨4194304, 8388607, 2475880078570760549798248448, 154742504910672534362390530, 0⟩, ⟨104857600, 134217727, 4951760157141521099596496896, 3868562622766813359059763200, 0⟩, ⟨138936320, 268435455, 9903520314283042199192993792, 5125845475166027700754186240, 0⟩, ⟨268959744, 536870911, 19807040628566084398385987584, 9922863127396876265988292608, 0⟩] 42280 [(0, 0), (2, 0), (3, 1), (4, 0), (5, 1), (6, 0), (7, 0), (8, 1), (9, 0), (10, 1), (11, 0), (12, 0), (13, 1), (14, 0), (15, 1), (16, 0), (17, 0), (1, 2), (18, 0), (19, 0), (20, 0), (21, 0), (22, 0), (23, 0), (26, 0), (24, 3), (25, 0), (27, 0), (28, 0), (29, 0)] (by kernel_rfl) (by kernel_rfl) (by kernel_rfl) (by kernel_rfl) (by kernel_rfl) (by kernel_rfl) (fun c a d v w h => by cases d <;> exact h) ?_
        refine seq_calc (by simp only [List.getElem?_toArray, List.getElem?_cons_succ, List.getElem?_cons_zero]; rfl) (by rfl) (fun u => by go_simp <;> with_reducible rfl) ?_
        try simp only [Act.put, List.setIfInBounds_toArray, List.set_cons_zero, List.set_cons_succ]
        refine seq_calc (by simp only [List.getElem?_toArray, List.getElem?_cons_succ, List.getElem?_cons_zero]; rfl) (by rfl) (fun u => by go_simp <;> with_reducible rfl) ?_
        try simp only [Act.put, List.setIfInBounds_toArray, List.set_cons_zero, List.set_cons_succ]
        refine seq_load1 (by simp only [List.getElem?_toArray, List.getElem?_cons_succ, List.getElem?_cons_zero]; rfl) (by rfl) rfl rfl Tryd.underlying3 rfl (by go_simp <;> with_reducible rfl) (by first | exact id | assumption | (simp; done) | (simp; omega)) ?_
        try simp only [Act.put, List.setIfInBounds_toArray, List.set_cons_zero, List.set_cons_succ]
        refine seq_calc (by simp only [List.getElem?_toArray, List.getElem?_cons_succ, List.getElem?_cons_zero]; rfl) (by rfl) (fun u => by go_simp <;> with_reducible rfl) ?_
        try simp only [Act.put, List.setIfInBounds_toArray, List.set_cons_zero, List.set_cons_succ]
        refine seq_load1 (by simp only [List.getElem?_toArray, List.getElem?_cons_succ, List.getElem?_cons_zero]; rfl) (by rfl) rfl rfl Tryd.underlying3 rfl (by go_simp <;> with_reducible rfl) (by first | exact id | assumption | (simp; done) | (simp; omega)) ?_
        try simp only [Act.put, List.setIfInBounds_toArray, List.set_cons_zero, List.set_cons_succ]
        refine seq_calc (by simp only [List.getElem?_toArray, List.getElem?_cons_succ, List.getElem?_cons_zero]; rfl) (by rfl) (fun u => by go_simp <;> with_reducible rfl) ?_
        try simp only [Act.put, List.setIfInBounds_toArray, List.set_cons_zero, List.set_cons_succ]
        refine seq_calc (by simp only [List.getElem?_toArray, List.getElem?_cons_succ, List.getElem?_cons_zero]; rfl) (by rfl) (fun u => by go_simp <;> with_reducible rfl) ?_
        try simp only [Act.put, List.setIfInBounds_toArray, List.set_cons_zero, List.set_cons_succ]
        refine seq_load1 (by simp only [List.getElem?_toArray, List.getElem?_cons_succ, List.getElem?_cons_zero]; rfl) (by rfl) rfl rfl Tryd.underlying3 rfl (by go_simp <;> with_reducible rfl) (by first | exact id | assumption | (simp; done) | (simp; omega)) ?_
        try simp only [Act.put, List.setIfInBounds_toArray, List.set_cons_zero, List.set_cons_succ]
        refine seq_calc (by simp only [List.getElem?_toArray, List.getElem?_cons_succ, List.getElem?_cons_zero]; rfl) (by rfl) (fun u => by go_simp <;> with_reducible rfl) ?_
        try simp only [Act.put, List.setIfInBounds_toArray, List.set_cons_zero, List.set_cons_succ]
        refine seq_load1 (by simp only [List.getElem?_toArray, List.getElem?_cons_succ, List.getElem?_cons_zero]; rfl) (by rfl) rfl rfl Tryd.underlying3 rfl (by go_simp <;> with_reducible rfl) (by first | exact id | assumption | (simp; done) | (simp; omega)) ?_
        try simp only [Act.put, List.setIfInBounds_toArray, List.set_cons_zero, List.set_cons_succ]
        refine seq_calc (by simp only [List.getElem?_toArray, List.getElem?_cons_succ, List.getElem?_cons_zero]; rfl) (by rfl) (fun u => by go_simp <;> with_reducible rfl) ?_
        try simp only [Act.put, List.setIfInBounds_toArray, List.set_cons_zero, List.set_cons_succ]
        refine seq_calc (by simp only [List.getElem?_toArray, List.getElem?_cons_succ, List.getElem?_cons_zero]; rfl) (by rfl) (fun u => by go_simp <;> with_reducible rfl) ?_
        try simp only [Act.put, List.setIfInBounds_toArray, List.set_cons_zero, List.set_cons_succ]
        refine seq_load1 (by simp only [List.getElem?_toArray, List.getElem?_cons_succ, List.getElem?_cons_zero]; rfl) (by rfl) rfl rfl Tryd.underlying3 rfl (by go_simp <;> with_reducible rfl) (by first | exact id | assumption | (simp; done) | (simp; omega)) ?_
        try simp only [Act.put, List.setIfInBounds_toArray, List.set_cons_zero, List.set_cons_succ]
        refine seq_calc (by simp only [List.getElem?_toArray, List.getElem?_cons_succ, List.getElem?_cons_zero]; rfl) (by rfl) (fun u => by go_simp <;> with_reducible rfl) ?_
        try simp only [Act.put, List.setIfInBounds_toArray, List.set_cons_zero, List.set_cons_succ]
        refine seq_load1 (by simp only [List.getElem?_toArray, List.getElem?_cons_succ, List.getElem?_cons_zero]; rfl) (by rfl) rfl rfl Tryd.underlying3 rfl (by go_simp <;> with_reducible rfl) (by first | exact id | assumption | (simp; done) | (simp; omega)) ?_
        try simp only [Act.put, List.setIfInBounds_toArray, List.set_cons_zero, List.set_cons_succ]
        refine seq_calc (by simp only [List.getElem?_toArray, List.getElem?_cons_succ, List.getElem?_cons_zero]; rfl) (by rfl) (fun u => by go_simp <;> with_reducible rfl) ?_
        try simp only [Act.put, List.setIfInBounds_toArray, List.set_cons_zero, List.set_cons_succ]
        refine seq_calc (by simp only [List.getElem?_toArray, List.getElem?_cons_succ, List.getElem?_cons_zero]; rfl) (by rfl) (fun u => by go_simp <;> with_reducible rfl) ?_
        try simp only [Act.put, List.setIfInBounds_toArray, List.set_cons_zero, List.set_cons_succ]
        refine seq_do (by simp only [List.getElem?_toArray, List.getElem?_cons_succ, List.getElem?_cons_zero]; rfl) (by rfl) (fun K hK => ?_); go_wp2_with (go_at_call 46; refine (meterLast_any m' B 64 _ HQw.out).mono ?_; rintro e w1 ⟨rfl, hb1⟩; replace HQw := Lib.hid (HQw.out.below hb1 HQw.out.lt); have hB1 : Below w.heap.size w w1 := (by first | exact hB1.trans (hb1.mono hB1.size) | exact hB1.trans (Below.undrew (hb1.mono hB1.size)) | exact hb1 | exact Below.trans (by go_grown) (hb1.mono (by simp <;> omega))); have hcT := fun (o : Nat) => hb1.cell (p := ⟨T, o, none⟩) (by first | assumption | (simp <;> omega)); have hfT := fun (o : Nat) => hb1.frozen (p := ⟨T, o, none⟩) (by first | assumption | (simp <;> omega)); have hzT : T < w1.heap.size := Nat.lt_of_lt_of_le (by first | assumption | (simp <;> omega)) hb1.size; have hcN := fun (o : Nat) => hb1.cell (p := ⟨N, o, none⟩) (by first | assumption | (simp <;> omega)); have hfN := fun (o : Nat) => hb1.frozen (p := ⟨N, o, none⟩) (by first | assumption | (simp <;> omega)); have hzN : N < w1.heap.size := Nat.lt_of_lt_of_le (by first | assumption | (simp <;> omega)) hb1.size); refine hK.out _ _ (by first | (with_reducible exact Chg.refl _ _) | (with_reducible assumption) | (refine Chg.of_below ?_; with_reducible assumption) | (with_reducible exact (Chg.refl _ _).alloc _) | (with_reducible exact (Chg.refl _ _).drewN _) | (with_reducible exact (Chg.refl _ _).drew) | exact ⟨rfl, rfl, rfl, Nat.le_refl _, fun _ _ _ => rfl⟩) ?_; clear hK K
        try simp only [Act.put, List.setIfInBounds_toArray, List.set_cons_zero, List.set_cons_succ]
        refine seq_calc (by simp only [List.getElem?_toArray, List.getElem?_cons_succ, List.getElem?_cons_zero]; rfl) (by rfl) (fun u => by go_simp <;> with_reducible rfl) ?_
        try simp only [Act.put, List.setIfInBounds_toArray, List.set_cons_zero, List.set_cons_succ]
        refine seq_calc (by simp only [List.getElem?_toArray, List.getElem?_cons_succ, List.getElem?_cons_zero]; rfl) (by rfl) (fun u => by go_simp <;> with_reducible rfl) ?_
        try simp only [Act.put, List.setIfInBounds_toArray, List.set_cons_zero, List.set_cons_succ]
        first
          | (refine seq_skip (by simp only [List.getElem?_toArray, List.getElem?_cons_succ, List.getElem?_cons_zero]; rfl) (by rfl) ?_)
          | (refine seq_calc (by simp only [List.getElem?_toArray, List.getElem?_cons_succ, List.getElem?_cons_zero]; rfl) (by rfl) (fun u => by go_simp <;> with_reducible rfl) ?_)
        try simp only [Act.put, List.setIfInBounds_toArray, List.set_cons_zero, List.set_cons_succ]
        first
          | (refine seq_skip (by simp only [List.getElem?_toArray, List.getElem?_cons_succ, List.getElem?_cons_zero]; rfl) (by rfl) ?_)
          | (refine seq_calc (by simp only [List.getElem?_toArray, List.getElem?_cons_succ, List.getElem?_cons_zero]; rfl) (by rfl) (fun u => by go_simp <;> with_reducible rfl) ?_)
        try simp only [Act.put, List.setIfInBounds_toArray, List.set_cons_zero, List.set_cons_succ]
        first
          | (refine seq_skip (by simp only [List.getElem?_toArray, List.getElem?_cons_succ, List.getElem?_cons_zero]; rfl) (by rfl) ?_)
          | (refine seq_calc (by simp only [List.getElem?_toArray, List.getElem?_cons_succ, List.getElem?_cons_zero]; rfl) (by rfl) (fun u => by go_simp <;> with_reducible rfl) ?_)
        try simp only [Act.put, List.setIfInBounds_toArray, List.set_cons_zero, List.set_cons_succ]
        first
          | (refine seq_skip (by simp only [List.getElem?_toArray, List.getElem?_cons_succ, List.getElem?_cons_zero]; rfl) (by rfl) ?_)
          | (refine seq_calc (by simp only [List.getElem?_toArray, List.getElem?_cons_succ, List.getElem?_cons_zero]; rfl) (by rfl) (fun u => by go_simp <;> with_reducible rfl) ?_)
        try simp only [Act.put, List.setIfInBounds_toArray, List.set_cons_zero, List.set_cons_succ]
        first
          | (refine seq_skip (by simp only [List.getElem?_toArray, List.getElem?_cons_succ, List.getElem?_cons_zero]; rfl) (by rfl) ?_)
          | (refine seq_calc (by simp only [List.getElem?_toArray, List.getElem?_cons_succ, List.getElem?_cons_zero]; rfl) (by rfl) (fun u => by go_simp <;> with_reducible rfl) ?_)
        try simp only [Act.put, List.setIfInBounds_toArray, List.set_cons_zero, List.set_cons_succ]
        first
          | (refine seq_skip (by simp only [List.getElem?_toArray, List.getElem?_cons_succ, List.getElem?_cons_zero]; rfl) (by rfl) ?_)
          | (refine seq_last (by simp only [List.getElem?_toArray, List.getElem?_cons_succ, List.getElem?_cons_zero]; rfl) (by rfl) (fun K hK => ?_); go_wp2_with (go_at_call 46; refine (meterLast_any m' B 64 _ HQw.out).mono ?_; rintro e w1 ⟨rfl, hb1⟩; replace HQw := Lib.hid (HQw.out.below hb1 HQw.out.lt); have hB1 : Below w.heap.size w w1 := (by first | exact hB1.trans (hb1.mono hB1.size) | exact hB1.trans (Below.undrew (hb1.mono hB1.size)) | exact hb1 | exact Below.trans (by go_grown) (hb1.mono (by simp <;> omega))); have hcT := fun (o : Nat) => hb1.cell (p := ⟨T, o, none⟩) (by first | assumption | (simp <;> omega)); have hfT := fun (o : Nat) => hb1.frozen (p := ⟨T, o, none⟩) (by first | assumption | (simp <;> omega)); have hzT : T < w1.heap.size := Nat.lt_of_lt_of_le (by first | assumption | (simp <;> omega)) hb1.size; have hcN := fun (o : Nat) => hb1.cell (p := ⟨N, o, none⟩) (by first | assumption | (simp <;> omega)); have hfN := fun (o : Nat) => hb1.frozen (p := ⟨N, o, none⟩) (by first | assumption | (simp <;> omega)); have hzN : N < w1.heap.size := Nat.lt_of_lt_of_le (by first | assumption | (simp <;> omega)) hb1.size); refine hK.out _ _ ?_; clear hK K)
        try simp only [Act.put, List.setIfInBounds_toArray, List.set_cons_zero, List.set_cons_succ]
        first
          | (refine seq_skip (by simp only [List.getElem?_toArray, List.getElem?_cons_succ, List.getElem?_cons_zero]; rfl) (by rfl) ?_)
          | (refine seq_calc (by simp only [List.getElem?_toArray, List.getElem?_cons_succ, List.getElem?_cons_zero]; rfl) (by rfl) (fun u => by go_simp <;> with_reducible rfl) ?_)
        try simp only [Act.put, List.setIfInBounds_toArray, List.set_cons_zero, List.set_cons_succ]
        first
          | (refine seq_skip (by simp only [List.getElem?_toArray, List.getElem?_cons_succ, List.getElem?_cons_zero]; rfl) (by rfl) ?_)
          | (refine seq_calc (by simp only [List.getElem?_toArray, List.getElem?_cons_succ, List.getElem?_cons_zero]; rfl) (by rfl) (fun u => by go_simp <;> with_reducible rfl) ?_)
        try simp only [Act.put, List.setIfInBounds_toArray, List.set_cons_zero, List.set_cons_succ]
        first
          | (refine seq_skip (by simp only [List.getElem?_toArray, List.getElem?_cons_succ, List.getElem?_cons_zero]; rfl) (by rfl) ?_)
          | (refine seq_calc (by simp only [List.getElem?_toArray, List.getElem?_cons_succ, List.getElem?_cons_zero]; rfl) (by rfl) (fun u => by go_simp <;> with_reducible rfl) ?_)
        try simp only [Act.put, List.setIfInBounds_toArray, List.set_cons_zero, List.set_cons_succ]
        refine seq_calc (by simp only [List.getElem?_toArray, List.getElem?_cons_succ, List.getElem?_cons_zero]; rfl) (by rfl) (fun u => by go_simp <;> with_reducible rfl) ?_
        try simp only [Act.put, List.setIfInBounds_toArray, List.set_cons_zero, List.set_cons_succ]
        refine seq_nil ?_
        go_wp2
        go_roundw
        case rel => exact ⟨i + 1, m', _, _, _, by omega, by go_num, HL2.out, HQw.out, HTw.out.below hB1 HTw.out.lt, HBw.out.trans (hB1.mono HBw.out.size)⟩
        case measure => simp [intOf]; omega
    · obtain rfl : i = n0 := by omega
      go_wp2
      go_ret
      exact ⟨rfl, hBW⟩
end Go.Proofs.YtplimhllfbdocaaDoor
