/- The walk of MeterJoins. Condition: the errors' cells. -/
import Derived.Test.YtplimhllfbdocaaDoorMeterLast
namespace Go.Proofs.YtplimhllfbdocaaDoor
set_option linter.unusedVariables false
set_option linter.unusedSimpArgs false
open Go.RowKit Go.Proofs

/-- a meter without a limit, never reset -/
def freeM (a b c : Int) : MeterS := ⟨a, b, c, a, b, c, false, 0⟩
theorem freeM_ok {a b c : Int} (ha : 0 ≤ a ∧ a ≤ 1099511627776) (hb : 0 ≤ b ∧ b ≤ 1099511627776) (hc : 0 ≤ c ∧ c ≤ 1099511627776) : MOK (freeM a b c) := ⟨ha, hb, hc, ha, hb, hc, fun h => by cases h⟩
theorem freeM_add {a b c x y z : Int} (ha : 0 ≤ a ∧ a ≤ 134217728) (hb : 0 ≤ b ∧ b ≤ 134217728) (hc : 0 ≤ c ∧ c ≤ 134217728) (hx : 0 ≤ x ∧ x ≤ 1048576) (hy : 0 ≤ y ∧ y ≤ 1048576) (hz : 0 ≤ z ∧ z ≤ 1048576) :
    (freeM a b c).add x y z = freeM (a + x) (b + y) (c + z) := by
  have e0 : sumZ a x = a + x := sumZ_add ha.1 hx.1 (by omega)
  have e1 : sumZ b y = b + y := sumZ_add hb.1 hy.1 (by omega)
  have e2 : sumZ c z = c + z := sumZ_add hc.1 hz.1 (by omega)
  unfold MeterS.add freeM
  dsimp only
  rw [e0, e1, e2]
/-- what an act adds -/
theorem doS_free (k n : Int) (hk : k < 3) (hn : n < 1048576) : ∃ x y z : Int, (0 ≤ x ∧ x ≤ 1048576) ∧ (0 ≤ y ∧ y ≤ 1048576) ∧ (0 ≤ z ∧ z ≤ 1048576) ∧
    ∀ a b c : Int, 0 ≤ a ∧ a ≤ 134217728 → 0 ≤ b ∧ b ≤ 134217728 → 0 ≤ c ∧ c ≤ 134217728 → doS (freeM a b c) k n = freeM (a + x) (b + y) (c + z) := by
  have hc := cntZ_le n
  have h00 : (0 : Int) ≤ 0 ∧ (0 : Int) ≤ 1048576 := by decide
  by_cases k0 : k = 0
  · subst k0
    exact ⟨cntZ n, 0, 0, by omega, h00, h00, fun a b c ha hb hc' => by rw [doS_0]; exact freeM_add ha hb hc' (by omega) h00 h00⟩
  by_cases k1 : k = 1
  · subst k1
    exact ⟨0, cntZ n, 0, h00, by omega, h00, fun a b c ha hb hc' => by rw [doS_1]; exact freeM_add ha hb hc' h00 (by omega) h00⟩
  by_cases k2 : k = 2
  · subst k2
    by_cases h1 : n < 1
    · exact ⟨0, 0, 0, h00, h00, h00, fun a b c ha hb hc' => by rw [doS_2, if_pos (.inl h1), Int.add_zero, Int.add_zero, Int.add_zero]⟩
    · exact ⟨0, 0, n, h00, h00, by omega, fun a b c ha hb hc' => by rw [doS_2, if_neg (by rintro (h | ⟨h, _⟩); exact h1 h; cases h)]; exact freeM_add ha hb hc' h00 h00 (by omega)⟩
  exact ⟨0, 0, 0, h00, h00, h00, fun a b c ha hb hc' => by rw [doS_none _ k n (by omega), Int.add_zero, Int.add_zero, Int.add_zero]⟩
/-- three counts of i acts -/
def CntI (a b c : Int) (i : Nat) : Prop := (0 ≤ a ∧ a ≤ 1048576 * i) ∧ (0 ≤ b ∧ b ≤ 1048576 * i) ∧ (0 ≤ c ∧ c ≤ 1048576 * i)
theorem CntI.later {a b c : Int} {i : Nat} (h : CntI a b c i) : CntI a b c (i + 1) := by unfold CntI at *; omega
theorem CntI.step {a b c x y z : Int} {i : Nat} (h : CntI a b c i) (hx : 0 ≤ x ∧ x ≤ 1048576) (hy : 0 ≤ y ∧ y ≤ 1048576) (hz : 0 ≤ z ∧ z ≤ 1048576) : CntI (a + x) (b + y) (c + z) (i + 1) := by unfold CntI at *; omega

set_option maxRecDepth 100000 in
set_option maxHeartbeats 16000000 in
theorem meterJoins_law (v v' : Value) (n0 n1 : Nat) (f f' : Nat → Nat → Int) (E : Nat → Addr) (w0 : World) (he : ErrsAre w0 E) (h1 : RowsAt w0 v n0 2 .i64 f) (h2 : RowsAt w0 v' n1 2 .i64 f') :
    Calls Tryd.prog 8 #[v, v'] w0 fun e w' => e = .returned (.bool true) ∧ Below w0.heap.size w0 w' := by
  have m1 := h1.2.2
  have m2 := h2.2.2
  obtain ⟨a, cap, rfl, hx⟩ := h1.cellAt (by decide)
  obtain ⟨a', cap', rfl, hx'⟩ := h2.cellAt (by decide)
  unfold maxLen at m1 m2
  have HE := Lib.hid he
  have HX := Lib.hid hx
  have HX' := Lib.hid hx'
  clear h1 hx he h2 hx'
  by_cases g1 : 40 < n0
  · have g1' : (40 : Int) < (n0 : Int) := by omega
    go_enter Tryd.func8, Tryd.ntmps8
    go_wp2_with (go_at_call 41; refine (alive06_any _).mono ?_; rintro e w1 ⟨rfl, hb1⟩)
    go_ret
    exact ⟨rfl, hb1⟩
  have g1' : (n0 : Int) ≤ 40 := by omega
  by_cases g2 : 40 < n1
  · have g2' : (40 : Int) < (n1 : Int) := by omega
    go_enter Tryd.func8, Tryd.ntmps8
    go_wp2_with (go_at_call 41; refine (alive06_any _).mono ?_; rintro e w1 ⟨rfl, hb1⟩)
    go_ret
    exact ⟨rfl, hb1⟩
  have g2' : (n1 : Int) ≤ 40 := by omega
  go_enter Tryd.func8, Tryd.ntmps8
  go_wp2_with (first
    | (go_at_call 41; refine (alive06_any _).mono ?_; rintro e w1 ⟨rfl, hb1⟩))
  have hz1 := hb1.size
  obtain ⟨X, hX⟩ : ∃ B, B = w1.heap.size := ⟨_, rfl⟩
  obtain ⟨Y, hY⟩ : ∃ B, B = w1.heap.size + 1 := ⟨_, rfl⟩
  obtain ⟨Z, hZ⟩ : ∃ B, B = w1.heap.size + 1 + 1 := ⟨_, rfl⟩
  have x0 : Blk (((w1.alloc (.cells (freeM 0 0 0).cells 64)).alloc (.cells (freeM 0 0 0).cells 64)).alloc (.cells (freeM 0 0 0).cells 64)) X 64 (freeM 0 0 0).cells := by rw [hX]; exact ((Blk.new _ _ _).alloc _).alloc _
  have y0 : Blk (((w1.alloc (.cells (freeM 0 0 0).cells 64)).alloc (.cells (freeM 0 0 0).cells 64)).alloc (.cells (freeM 0 0 0).cells 64)) Y 64 (freeM 0 0 0).cells := by rw [hY]; exact (Blk.new_at (by simp)).alloc _
  have z0 : Blk (((w1.alloc (.cells (freeM 0 0 0).cells 64)).alloc (.cells (freeM 0 0 0).cells 64)).alloc (.cells (freeM 0 0 0).cells 64)) Z 64 (freeM 0 0 0).cells := by rw [hZ]; exact Blk.new_at (by simp)
  have X0 := Lib.hid x0
  have Y0 := Lib.hid y0
  have Z0 := Lib.hid z0
  have BW := Lib.hid (show Below w0.heap.size w0 (((w1.alloc (.cells (freeM 0 0 0).cells 64)).alloc (.cells (freeM 0 0 0).cells 64)).alloc (.cells (freeM 0 0 0).cells 64)) from ((hb1.alloc hz1 _).alloc (by simp; omega) _).alloc (by simp; omega) _)
  have hX0 : w0.heap.size ≤ X := by omega
  have hY0 : w0.heap.size ≤ Y := by omega
  have hZ0 : w0.heap.size ≤ Z := by omega
  have hXZ : ¬ X = Z := by omega
  have hYZ : ¬ Y = Z := by omega
  have hXY : ¬ X = Y := by omega
  rw [← hZ, ← hY, ← hX]
  clear hX hY hZ x0 y0 z0 hb1 hz1
  go_loopw [31] (fun v31 wr => ∃ (k : Nat) (x0 x1 x2 : Int), k ≤ n0 ∧ v31 = .int .i64 (k : Int) ∧ CntI x0 x1 x2 k ∧ Blk wr X 64 (freeM x0 x1 x2).cells ∧ Blk wr Y 64 (freeM 0 0 0).cells ∧ Blk wr Z 64 (freeM x0 x1 x2).cells ∧ Below w0.heap.size w0 wr) (fun v31 _ => n0 - (intOf v31).toNat)
  case atStart => exact ⟨0, 0, 0, 0, Nat.zero_le _, rfl, by unfold CntI; decide, X0.out, Y0.out, Z0.out, BW.out⟩
  case round =>
    clear X0 Y0 Z0 BW
    obtain ⟨i, x0, x1, x2, hi, rfl, hC, hx, hy, hz, hBW⟩ := hrel
    have HC := Lib.hid hC
    have HXi := Lib.hid hx
    have HYi := Lib.hid hy
    have HZi := Lib.hid hz
    have lX := hx.lt
    have lY := hy.lt
    have lZ := hz.lt
    clear hx hy hz hC
    by_cases hlt : i < n0
    · obtain ⟨b, off, rfl, hbz, hcells⟩ := HX.out (by omega)
      have c0 : wr.cell? ⟨b, off + i * 2, none⟩ = some (.int .i64 (f i 0)) := by simpa using hcells wr hBW i hlt 0 (by decide)
      have c1 : wr.cell? ⟨b, off + i * 2 + 1, none⟩ = some (.int .i64 (f i 1)) := by simpa [Nat.add_assoc] using hcells wr hBW i hlt 1 (by decide)
      generalize f i 0 = k at c0
      generalize f i 1 = n at c1
      clear hcells
      have hAct0 := Lib.hid (show Blk (wr.alloc (.cells #[.int .i64 k, .int .i64 n] 71)) wr.heap.size 71 #[.int .i64 k, .int .i64 n] from Blk.new _ _ _)
      have hBA := Lib.hid (hBW.alloc hBW.size (.cells #[.int .i64 k, .int .i64 n] 71))
      have hXA := Lib.hid (HXi.out.alloc (.cells #[.int .i64 k, .int .i64 n] 71))
      have hYA := Lib.hid (HYi.out.alloc (.cells #[.int .i64 k, .int .i64 n] 71))
      have hZA := Lib.hid (HZi.out.alloc (.cells #[.int .i64 k, .int .i64 n] 71))
      by_cases hk : k < 3 ∧ n < 1048576
      · obtain ⟨hk1, hk2⟩ := hk
        obtain ⟨dx, dy, dz, hdx, hdy, hdz, hd⟩ := doS_free k n hk1 hk2
        have hc := HC.out
        unfold CntI at hc
        have hM : MOK (freeM x0 x1 x2) := freeM_ok (by omega) (by omega) (by omega)
        have hs := hd x0 x1 x2 (by omega) (by omega) (by omega)
        have D1 := do_any (freeM x0 x1 x2) hM k n X E w0 _ hXA.out HE.out hX0 hBA.out
        have D2 := fun w hb h0 => do_any (freeM x0 x1 x2) hM k n Z E w0 w hb HE.out hZ0 h0
        rw [hs] at D1 D2
        replace D1 := Lib.hid D1
        replace D2 := Lib.hid D2
        have HC2 := Lib.hid (HC.out.step hdx hdy hdz)
        generalize doBad (freeM x0 x1 x2) k n = p at *
        clear hd hs hM hc hdx hdy hdz
        generalize x0 + dx = q0 at *
        generalize x1 + dy = q1 at *
        generalize x2 + dz = q2 at *
        go_wp2_with (first
          | (go_at_call 43; with_reducible refine D1.out.mono ?_; rintro e w5 ⟨rfl, h5, c5⟩; have H5 := Lib.hid h5; have HZ5 := Lib.hid (hZA.out.chg c5 (by omega)); have HY5 := Lib.hid (hYA.out.chg c5 (by omega)); have HA5 := Lib.hid (hAct0.out.chg c5 (by omega)); have a0 := HA5.out.cell 0; have a1 := HA5.out.cell 1; have HB5 := Lib.hid (hBA.out.trans (c5.below (n := w0.heap.size) hBA.out.size (fun k hk e => by omega))); clear h5 c5)
          | (go_at_call 43; refine (D2.out _ HZ5.out HB5.out).mono ?_; rintro e w6 ⟨rfl, h6, c6⟩; have H6 := Lib.hid h6; clear h6))
        go_roundw
        case rel => exact ⟨i + 1, q0, q1, q2, by omega, by go_num, HC2.out, H5.out.chg c6 hXZ, HY5.out.chg c6 hYZ, H6.out, HB5.out.trans (c6.below (n := w0.heap.size) HB5.out.size (fun k hk e => by omega))⟩
        case measure => simp [intOf]; omega
      · have hrel2 := HC.out.later
        by_cases hk3 : k < 3
        · have hn : ¬ (n < 1048576) := fun h => hk ⟨hk3, h⟩
          clear hk
          go_wp2
          go_roundw
          case rel => exact ⟨i + 1, x0, x1, x2, by omega, by go_num, HC.out.later, hXA.out, hYA.out, hZA.out, hBA.out⟩
          case measure => simp [intOf]; omega
        · clear hk
          go_wp2
          go_roundw
          case rel => exact ⟨i + 1, x0, x1, x2, by omega, by go_num, HC.out.later, hXA.out, hYA.out, hZA.out, hBA.out⟩
          case measure => simp [intOf]; omega
    · obtain rfl : i = n0 := by omega
      go_wp2
      have hcx := HC.out
      unfold CntI at hcx
      clear HC
      go_loopw [52] (fun v52 wr => ∃ (k : Nat) (y0 y1 y2 : Int), k ≤ n1 ∧ v52 = .int .i64 (k : Int) ∧ CntI y0 y1 y2 k ∧ Blk wr X 64 (freeM x0 x1 x2).cells ∧ Blk wr Y 64 (freeM y0 y1 y2).cells ∧ Blk wr Z 64 (freeM (x0 + y0) (x1 + y1) (x2 + y2)).cells ∧ Below w0.heap.size w0 wr) (fun v52 _ => n1 - (intOf v52).toNat)
      case atStart => exact ⟨0, 0, 0, 0, Nat.zero_le _, rfl, by unfold CntI; decide, HXi.out, HYi.out, by rw [Int.add_zero, Int.add_zero, Int.add_zero]; exact HZi.out, hBW⟩
      case round =>
        clear HXi HYi HZi hBW lX lY lZ HX
        obtain ⟨j, y0, y1, y2, hj, rfl, hC, hx, hy, hz, hBW⟩ := hrel
        have HC := Lib.hid hC
        have HXi := Lib.hid hx
        have HYi := Lib.hid hy
        have HZi := Lib.hid hz
        have lX := hx.lt
        have lY := hy.lt
        have lZ := hz.lt
        clear hx hy hz hC
        by_cases hlt : j < n1
        · obtain ⟨b, off, rfl, hbz, hcells⟩ := HX'.out (by omega)
          have c0 : wr.cell? ⟨b, off + j * 2, none⟩ = some (.int .i64 (f' j 0)) := by simpa using hcells wr hBW j hlt 0 (by decide)
          have c1 : wr.cell? ⟨b, off + j * 2 + 1, none⟩ = some (.int .i64 (f' j 1)) := by simpa [Nat.add_assoc] using hcells wr hBW j hlt 1 (by decide)
          generalize f' j 0 = k at c0
          generalize f' j 1 = n at c1
          clear hcells
          have hAct0 := Lib.hid (show Blk (wr.alloc (.cells #[.int .i64 k, .int .i64 n] 71)) wr.heap.size 71 #[.int .i64 k, .int .i64 n] from Blk.new _ _ _)
          have hBA := Lib.hid (hBW.alloc hBW.size (.cells #[.int .i64 k, .int .i64 n] 71))
          have hXA := Lib.hid (HXi.out.alloc (.cells #[.int .i64 k, .int .i64 n] 71))
          have hYA := Lib.hid (HYi.out.alloc (.cells #[.int .i64 k, .int .i64 n] 71))
          have hZA := Lib.hid (HZi.out.alloc (.cells #[.int .i64 k, .int .i64 n] 71))
          by_cases hk : k < 3 ∧ n < 1048576
          · obtain ⟨hk1, hk2⟩ := hk
            obtain ⟨dx, dy, dz, hdx, hdy, hdz, hd⟩ := doS_free k n hk1 hk2
            have hc := HC.out
            unfold CntI at hc
            have hM : MOK (freeM y0 y1 y2) := freeM_ok (by omega) (by omega) (by omega)
            have hM2 : MOK (freeM (x0 + y0) (x1 + y1) (x2 + y2)) := freeM_ok (by omega) (by omega) (by omega)
            have hs := hd y0 y1 y2 (by omega) (by omega) (by omega)
            have hs2 := hd (x0 + y0) (x1 + y1) (x2 + y2) (by omega) (by omega) (by omega)
            have D1 := do_any (freeM y0 y1 y2) hM k n Y E w0 _ hYA.out HE.out hY0 hBA.out
            have D2 := fun w hb h0 => do_any (freeM (x0 + y0) (x1 + y1) (x2 + y2)) hM2 k n Z E w0 w hb HE.out hZ0 h0
            rw [hs] at D1
            rw [hs2] at D2
            simp only [Int.add_assoc] at D2 hZA
            replace D1 := Lib.hid D1
            replace D2 := Lib.hid D2
            have HC2 := Lib.hid (HC.out.step hdx hdy hdz)
            generalize doBad (freeM y0 y1 y2) k n = p at *
            generalize doBad (freeM (x0 + y0) (x1 + y1) (x2 + y2)) k n = p2 at *
            clear hd hs hM hM2 hs2 hc hdx hdy hdz
            generalize y0 + dx = q0 at *
            generalize y1 + dy = q1 at *
            generalize y2 + dz = q2 at *
            go_wp2_with (first
              | (go_at_call 43; with_reducible refine D1.out.mono ?_; rintro e w5 ⟨rfl, h5, c5⟩; have H5 := Lib.hid h5; have HZ5 := Lib.hid (hZA.out.chg c5 (by omega)); have HX5 := Lib.hid (hXA.out.chg c5 (by omega)); have HA5 := Lib.hid (hAct0.out.chg c5 (by omega)); have a0 := HA5.out.cell 0; have a1 := HA5.out.cell 1; have HB5 := Lib.hid (hBA.out.trans (c5.below (n := w0.heap.size) hBA.out.size (fun k hk e => by omega))); clear h5 c5)
              | (go_at_call 43; refine (D2.out _ HZ5.out HB5.out).mono ?_; rintro e w6 ⟨rfl, h6, c6⟩; have H6 := Lib.hid h6; clear h6))
            go_roundw
            case rel => exact ⟨j + 1, q0, q1, q2, by omega, by go_num, HC2.out, HX5.out.chg c6 hXZ, H5.out.chg c6 hYZ, H6.out, HB5.out.trans (c6.below (n := w0.heap.size) HB5.out.size (fun k hk e => by omega))⟩
            case measure => simp [intOf]; omega
          · by_cases hk3 : k < 3
            · have hn : ¬ (n < 1048576) := fun h => hk ⟨hk3, h⟩
              clear hk
              go_wp2
              go_roundw
              case rel => exact ⟨j + 1, y0, y1, y2, by omega, by go_num, HC.out.later, hXA.out, hYA.out, hZA.out, hBA.out⟩
              case measure => simp [intOf]; omega
            · clear hk
              go_wp2
              go_roundw
              case rel => exact ⟨j + 1, y0, y1, y2, by omega, by go_num, HC.out.later, hXA.out, hYA.out, hZA.out, hBA.out⟩
              case measure => simp [intOf]; omega
        · obtain rfl : j = n1 := by omega
          have hc := HC.out
          unfold CntI at hc
          have p0 : sumZ x0 y0 = x0 + y0 := sumZ_add (by omega) (by omega) (by omega)
          have p1 : sumZ x1 y1 = x1 + y1 := sumZ_add (by omega) (by omega) (by omega)
          have p2 : sumZ x2 y2 = x2 + y2 := sumZ_add (by omega) (by omega) (by omega)
          have o0 : sumZ x0 0 = x0 := sumZ_zero (by omega)
          have o1 : sumZ x1 0 = x1 := sumZ_zero (by omega)
          have o2 : sumZ x2 0 = x2 := sumZ_zero (by omega)
          generalize x0 + y0 = z0 at *
          generalize x1 + y1 = z1 at *
          generalize x2 + y2 = z2 at *
          clear hc hcx
          go_upto_region 21 with (fail)
          refine wp_at (fun w hW => ?_)
          obtain ⟨C, hC⟩ : ∃ C, C = wr.heap.size := ⟨_, rfl⟩
          have PX := Lib.hid (show Blk w.drew X 64 (freeM x0 x1 x2).cells by rw [hW]; exact (HXi.out.alloc _).drew)
          have PY := Lib.hid (show Blk w.drew Y 64 (freeM y0 y1 y2).cells by rw [hW]; exact (HYi.out.alloc _).drew)
          have PZ := Lib.hid (show Blk w.drew Z 64 (freeM z0 z1 z2).cells by rw [hW]; exact (HZi.out.alloc _).drew)
          have PC := Lib.hid (show Blk w C 62 (cntC 0 0 0) by rw [hW, hC]; exact Blk.new _ _ _)
          have PB := Lib.hid (show Below w0.heap.size w0 w by rw [hW]; exact hBW.alloc hBW.size _)
          rw [← hC]
          clear hW hC HXi HYi HZi hBW
          obtain ⟨s0, s1, s2⟩ := cntC_cells PC.out
          have hzC := PC.out.lt
          refine wp_region_seq (fun _ => False) #[⟨0, 0, 4722366482869645213696, 32, 0⟩, ⟨1, 1, 9444732965739290427392, 4722366482869645213696, 2⟩, ⟨0, 0, 18889465931478580854784, 64, 0⟩, ⟨6, 7, 37778931862957161709568, 18889465931478580854784, 2⟩, ⟨10, 15, 75557863725914323419136, 47223664828696452136960, 2⟩, ⟨0, 0, 151115727451828646838272, 128, 0⟩, ⟨48, 63, 302231454903657293676544, 151115727451828646838272, 2⟩, ⟨80, 127, 604462909807314587353088, 377789318629571617095680, 0⟩, ⟨192, 255, 1208925819614629174706176, 604462909807314587353088, 0⟩, ⟨256, 511, 2417851639229258349412352, 1208925819614629174706304, 0⟩, ⟨768, 1023, 4835703278458516698824704, 3626777458843887524118528, 2⟩, ⟨256, 511, 9671406556917033397649408, 1208925819614629174706304, 0⟩, ⟨3328, 4095, 19342813113834066795298816, 10880332376531662572355584, 2⟩, ⟨5376, 8191, 38685626227668133590597632, 25387442211907212668829696, 0⟩, ⟨8448, 16383, 77371252455336267181195264, 39894552047282762765303808, 0⟩, ⟨20480, 32767, 154742504910672534362390528, 77371252455336267181195264, 0⟩, ⟨32768, 65535, 309485009821345068724781056, 154742504910672534362390560, 0⟩, ⟨98304, 131071, 618970019642690137449562112, 464227514732017603087171584, 2⟩, ⟨32768, 65535, 1237940039285380274899124224, 154742504910672534362394624, 1⟩, ⟨425984, 524287, 2475880078570760549798248448, 2011652563838742946711076864, 3⟩, ⟨32768, 65535, 4951760157141521099596496896, 154742504910672534362390560, 0⟩, ⟨1605632, 2097151, 9903520314283042199192993792, 5106502662052193633958887424, 3⟩, ⟨2654208, 4194303, 19807040628566084398385987584, 12534142897764475283353632768, 0⟩, ⟨4227072, 8388607, 39614081257132168796771975168, 19961783133476756932748378112, 0⟩, ⟨16777215, 16777215, 16, 39614081257132168796771975168, 0⟩] 262144 [(0, 0), (2, 0), (5, 0), (1, 2), (3, 2), (4, 2), (6, 2), (7, 0), (8, 0), (9, 0), (11, 0), (10, 2), (12, 2), (13, 0), (14, 0), (15, 0), (16, 0), (18, 1), (20, 0), (17, 2), (19, 3), (21, 3), (22, 0), (23, 0), (24, 0)] (by kernel_rfl) (by kernel_rfl) (by kernel_rfl) (by kernel_rfl) (by kernel_rfl) (by kernel_rfl) (fun c a d v w h => by cases d <;> exact h) ?_
          refine seq_calc (by simp only [List.getElem?_toArray, List.getElem?_cons_succ, List.getElem?_cons_zero]; rfl) (by rfl) (fun u => by go_simp <;> with_reducible rfl) ?_
          try simp only [Act.put, List.setIfInBounds_toArray, List.set_cons_zero, List.set_cons_succ]
          refine seq_calc (by simp only [List.getElem?_toArray, List.getElem?_cons_succ, List.getElem?_cons_zero]; rfl) (by rfl) (fun u => by go_simp <;> with_reducible rfl) ?_
          try simp only [Act.put, List.setIfInBounds_toArray, List.set_cons_zero, List.set_cons_succ]
          refine seq_calc (by simp only [List.getElem?_toArray, List.getElem?_cons_succ, List.getElem?_cons_zero]; rfl) (by rfl) (fun u => by go_simp <;> with_reducible rfl) ?_
          try simp only [Act.put, List.setIfInBounds_toArray, List.set_cons_zero, List.set_cons_succ]
          refine seq_do (by simp only [List.getElem?_toArray, List.getElem?_cons_succ, List.getElem?_cons_zero]; rfl) (by rfl) (fun K hK => ?_); go_wp2_with (first | (go_at_call 45; (first | with_reducible refine (meterAll_any _ X 64 _ PX.out).mono ?_ | with_reducible refine (meterAll_any _ Y 64 _ PY.out).mono ?_ | with_reducible refine (meterAll_any _ Z 64 _ PZ.out).mono ?_); simp only [freeM]; rintro e w1 ⟨rfl, hb1⟩; replace PX := Lib.hid (PX.out.below hb1 PX.out.lt); replace PY := Lib.hid (PY.out.below hb1 PY.out.lt); replace PZ := Lib.hid (PZ.out.below hb1 PZ.out.lt); have hB1 : Below w.heap.size w w1 := (by first | exact hB1.trans (hb1.mono hB1.size) | exact hB1.trans (Below.undrew (hb1.mono hB1.size)) | exact hb1 | exact Below.trans (by go_grown) (hb1.mono (by simp <;> omega))); have hcC := fun (o : Nat) => hb1.cell (p := ⟨C, o, none⟩) (by first | assumption | (simp <;> omega)); have hfC := fun (o : Nat) => hb1.frozen (p := ⟨C, o, none⟩) (by first | assumption | (simp <;> omega)); have hzC : C < w1.heap.size := Nat.lt_of_lt_of_le (by first | assumption | (simp <;> omega)) hb1.size) | (go_at_call 46; refine (meterLast_any _ Z 64 _ PZ.out).mono ?_; simp only [freeM]; rintro e w1 ⟨rfl, hb1⟩; replace PX := Lib.hid (PX.out.below hb1 PX.out.lt); replace PY := Lib.hid (PY.out.below hb1 PY.out.lt); replace PZ := Lib.hid (PZ.out.below hb1 PZ.out.lt); have hB1 : Below w.heap.size w w1 := (by first | exact hB1.trans (hb1.mono hB1.size) | exact hB1.trans (Below.undrew (hb1.mono hB1.size)) | exact hb1 | exact Below.trans (by go_grown) (hb1.mono (by simp <;> omega))); have hcC := fun (o : Nat) => hb1.cell (p := ⟨C, o, none⟩) (by first | assumption | (simp <;> omega)); have hfC := fun (o : Nat) => hb1.frozen (p := ⟨C, o, none⟩) (by first | assumption | (simp <;> omega)); have hzC : C < w1.heap.size := Nat.lt_of_lt_of_le (by first | assumption | (simp <;> omega)) hb1.size) | (go_at_call 49; refine (meterPlus_any _ _ _ _ _ _ _).mono ?_; (try simp only [p0, p1, p2]); (try simp only [o0, o1, o2]); rintro e w1 ⟨rfl, hb1⟩; replace PX := Lib.hid (PX.out.below hb1 PX.out.lt); replace PY := Lib.hid (PY.out.below hb1 PY.out.lt); replace PZ := Lib.hid (PZ.out.below hb1 PZ.out.lt); have hB1 : Below w.heap.size w w1 := (by first | exact hB1.trans (hb1.mono hB1.size) | exact hB1.trans (Below.undrew (hb1.mono hB1.size)) | exact hb1 | exact Below.trans (by go_grown) (hb1.mono (by simp <;> omega))); have hcC := fun (o : Nat) => hb1.cell (p := ⟨C, o, none⟩) (by first | assumption | (simp <;> omega)); have hfC := fun (o : Nat) => hb1.frozen (p := ⟨C, o, none⟩) (by first | assumption | (simp <;> omega)); have hzC : C < w1.heap.size := Nat.lt_of_lt_of_le (by first | assumption | (simp <;> omega)) hb1.size)); refine hK.out _ _ (by first | (with_reducible exact Chg.refl _ _) | (with_reducible assumption) | (refine Chg.of_below ?_; with_reducible assumption) | (with_reducible exact (Chg.refl _ _).alloc _) | (with_reducible exact (Chg.refl _ _).drewN _) | (with_reducible exact (Chg.refl _ _).drew) | exact ⟨rfl, rfl, rfl, Nat.le_refl _, fun _ _ _ => rfl⟩) ?_; clear hK K
          try simp only [Act.put, List.setIfInBounds_toArray, List.set_cons_zero, List.set_cons_succ]
          refine seq_do (by simp only [List.getElem?_toArray, List.getElem?_cons_succ, List.getElem?_cons_zero]; rfl) (by rfl) (fun K hK => ?_); go_wp2_with (first | (go_at_call 45; (first | with_reducible refine (meterAll_any _ X 64 _ PX.out).mono ?_ | with_reducible refine (meterAll_any _ Y 64 _ PY.out).mono ?_ | with_reducible refine (meterAll_any _ Z 64 _ PZ.out).mono ?_); simp only [freeM]; rintro e w1 ⟨rfl, hb1⟩; replace PX := Lib.hid (PX.out.below hb1 PX.out.lt); replace PY := Lib.hid (PY.out.below hb1 PY.out.lt); replace PZ := Lib.hid (PZ.out.below hb1 PZ.out.lt); have hB1 : Below w.heap.size w w1 := (by first | exact hB1.trans (hb1.mono hB1.size) | exact hB1.trans (Below.undrew (hb1.mono hB1.size)) | exact hb1 | exact Below.trans (by go_grown) (hb1.mono (by simp <;> omega))); have hcC := fun (o : Nat) => hb1.cell (p := ⟨C, o, none⟩) (by first | assumption | (simp <;> omega)); have hfC := fun (o : Nat) => hb1.frozen (p := ⟨C, o, none⟩) (by first | assumption | (simp <;> omega)); have hzC : C < w1.heap.size := Nat.lt_of_lt_of_le (by first | assumption | (simp <;> omega)) hb1.size) | (go_at_call 46; refine (meterLast_any _ Z 64 _ PZ.out).mono ?_; simp only [freeM]; rintro e w1 ⟨rfl, hb1⟩; replace PX := Lib.hid (PX.out.below hb1 PX.out.lt); replace PY := Lib.hid (PY.out.below hb1 PY.out.lt); replace PZ := Lib.hid (PZ.out.below hb1 PZ.out.lt); have hB1 : Below w.heap.size w w1 := (by first | exact hB1.trans (hb1.mono hB1.size) | exact hB1.trans (Below.undrew (hb1.mono hB1.size)) | exact hb1 | exact Below.trans (by go_grown) (hb1.mono (by simp <;> omega))); have hcC := fun (o : Nat) => hb1.cell (p := ⟨C, o, none⟩) (by first | assumption | (simp <;> omega)); have hfC := fun (o : Nat) => hb1.frozen (p := ⟨C, o, none⟩) (by first | assumption | (simp <;> omega)); have hzC : C < w1.heap.size := Nat.lt_of_lt_of_le (by first | assumption | (simp <;> omega)) hb1.size) | (go_at_call 49; refine (meterPlus_any _ _ _ _ _ _ _).mono ?_; (try simp only [p0, p1, p2]); (try simp only [o0, o1, o2]); rintro e w1 ⟨rfl, hb1⟩; replace PX := Lib.hid (PX.out.below hb1 PX.out.lt); replace PY := Lib.hid (PY.out.below hb1 PY.out.lt); replace PZ := Lib.hid (PZ.out.below hb1 PZ.out.lt); have hB1 : Below w.heap.size w w1 := (by first | exact hB1.trans (hb1.mono hB1.size) | exact hB1.trans (Below.undrew (hb1.mono hB1.size)) | exact hb1 | exact Below.trans (by go_grown) (hb1.mono (by simp <;> omega))); have hcC := fun (o : Nat) => hb1.cell (p := ⟨C, o, none⟩) (by first | assumption | (simp <;> omega)); have hfC := fun (o : Nat) => hb1.frozen (p := ⟨C, o, none⟩) (by first | assumption | (simp <;> omega)); have hzC : C < w1.heap.size := Nat.lt_of_lt_of_le (by first | assumption | (simp <;> omega)) hb1.size)); refine hK.out _ _ (by first | (with_reducible exact Chg.refl _ _) | (with_reducible assumption) | (refine Chg.of_below ?_; with_reducible assumption) | (with_reducible exact (Chg.refl _ _).alloc _) | (with_reducible exact (Chg.refl _ _).drewN _) | (with_reducible exact (Chg.refl _ _).drew) | exact ⟨rfl, rfl, rfl, Nat.le_refl _, fun _ _ _ => rfl⟩) ?_; clear hK K
          try simp only [Act.put, List.setIfInBounds_toArray, List.set_cons_zero, List.set_cons_succ]
          refine seq_do (by simp only [List.getElem?_toArray, List.getElem?_cons_succ, List.getElem?_cons_zero]; rfl) (by rfl) (fun K hK => ?_); go_wp2_with (first | (go_at_call 45; (first | with_reducible refine (meterAll_any _ X 64 _ PX.out).mono ?_ | with_reducible refine (meterAll_any _ Y 64 _ PY.out).mono ?_ | with_reducible refine (meterAll_any _ Z 64 _ PZ.out).mono ?_); simp only [freeM]; rintro e w1 ⟨rfl, hb1⟩; replace PX := Lib.hid (PX.out.below hb1 PX.out.lt); replace PY := Lib.hid (PY.out.below hb1 PY.out.lt); replace PZ := Lib.hid (PZ.out.below hb1 PZ.out.lt); have hB1 : Below w.heap.size w w1 := (by first | exact hB1.trans (hb1.mono hB1.size) | exact hB1.trans (Below.undrew (hb1.mono hB1.size)) | exact hb1 | exact Below.trans (by go_grown) (hb1.mono (by simp <;> omega))); have hcC := fun (o : Nat) => hb1.cell (p := ⟨C, o, none⟩) (by first | assumption | (simp <;> omega)); have hfC := fun (o : Nat) => hb1.frozen (p := ⟨C, o, none⟩) (by first | assumption | (simp <;> omega)); have hzC : C < w1.heap.size := Nat.lt_of_lt_of_le (by first | assumption | (simp <;> omega)) hb1.size) | (go_at_call 46; refine (meterLast_any _ Z 64 _ PZ.out).mono ?_; simp only [freeM]; rintro e w1 ⟨rfl, hb1⟩; replace PX := Lib.hid (PX.out.below hb1 PX.out.lt); replace PY := Lib.hid (PY.out.below hb1 PY.out.lt); replace PZ := Lib.hid (PZ.out.below hb1 PZ.out.lt); have hB1 : Below w.heap.size w w1 := (by first | exact hB1.trans (hb1.mono hB1.size) | exact hB1.trans (Below.undrew (hb1.mono hB1.size)) | exact hb1 | exact Below.trans (by go_grown) (hb1.mono (by simp <;> omega))); have hcC := fun (o : Nat) => hb1.cell (p := ⟨C, o, none⟩) (by first | assumption | (simp <;> omega)); have hfC := fun (o : Nat) => hb1.frozen (p := ⟨C, o, none⟩) (by first | assumption | (simp <;> omega)); have hzC : C < w1.heap.size := Nat.lt_of_lt_of_le (by first | assumption | (simp <;> omega)) hb1.size) | (go_at_call 49; refine (meterPlus_any _ _ _ _ _ _ _).mono ?_; (try simp only [p0, p1, p2]); (try simp only [o0, o1, o2]); rintro e w1 ⟨rfl, hb1⟩; replace PX := Lib.hid (PX.out.below hb1 PX.out.lt); replace PY := Lib.hid (PY.out.below hb1 PY.out.lt); replace PZ := Lib.hid (PZ.out.below hb1 PZ.out.lt); have hB1 : Below w.heap.size w w1 := (by first | exact hB1.trans (hb1.mono hB1.size) | exact hB1.trans (Below.undrew (hb1.mono hB1.size)) | exact hb1 | exact Below.trans (by go_grown) (hb1.mono (by simp <;> omega))); have hcC := fun (o : Nat) => hb1.cell (p := ⟨C, o, none⟩) (by first | assumption | (simp <;> omega)); have hfC := fun (o : Nat) => hb1.frozen (p := ⟨C, o, none⟩) (by first | assumption | (simp <;> omega)); have hzC : C < w1.heap.size := Nat.lt_of_lt_of_le (by first | assumption | (simp <;> omega)) hb1.size)); refine hK.out _ _ (by first | (with_reducible exact Chg.refl _ _) | (with_reducible assumption) | (refine Chg.of_below ?_; with_reducible assumption) | (with_reducible exact (Chg.refl _ _).alloc _) | (with_reducible exact (Chg.refl _ _).drewN _) | (with_reducible exact (Chg.refl _ _).drew) | exact ⟨rfl, rfl, rfl, Nat.le_refl _, fun _ _ _ => rfl⟩) ?_; clear hK K
          try simp only [Act.put, List.setIfInBounds_toArray, List.set_cons_zero, List.set_cons_succ]
          refine seq_do (by simp only [List.getElem?_toArray, List.getElem?_cons_succ, List.getElem?_cons_zero]; rfl) (by rfl) (fun K hK => ?_); go_wp2_with (first | (go_at_call 45; (first | with_reducible refine (meterAll_any _ X 64 _ PX.out).mono ?_ | with_reducible refine (meterAll_any _ Y 64 _ PY.out).mono ?_ | with_reducible refine (meterAll_any _ Z 64 _ PZ.out).mono ?_); simp only [freeM]; rintro e w1 ⟨rfl, hb1⟩; replace PX := Lib.hid (PX.out.below hb1 PX.out.lt); replace PY := Lib.hid (PY.out.below hb1 PY.out.lt); replace PZ := Lib.hid (PZ.out.below hb1 PZ.out.lt); have hB1 : Below w.heap.size w w1 := (by first | exact hB1.trans (hb1.mono hB1.size) | exact hB1.trans (Below.undrew (hb1.mono hB1.size)) | exact hb1 | exact Below.trans (by go_grown) (hb1.mono (by simp <;> omega))); have hcC := fun (o : Nat) => hb1.cell (p := ⟨C, o, none⟩) (by first | assumption | (simp <;> omega)); have hfC := fun (o : Nat) => hb1.frozen (p := ⟨C, o, none⟩) (by first | assumption | (simp <;> omega)); have hzC : C < w1.heap.size := Nat.lt_of_lt_of_le (by first | assumption | (simp <;> omega)) hb1.size) | (go_at_call 46; refine (meterLast_any _ Z 64 _ PZ.out).mono ?_; simp only [freeM]; rintro e w1 ⟨rfl, hb1⟩; replace PX := Lib.hid (PX.out.below hb1 PX.out.lt); replace PY := Lib.hid (PY.out.below hb1 PY.out.lt); replace PZ := Lib.hid (PZ.out.below hb1 PZ.out.lt); have hB1 : Below w.heap.size w w1 := (by first | exact hB1.trans (hb1.mono hB1.size) | exact hB1.trans (Below.undrew (hb1.mono hB1.size)) | exact hb1 | exact Below.trans (by go_grown) (hb1.mono (by simp <;> omega))); have hcC := fun (o : Nat) => hb1.cell (p := ⟨C, o, none⟩) (by first | assumption | (simp <;> omega)); have hfC := fun (o : Nat) => hb1.frozen (p := ⟨C, o, none⟩) (by first | assumption | (simp <;> omega)); have hzC : C < w1.heap.size := Nat.lt_of_lt_of_le (by first | assumption | (simp <;> omega)) hb1.size) | (go_at_call 49; refine (meterPlus_any _ _ _ _ _ _ _).mono ?_; (try simp only [p0, p1, p2]); (try simp only [o0, o1, o2]); rintro e w1 ⟨rfl, hb1⟩; replace PX := Lib.hid (PX.out.below hb1 PX.out.lt); replace PY := Lib.hid (PY.out.below hb1 PY.out.lt); replace PZ := Lib.hid (PZ.out.below hb1 PZ.out.lt); have hB1 : Below w.heap.size w w1 := (by first | exact hB1.trans (hb1.mono hB1.size) | exact hB1.trans (Below.undrew (hb1.mono hB1.size)) | exact hb1 | exact Below.trans (by go_grown) (hb1.mono (by simp <;> omega))); have hcC := fun (o : Nat) => hb1.cell (p := ⟨C, o, none⟩) (by first | assumption | (simp <;> omega)); have hfC := fun (o : Nat) => hb1.frozen (p := ⟨C, o, none⟩) (by first | assumption | (simp <;> omega)); have hzC : C < w1.heap.size := Nat.lt_of_lt_of_le (by first | assumption | (simp <;> omega)) hb1.size)); refine hK.out _ _ (by first | (with_reducible exact Chg.refl _ _) | (with_reducible assumption) | (refine Chg.of_below ?_; with_reducible assumption) | (with_reducible exact (Chg.refl _ _).alloc _) | (with_reducible exact (Chg.refl _ _).drewN _) | (with_reducible exact (Chg.refl _ _).drew) | exact ⟨rfl, rfl, rfl, Nat.le_refl _, fun _ _ _ => rfl⟩) ?_; clear hK K
          try simp only [Act.put, List.setIfInBounds_toArray, List.set_cons_zero, List.set_cons_succ]
          refine seq_calc (by simp only [List.getElem?_toArray, List.getElem?_cons_succ, List.getElem?_cons_zero]; rfl) (by rfl) (fun u => by go_simp <;> with_reducible rfl) ?_
          try simp only [Act.put, List.setIfInBounds_toArray, List.set_cons_zero, List.set_cons_succ]
          refine seq_calc (by simp only [List.getElem?_toArray, List.getElem?_cons_succ, List.getElem?_cons_zero]; rfl) (by rfl) (fun u => by go_simp <;> with_reducible rfl) ?_
          try simp only [Act.put, List.setIfInBounds_toArray, List.set_cons_zero, List.set_cons_succ]
          first
            | (refine seq_skip (by simp only [List.getElem?_toArray, List.getElem?_cons_succ, List.getElem?_cons_zero]; rfl) (by rfl) ?_)
            | (refine seq_calc (by simp only [List.getElem?_toArray, List.getElem?_cons_succ, List.getElem?_cons_zero]; rfl) (by rfl) (fun u => by go_simp <;> with_reducible rfl) ?_)
          try simp only [Act.put, List.setIfInBounds_toArray, List.set_cons_zero, List.set_cons_succ]
          first
            | (refine seq_skip (by simp only [List.getElem?_toArray, List.getElem?_cons_succ, List.getElem?_cons_zero]; rfl) (by rfl) ?_)
            | (refine seq_calc (by simp only [List.getElem?_toArray, List.getElem?_cons_succ, List.getElem?_cons_zero]; rfl) (by rfl) (fun u => by go_simp <;> with_reducible rfl) ?_)
          try simp only [Act.put, List.setIfInBounds_toArray, List.set_cons_zero, List.set_cons_succ]
          first
            | (refine seq_skip (by simp only [List.getElem?_toArray, List.getElem?_cons_succ, List.getElem?_cons_zero]; rfl) (by rfl) ?_)
            | (refine seq_do (by simp only [List.getElem?_toArray, List.getElem?_cons_succ, List.getElem?_cons_zero]; rfl) (by rfl) (fun K hK => ?_); go_wp2_with (first | (go_at_call 45; (first | with_reducible refine (meterAll_any _ X 64 _ PX.out).mono ?_ | with_reducible refine (meterAll_any _ Y 64 _ PY.out).mono ?_ | with_reducible refine (meterAll_any _ Z 64 _ PZ.out).mono ?_); simp only [freeM]; rintro e w1 ⟨rfl, hb1⟩; replace PX := Lib.hid (PX.out.below hb1 PX.out.lt); replace PY := Lib.hid (PY.out.below hb1 PY.out.lt); replace PZ := Lib.hid (PZ.out.below hb1 PZ.out.lt); have hB1 : Below w.heap.size w w1 := (by first | exact hB1.trans (hb1.mono hB1.size) | exact hB1.trans (Below.undrew (hb1.mono hB1.size)) | exact hb1 | exact Below.trans (by go_grown) (hb1.mono (by simp <;> omega))); have hcC := fun (o : Nat) => hb1.cell (p := ⟨C, o, none⟩) (by first | assumption | (simp <;> omega)); have hfC := fun (o : Nat) => hb1.frozen (p := ⟨C, o, none⟩) (by first | assumption | (simp <;> omega)); have hzC : C < w1.heap.size := Nat.lt_of_lt_of_le (by first | assumption | (simp <;> omega)) hb1.size) | (go_at_call 46; refine (meterLast_any _ Z 64 _ PZ.out).mono ?_; simp only [freeM]; rintro e w1 ⟨rfl, hb1⟩; replace PX := Lib.hid (PX.out.below hb1 PX.out.lt); replace PY := Lib.hid (PY.out.below hb1 PY.out.lt); replace PZ := Lib.hid (PZ.out.below hb1 PZ.out.lt); have hB1 : Below w.heap.size w w1 := (by first | exact hB1.trans (hb1.mono hB1.size) | exact hB1.trans (Below.undrew (hb1.mono hB1.size)) | exact hb1 | exact Below.trans (by go_grown) (hb1.mono (by simp <;> omega))); have hcC := fun (o : Nat) => hb1.cell (p := ⟨C, o, none⟩) (by first | assumption | (simp <;> omega)); have hfC := fun (o : Nat) => hb1.frozen (p := ⟨C, o, none⟩) (by first | assumption | (simp <;> omega)); have hzC : C < w1.heap.size := Nat.lt_of_lt_of_le (by first | assumption | (simp <;> omega)) hb1.size) | (go_at_call 49; refine (meterPlus_any _ _ _ _ _ _ _).mono ?_; (try simp only [p0, p1, p2]); (try simp only [o0, o1, o2]); rintro e w1 ⟨rfl, hb1⟩; replace PX := Lib.hid (PX.out.below hb1 PX.out.lt); replace PY := Lib.hid (PY.out.below hb1 PY.out.lt); replace PZ := Lib.hid (PZ.out.below hb1 PZ.out.lt); have hB1 : Below w.heap.size w w1 := (by first | exact hB1.trans (hb1.mono hB1.size) | exact hB1.trans (Below.undrew (hb1.mono hB1.size)) | exact hb1 | exact Below.trans (by go_grown) (hb1.mono (by simp <;> omega))); have hcC := fun (o : Nat) => hb1.cell (p := ⟨C, o, none⟩) (by first | assumption | (simp <;> omega)); have hfC := fun (o : Nat) => hb1.frozen (p := ⟨C, o, none⟩) (by first | assumption | (simp <;> omega)); have hzC : C < w1.heap.size := Nat.lt_of_lt_of_le (by first | assumption | (simp <;> omega)) hb1.size)); refine hK.out _ _ (by first | (with_reducible exact Chg.refl _ _) | (with_reducible assumption) | (refine Chg.of_below ?_; with_reducible assumption) | (with_reducible exact (Chg.refl _ _).alloc _) | (with_reducible exact (Chg.refl _ _).drewN _) | (with_reducible exact (Chg.refl _ _).drew) | exact ⟨rfl, rfl, rfl, Nat.le_refl _, fun _ _ _ => rfl⟩) ?_; clear hK K)
          try simp only [Act.put, List.setIfInBounds_toArray, List.set_cons_zero, List.set_cons_succ]
          first
            | (refine seq_skip (by simp only [List.getElem?_toArray, List.getElem?_cons_succ, List.getElem?_cons_zero]; rfl) (by rfl) ?_)
            | (refine seq_do (by simp only [List.getElem?_toArray, List.getElem?_cons_succ, List.getElem?_cons_zero]; rfl) (by rfl) (fun K hK => ?_); go_wp2_with (first | (go_at_call 45; (first | with_reducible refine (meterAll_any _ X 64 _ PX.out).mono ?_ | with_reducible refine (meterAll_any _ Y 64 _ PY.out).mono ?_ | with_reducible refine (meterAll_any _ Z 64 _ PZ.out).mono ?_); simp only [freeM]; rintro e w1 ⟨rfl, hb1⟩; replace PX := Lib.hid (PX.out.below hb1 PX.out.lt); replace PY := Lib.hid (PY.out.below hb1 PY.out.lt); replace PZ := Lib.hid (PZ.out.below hb1 PZ.out.lt); have hB1 : Below w.heap.size w w1 := (by first | exact hB1.trans (hb1.mono hB1.size) | exact hB1.trans (Below.undrew (hb1.mono hB1.size)) | exact hb1 | exact Below.trans (by go_grown) (hb1.mono (by simp <;> omega))); have hcC := fun (o : Nat) => hb1.cell (p := ⟨C, o, none⟩) (by first | assumption | (simp <;> omega)); have hfC := fun (o : Nat) => hb1.frozen (p := ⟨C, o, none⟩) (by first | assumption | (simp <;> omega)); have hzC : C < w1.heap.size := Nat.lt_of_lt_of_le (by first | assumption | (simp <;> omega)) hb1.size) | (go_at_call 46; refine (meterLast_any _ Z 64 _ PZ.out).mono ?_; simp only [freeM]; rintro e w1 ⟨rfl, hb1⟩; replace PX := Lib.hid (PX.out.below hb1 PX.out.lt); replace PY := Lib.hid (PY.out.below hb1 PY.out.lt); replace PZ := Lib.hid (PZ.out.below hb1 PZ.out.lt); have hB1 : Below w.heap.size w w1 := (by first | exact hB1.trans (hb1.mono hB1.size) | exact hB1.trans (Below.undrew (hb1.mono hB1.size)) | exact hb1 | exact Below.trans (by go_grown) (hb1.mono (by simp <;> omega))); have hcC := fun (o : Nat) => hb1.cell (p := ⟨C, o, none⟩) (by first | assumption | (simp <;> omega)); have hfC := fun (o : Nat) => hb1.frozen (p := ⟨C, o, none⟩) (by first | assumption | (simp <;> omega)); have hzC : C < w1.heap.size := Nat.lt_of_lt_of_le (by first | assumption | (simp <;> omega)) hb1.size) | (go_at_call 49; refine (meterPlus_any _ _ _ _ _ _ _).mono ?_; (try simp only [p0, p1, p2]); (try simp only [o0, o1, o2]); rintro e w1 ⟨rfl, hb1⟩; replace PX := Lib.hid (PX.out.below hb1 PX.out.lt); replace PY := Lib.hid (PY.out.below hb1 PY.out.lt); replace PZ := Lib.hid (PZ.out.below hb1 PZ.out.lt); have hB1 : Below w.heap.size w w1 := (by first | exact hB1.trans (hb1.mono hB1.size) | exact hB1.trans (Below.undrew (hb1.mono hB1.size)) | exact hb1 | exact Below.trans (by go_grown) (hb1.mono (by simp <;> omega))); have hcC := fun (o : Nat) => hb1.cell (p := ⟨C, o, none⟩) (by first | assumption | (simp <;> omega)); have hfC := fun (o : Nat) => hb1.frozen (p := ⟨C, o, none⟩) (by first | assumption | (simp <;> omega)); have hzC : C < w1.heap.size := Nat.lt_of_lt_of_le (by first | assumption | (simp <;> omega)) hb1.size)); refine hK.out _ _ (by first | (with_reducible exact Chg.refl _ _) | (with_reducible assumption) | (refine Chg.of_below ?_; with_reducible assumption) | (with_reducible exact (Chg.refl _ _).alloc _) | (with_reducible exact (Chg.refl _ _).drewN _) | (with_reducible exact (Chg.refl _ _).drew) | exact ⟨rfl, rfl, rfl, Nat.le_refl _, fun _ _ _ => rfl⟩) ?_; clear hK K)
          try simp only [Act.put, List.setIfInBounds_toArray, List.set_cons_zero, List.set_cons_succ]
          first
            | (refine seq_skip (by simp only [List.getElem?_toArray, List.getElem?_cons_succ, List.getElem?_cons_zero]; rfl) (by rfl) ?_)
            | (refine seq_calc (by simp only [List.getElem?_toArray, List.getElem?_cons_succ, List.getElem?_cons_zero]; rfl) (by rfl) (fun u => by go_simp <;> with_reducible rfl) ?_)
          try simp only [Act.put, List.setIfInBounds_toArray, List.set_cons_zero, List.set_cons_succ]
          refine seq_calc (by simp only [List.getElem?_toArray, List.getElem?_cons_succ, List.getElem?_cons_zero]; rfl) (by rfl) (fun u => by go_simp <;> with_reducible rfl) ?_
          try simp only [Act.put, List.setIfInBounds_toArray, List.set_cons_zero, List.set_cons_succ]
          refine seq_calc (by simp only [List.getElem?_toArray, List.getElem?_cons_succ, List.getElem?_cons_zero]; rfl) (by rfl) (fun u => by go_simp <;> with_reducible rfl) ?_
          try simp only [Act.put, List.setIfInBounds_toArray, List.set_cons_zero, List.set_cons_succ]
          first
            | (refine seq_skip (by simp only [List.getElem?_toArray, List.getElem?_cons_succ, List.getElem?_cons_zero]; rfl) (by rfl) ?_)
            | (refine seq_calc (by simp only [List.getElem?_toArray, List.getElem?_cons_succ, List.getElem?_cons_zero]; rfl) (by rfl) (fun u => by go_simp <;> with_reducible rfl) ?_)
          try simp only [Act.put, List.setIfInBounds_toArray, List.set_cons_zero, List.set_cons_succ]
          first
            | (refine seq_skip (by simp only [List.getElem?_toArray, List.getElem?_cons_succ, List.getElem?_cons_zero]; rfl) (by rfl) ?_)
            | (refine seq_loads [_, _, _] (by simp only [List.getElem?_toArray, List.getElem?_cons_succ, List.getElem?_cons_zero]; rfl) (by rfl) rfl rfl Tryd.underlying62 rfl (by kernel_rfl) (by first | (with_reducible assumption) | (refine cellsAre_range ?_; simp only [cellsAre]; (repeat' (first | exact True.intro | apply And.intro)); all_goals (go_simp <;> with_reducible rfl))) (by first | exact id | assumption | (simp; done) | (simp; omega)) ?_)
          try simp only [Act.put, List.setIfInBounds_toArray, List.set_cons_zero, List.set_cons_succ]
          first
            | (refine seq_skip (by simp only [List.getElem?_toArray, List.getElem?_cons_succ, List.getElem?_cons_zero]; rfl) (by rfl) ?_)
            | (refine seq_calc (by simp only [List.getElem?_toArray, List.getElem?_cons_succ, List.getElem?_cons_zero]; rfl) (by rfl) (fun u => by go_simp <;> with_reducible rfl) ?_)
          try simp only [Act.put, List.setIfInBounds_toArray, List.set_cons_zero, List.set_cons_succ]
          first
            | (refine seq_skip (by simp only [List.getElem?_toArray, List.getElem?_cons_succ, List.getElem?_cons_zero]; rfl) (by rfl) ?_)
            | (refine seq_do (by simp only [List.getElem?_toArray, List.getElem?_cons_succ, List.getElem?_cons_zero]; rfl) (by rfl) (fun K hK => ?_); go_wp2_with (first | (go_at_call 45; (first | with_reducible refine (meterAll_any _ X 64 _ PX.out).mono ?_ | with_reducible refine (meterAll_any _ Y 64 _ PY.out).mono ?_ | with_reducible refine (meterAll_any _ Z 64 _ PZ.out).mono ?_); simp only [freeM]; rintro e w1 ⟨rfl, hb1⟩; replace PX := Lib.hid (PX.out.below hb1 PX.out.lt); replace PY := Lib.hid (PY.out.below hb1 PY.out.lt); replace PZ := Lib.hid (PZ.out.below hb1 PZ.out.lt); have hB1 : Below w.heap.size w w1 := (by first | exact hB1.trans (hb1.mono hB1.size) | exact hB1.trans (Below.undrew (hb1.mono hB1.size)) | exact hb1 | exact Below.trans (by go_grown) (hb1.mono (by simp <;> omega))); have hcC := fun (o : Nat) => hb1.cell (p := ⟨C, o, none⟩) (by first | assumption | (simp <;> omega)); have hfC := fun (o : Nat) => hb1.frozen (p := ⟨C, o, none⟩) (by first | assumption | (simp <;> omega)); have hzC : C < w1.heap.size := Nat.lt_of_lt_of_le (by first | assumption | (simp <;> omega)) hb1.size) | (go_at_call 46; refine (meterLast_any _ Z 64 _ PZ.out).mono ?_; simp only [freeM]; rintro e w1 ⟨rfl, hb1⟩; replace PX := Lib.hid (PX.out.below hb1 PX.out.lt); replace PY := Lib.hid (PY.out.below hb1 PY.out.lt); replace PZ := Lib.hid (PZ.out.below hb1 PZ.out.lt); have hB1 : Below w.heap.size w w1 := (by first | exact hB1.trans (hb1.mono hB1.size) | exact hB1.trans (Below.undrew (hb1.mono hB1.size)) | exact hb1 | exact Below.trans (by go_grown) (hb1.mono (by simp <;> omega))); have hcC := fun (o : Nat) => hb1.cell (p := ⟨C, o, none⟩) (by first | assumption | (simp <;> omega)); have hfC := fun (o : Nat) => hb1.frozen (p := ⟨C, o, none⟩) (by first | assumption | (simp <;> omega)); have hzC : C < w1.heap.size := Nat.lt_of_lt_of_le (by first | assumption | (simp <;> omega)) hb1.size) | (go_at_call 49; refine (meterPlus_any _ _ _ _ _ _ _).mono ?_; (try simp only [p0, p1, p2]); (try simp only [o0, o1, o2]); rintro e w1 ⟨rfl, hb1⟩; replace PX := Lib.hid (PX.out.below hb1 PX.out.lt); replace PY := Lib.hid (PY.out.below hb1 PY.out.lt); replace PZ := Lib.hid (PZ.out.below hb1 PZ.out.lt); have hB1 : Below w.heap.size w w1 := (by first | exact hB1.trans (hb1.mono hB1.size) | exact hB1.trans (Below.undrew (hb1.mono hB1.size)) | exact hb1 | exact Below.trans (by go_grown) (hb1.mono (by simp <;> omega))); have hcC := fun (o : Nat) => hb1.cell (p := ⟨C, o, none⟩) (by first | assumption | (simp <;> omega)); have hfC := fun (o : Nat) => hb1.frozen (p := ⟨C, o, none⟩) (by first | assumption | (simp <;> omega)); have hzC : C < w1.heap.size := Nat.lt_of_lt_of_le (by first | assumption | (simp <;> omega)) hb1.size)); refine hK.out _ _ (by first | (with_reducible exact Chg.refl _ _) | (with_reducible assumption) | (refine Chg.of_below ?_; with_reducible assumption) | (with_reducible exact (Chg.refl _ _).alloc _) | (with_reducible exact (Chg.refl _ _).drewN _) | (with_reducible exact (Chg.refl _ _).drew) | exact ⟨rfl, rfl, rfl, Nat.le_refl _, fun _ _ _ => rfl⟩) ?_; clear hK K)
          try simp only [Act.put, List.setIfInBounds_toArray, List.set_cons_zero, List.set_cons_succ]
          first
            | (refine seq_skip (by simp only [List.getElem?_toArray, List.getElem?_cons_succ, List.getElem?_cons_zero]; rfl) (by rfl) ?_)
            | (refine seq_last (by simp only [List.getElem?_toArray, List.getElem?_cons_succ, List.getElem?_cons_zero]; rfl) (by rfl) (fun K hK => ?_); go_wp2_with (first | (go_at_call 45; (first | with_reducible refine (meterAll_any _ X 64 _ PX.out).mono ?_ | with_reducible refine (meterAll_any _ Y 64 _ PY.out).mono ?_ | with_reducible refine (meterAll_any _ Z 64 _ PZ.out).mono ?_); simp only [freeM]; rintro e w1 ⟨rfl, hb1⟩; replace PX := Lib.hid (PX.out.below hb1 PX.out.lt); replace PY := Lib.hid (PY.out.below hb1 PY.out.lt); replace PZ := Lib.hid (PZ.out.below hb1 PZ.out.lt); have hB1 : Below w.heap.size w w1 := (by first | exact hB1.trans (hb1.mono hB1.size) | exact hB1.trans (Below.undrew (hb1.mono hB1.size)) | exact hb1 | exact Below.trans (by go_grown) (hb1.mono (by simp <;> omega))); have hcC := fun (o : Nat) => hb1.cell (p := ⟨C, o, none⟩) (by first | assumption | (simp <;> omega)); have hfC := fun (o : Nat) => hb1.frozen (p := ⟨C, o, none⟩) (by first | assumption | (simp <;> omega)); have hzC : C < w1.heap.size := Nat.lt_of_lt_of_le (by first | assumption | (simp <;> omega)) hb1.size) | (go_at_call 46; refine (meterLast_any _ Z 64 _ PZ.out).mono ?_; simp only [freeM]; rintro e w1 ⟨rfl, hb1⟩; replace PX := Lib.hid (PX.out.below hb1 PX.out.lt); replace PY := Lib.hid (PY.out.below hb1 PY.out.lt); replace PZ := Lib.hid (PZ.out.below hb1 PZ.out.lt); have hB1 : Below w.heap.size w w1 := (by first | exact hB1.trans (hb1.mono hB1.size) | exact hB1.trans (Below.undrew (hb1.mono hB1.size)) | exact hb1 | exact Below.trans (by go_grown) (hb1.mono (by simp <;> omega))); have hcC := fun (o : Nat) => hb1.cell (p := ⟨C, o, none⟩) (by first | assumption | (simp <;> omega)); have hfC := fun (o : Nat) => hb1.frozen (p := ⟨C, o, none⟩) (by first | assumption | (simp <;> omega)); have hzC : C < w1.heap.size := Nat.lt_of_lt_of_le (by first | assumption | (simp <;> omega)) hb1.size) | (go_at_call 49; refine (meterPlus_any _ _ _ _ _ _ _).mono ?_; (try simp only [p0, p1, p2]); (try simp only [o0, o1, o2]); rintro e w1 ⟨rfl, hb1⟩; replace PX := Lib.hid (PX.out.below hb1 PX.out.lt); replace PY := Lib.hid (PY.out.below hb1 PY.out.lt); replace PZ := Lib.hid (PZ.out.below hb1 PZ.out.lt); have hB1 : Below w.heap.size w w1 := (by first | exact hB1.trans (hb1.mono hB1.size) | exact hB1.trans (Below.undrew (hb1.mono hB1.size)) | exact hb1 | exact Below.trans (by go_grown) (hb1.mono (by simp <;> omega))); have hcC := fun (o : Nat) => hb1.cell (p := ⟨C, o, none⟩) (by first | assumption | (simp <;> omega)); have hfC := fun (o : Nat) => hb1.frozen (p := ⟨C, o, none⟩) (by first | assumption | (simp <;> omega)); have hzC : C < w1.heap.size := Nat.lt_of_lt_of_le (by first | assumption | (simp <;> omega)) hb1.size)); refine hK.out _ _ ?_; clear hK K)
          try simp only [Act.put, List.setIfInBounds_toArray, List.set_cons_zero, List.set_cons_succ]
          first
            | (refine seq_skip (by simp only [List.getElem?_toArray, List.getElem?_cons_succ, List.getElem?_cons_zero]; rfl) (by rfl) ?_)
            | (refine seq_last (by simp only [List.getElem?_toArray, List.getElem?_cons_succ, List.getElem?_cons_zero]; rfl) (by rfl) (fun K hK => ?_); go_wp2_with (first | (go_at_call 45; (first | with_reducible refine (meterAll_any _ X 64 _ PX.out).mono ?_ | with_reducible refine (meterAll_any _ Y 64 _ PY.out).mono ?_ | with_reducible refine (meterAll_any _ Z 64 _ PZ.out).mono ?_); simp only [freeM]; rintro e w1 ⟨rfl, hb1⟩; replace PX := Lib.hid (PX.out.below hb1 PX.out.lt); replace PY := Lib.hid (PY.out.below hb1 PY.out.lt); replace PZ := Lib.hid (PZ.out.below hb1 PZ.out.lt); have hB1 : Below w.heap.size w w1 := (by first | exact hB1.trans (hb1.mono hB1.size) | exact hB1.trans (Below.undrew (hb1.mono hB1.size)) | exact hb1 | exact Below.trans (by go_grown) (hb1.mono (by simp <;> omega))); have hcC := fun (o : Nat) => hb1.cell (p := ⟨C, o, none⟩) (by first | assumption | (simp <;> omega)); have hfC := fun (o : Nat) => hb1.frozen (p := ⟨C, o, none⟩) (by first | assumption | (simp <;> omega)); have hzC : C < w1.heap.size := Nat.lt_of_lt_of_le (by first | assumption | (simp <;> omega)) hb1.size) | (go_at_call 46; refine (meterLast_any _ Z 64 _ PZ.out).mono ?_; simp only [freeM]; rintro e w1 ⟨rfl, hb1⟩; replace PX := Lib.hid (PX.out.below hb1 PX.out.lt); replace PY := Lib.hid (PY.out.below hb1 PY.out.lt); replace PZ := Lib.hid (PZ.out.below hb1 PZ.out.lt); have hB1 : Below w.heap.size w w1 := (by first | exact hB1.trans (hb1.mono hB1.size) | exact hB1.trans (Below.undrew (hb1.mono hB1.size)) | exact hb1 | exact Below.trans (by go_grown) (hb1.mono (by simp <;> omega))); have hcC := fun (o : Nat) => hb1.cell (p := ⟨C, o, none⟩) (by first | assumption | (simp <;> omega)); have hfC := fun (o : Nat) => hb1.frozen (p := ⟨C, o, none⟩) (by first | assumption | (simp <;> omega)); have hzC : C < w1.heap.size := Nat.lt_of_lt_of_le (by first | assumption | (simp <;> omega)) hb1.size) | (go_at_call 49; refine (meterPlus_any _ _ _ _ _ _ _).mono ?_; (try simp only [p0, p1, p2]); (try simp only [o0, o1, o2]); rintro e w1 ⟨rfl, hb1⟩; replace PX := Lib.hid (PX.out.below hb1 PX.out.lt); replace PY := Lib.hid (PY.out.below hb1 PY.out.lt); replace PZ := Lib.hid (PZ.out.below hb1 PZ.out.lt); have hB1 : Below w.heap.size w w1 := (by first | exact hB1.trans (hb1.mono hB1.size) | exact hB1.trans (Below.undrew (hb1.mono hB1.size)) | exact hb1 | exact Below.trans (by go_grown) (hb1.mono (by simp <;> omega))); have hcC := fun (o : Nat) => hb1.cell (p := ⟨C, o, none⟩) (by first | assumption | (simp <;> omega)); have hfC := fun (o : Nat) => hb1.frozen (p := ⟨C, o, none⟩) (by first | assumption | (simp <;> omega)); have hzC : C < w1.heap.size := Nat.lt_of_lt_of_le (by first | assumption | (simp <;> omega)) hb1.size)); refine hK.out _ _ ?_; clear hK K)
          try simp only [Act.put, List.setIfInBounds_toArray, List.set_cons_zero, List.set_cons_succ]
          first
            | (refine seq_skip (by simp only [List.getElem?_toArray, List.getElem?_cons_succ, List.getElem?_cons_zero]; rfl) (by rfl) ?_)
            | (refine seq_calc (by simp only [List.getElem?_toArray, List.getElem?_cons_succ, List.getElem?_cons_zero]; rfl) (by rfl) (fun u => by go_simp <;> with_reducible rfl) ?_)
          try simp only [Act.put, List.setIfInBounds_toArray, List.set_cons_zero, List.set_cons_succ]
          refine seq_calc (by simp only [List.getElem?_toArray, List.getElem?_cons_succ, List.getElem?_cons_zero]; rfl) (by rfl) (fun u => by go_simp <;> with_reducible rfl) ?_
          try simp only [Act.put, List.setIfInBounds_toArray, List.set_cons_zero, List.set_cons_succ]
          refine seq_calc (by simp only [List.getElem?_toArray, List.getElem?_cons_succ, List.getElem?_cons_zero]; rfl) (by rfl) (fun u => by go_simp <;> with_reducible rfl) ?_
          try simp only [Act.put, List.setIfInBounds_toArray, List.set_cons_zero, List.set_cons_succ]
          refine seq_nil ?_
          go_wp2
          go_ret
          exact ⟨rfl, PB.out.trans (hB1.mono PB.out.size)⟩
end Go.Proofs.YtplimhllfbdocaaDoor
