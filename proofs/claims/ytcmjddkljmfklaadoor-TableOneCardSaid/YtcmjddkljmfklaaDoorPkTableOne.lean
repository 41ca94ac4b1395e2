/- Texts joined: TableOne. No condition but those that stand within. -/
import Derived.Test.YtcmjddkljmfklaaDoorPkSwar
import Derived.Test.YtcmjddkljmfklaaDoorPkMeter
import Derived.Test.YtcmjddkljmfklaaDoorPkErrs
import Derived.Test.YtcmjddkljmfklaaDoorPkGroup
import Derived.Test.YtcmjddkljmfklaaDoorPkTab
import Derived.Test.YtcmjddkljmfklaaDoorPkTab2
namespace Go.Proofs.YtcmjddkljmfklaaDoor
set_option linter.unusedVariables false
set_option linter.unusedSimpArgs false
open Go.RowKit Go.Proofs
attribute [local go_sem] neq_nilG eql_nilG

theorem lens4 {w : World} {L : Nat} {a b c d : Value} (h : Blk w L 58 #[a, b, c, d]) : w.cell? ⟨L, 0, none⟩ = some a ∧ w.cell? ⟨L, 1, none⟩ = some b ∧ w.cell? ⟨L, 2, none⟩ = some c ∧ w.cell? ⟨L, 3, none⟩ = some d := ⟨h.cell 0, h.cell 1, h.cell 2, h.cell 3⟩
/-- two tables to which the same was done, and a lens -/
structure T2 (w : World) (B Q C R L : Nat) (T : TabS) (E : Nat → Addr) (w0 : World) : Prop where
  t : TN w B Q T E w0
  u : TN w C R T E w0
  l : Blk w L 58 #[.pointer none, .int .i64 0, .int .i64 0, .int .i64 0]
theorem T2.later {w w' w0 : World} {B Q C R L : Nat} {T : TabS} {E : Nat → Addr} (h : T2 w B Q C R L T E w0) (hb : Below w.heap.size w w') : T2 w' B Q C R L T E w0 := ⟨h.t.later hb, h.u.later hb, h.l.below hb h.l.lt⟩
theorem T2.alloc {w w0 : World} {B Q C R L : Nat} {T : TabS} {E : Nat → Addr} (h : T2 w B Q C R L T E w0) (o : Obj) : T2 (w.alloc o) B Q C R L T E w0 := h.later ((Below.refl _ _).alloc (Nat.le_refl _) o)
theorem lens_cells {w w' : World} {B Q L : Nat} (h : Blk w L 58 #[.pointer none, .int .i64 0, .int .i64 0, .int .i64 0]) (hc : Chg (fun b => b = B ∨ b = Q) w w') (h1 : L ≠ B) (h2 : L ≠ Q) : Blk w' L 58 #[.pointer none, .int .i64 0, .int .i64 0, .int .i64 0] := h.chg hc (by rintro (e | e) <;> omega)
theorem putN_le (T : TabS) (i : Int) (h : Nat) : T.putN i h ≤ 16 := by unfold TabS.putN; split <;> decide
/-- a key that is not there is put and let go: all is as it was -/
theorem fresh_yes {T : TabS} {H : Int → Nat} {n : Nat} (hF : TFun T H) (hO : TOnly T H n) {K : Int} (hK : (n : Int) ≤ K) (v : Int) (hl : 1 ≤ T.left) (hh : H K < 18446744073709551616) :
    T.putB K (H K) = true ∧ T.putN K (H K) = 0 ∧ (T.putT K v (H K)).has K (H K) = true ∧ (T.putT K v (H K)).ent K (H K) = ⟨K, v, H K⟩ ∧ ((T.putT K v (H K)).delT K (H K)).lv = T.lv ∧
    ((T.putT K v (H K)).delT K (H K)).has K (H K) = false ∧ ∀ x : Nat, x < n → ((T.putT K v (H K)).delT K (H K)).has x (H x) = T.has x (H x) ∧ ((T.putT K v (H K)).delT K (H K)).ent x (H x) = T.ent x (H x) := by
  have hno : T.has K (H K) = false := hO K (by omega)
  have hok : T.ok K (H K) = true := by unfold TabS.ok; rw [hno]; simpa using hl
  have h1 := hF.put_at K v hh K
  rw [if_pos rfl, if_pos rfl, hok, if_pos rfl] at h1
  have hpB : T.putB K (H K) = true := by rw [hF.putB, hno]; simpa using hl
  have hF1 := hF.putT K v hh
  have h2 := hF1.del_at K K
  rw [if_pos rfl] at h2
  refine ⟨hpB, by rw [hF.putN, hok, if_pos rfl], h1.1, h1.2, ?_, h2.1, fun x hx => ?_⟩
  · rw [del_lv, h1.1, (hF.put_lv K v).1, hpB]; simp
  · have h3 := hF1.del_at K (x : Int)
    have h4 := hF.put_at K v hh (x : Int)
    rw [if_neg (by omega), if_neg (by omega)] at h3 h4
    exact ⟨h3.1.trans h4.1, h3.2.trans h4.2⟩
theorem fresh_no {T : TabS} {H : Int → Nat} {n : Nat} (hF : TFun T H) (hO : TOnly T H n) {K : Int} (hK : (n : Int) ≤ K) (v : Int) (hl : ¬ 1 ≤ T.left) :
    T.putB K (H K) = false ∧ T.putN K (H K) = 2 ∧ T.putT K v (H K) = T ∧ T.left = 0 := by
  have hno : T.has K (H K) = false := hO K (by omega)
  have hok : T.ok K (H K) = false := by unfold TabS.ok; rw [hno]; simpa using hl
  refine ⟨by rw [hF.putB, hno]; simpa using hl, by rw [hF.putN, hok]; rfl, ?_, ?_⟩
  · unfold TabS.putT; rw [hno, if_neg Bool.false_ne_true, hF.room hno, if_neg (by simpa using hl)]
  · have := hF.load; unfold TabS.left at hl ⊢; omega
set_option maxRecDepth 100000 in
set_option maxHeartbeats 16000000 in
theorem tableOne_any (n : Int) (v1 v2 : Value) (n1 n2 : Nat) (f1 f2 : Nat → Nat → Int) (E : Nat → Addr) (w0 : World) (he : ErrsAre w0 E) (hT : Tab64 w0) (h1 : RowsAt w0 v1 n1 1 .u64 f1) (h2 : RowsAt w0 v2 n2 3 .i64 f2) :
    Calls Tryd.prog 10 #[.int .i64 n, v1, v2] w0 fun e w' => e = .returned (.bool true) ∧ Below w0.heap.size w0 w' := by
  have m1 := h1.2.2
  have m2 := h2.2.2
  unfold maxLen at m1 m2
  have HE := Lib.hid he
  have HEC := Lib.hid (show EC w0 E [1, 2, 4, 5, 14, 16] from he.ec.sub (by decide))
  have HT := Lib.hid hT
  have AL := Lib.hid (alive09_any E w0 he hT)
  obtain ⟨a2, cap2, rfl, hx2⟩ := h2.cellAt (by decide)
  have HX2 := Lib.hid hx2
  clear he hT h2 hx2
  by_cases g0 : n1 < 1 ∨ 60 < n1
  · obtain ⟨a1, cap1, rfl, -⟩ := h1.cellAt (by decide)
    clear h1
    rcases g0 with g0 | g0
    · have d1 : (n1 : Int) < 1 := by omega
      go_enter Tryd.func10, Tryd.ntmps10
      go_wp2_with (go_at_call 57; refine AL.out.mono ?_; rintro e w1 ⟨rfl, hb1⟩)
      go_ret
      exact ⟨rfl, hb1⟩
    · have d1 : (1 : Int) ≤ (n1 : Int) := by omega
      have d2 : (60 : Int) < (n1 : Int) := by omega
      go_enter Tryd.func10, Tryd.ntmps10
      go_wp2_with (go_at_call 57; refine AL.out.mono ?_; rintro e w1 ⟨rfl, hb1⟩)
      go_ret
      exact ⟨rfl, hb1⟩
  have d1 : (1 : Int) ≤ (n1 : Int) := by omega
  have d2 : (n1 : Int) ≤ 60 := by omega
  obtain ⟨b1, o1, cap1, G, rfl, hb1z, hG, hc1⟩ := hashes_of h1 (by omega)
  have HC := Lib.hid hc1
  have HG := Lib.hid hG
  clear h1 hc1 hG
  by_cases g1 : 80 < n2
  · have d3 : (80 : Int) < (n2 : Int) := by omega
    go_enter Tryd.func10, Tryd.ntmps10
    go_wp2_with (go_at_call 57; refine AL.out.mono ?_; rintro e w1 ⟨rfl, hb1⟩)
    go_ret
    exact ⟨rfl, hb1⟩
  have d3 : (n2 : Int) ≤ 80 := by omega
  by_cases hr : rightB n = true
  · obtain ⟨g, rfl⟩ := Int.eq_ofNat_of_zero_le (show 0 ≤ n by rw [rightB_iff] at hr; omega)
    have hn := right_bd hr
    have NW := Lib.hid (fun (w' : World) => tnew_ok g hr w')
    have HR := Lib.hid hr
    clear hr
    go_enter Tryd.func10, Tryd.ntmps10
    go_wp2_with (first
      | (go_at_call 57; refine AL.out.mono ?_; rintro e w1 ⟨rfl, hb1⟩; have hz1 := hb1.size)
      | (go_at_call 58; refine (NW.out w1).mono ?_; rintro e w2 ⟨B, Q, rfl, hB, hQ, ht, hb2⟩; have hz2 := hb2.size; have S2 := Lib.hid (TMW.new (w0 := w0) HR.out HEC.out HT.out hb1 ht hb2 hB hQ); have hlB := S2.out.ltB; have hlQ := S2.out.ltQ; have hBQ := S2.out.ne; clear ht)
      | (go_at_call 58; refine (NW.out w2).mono ?_; rintro e w3 ⟨C, R, rfl, hC, hR, ht, hb3⟩; have hz3 := hb3.size; have U3 := Lib.hid (TMW.new (w0 := w0) HR.out HEC.out HT.out (hb1.trans (hb2.mono hz1)) ht hb3 hC hR); have S3 := Lib.hid (S2.out.later hb3); have hCR := U3.out.ne; have hlC := U3.out.ltB; have hlR := U3.out.ltQ; clear ht S2))
    obtain ⟨L, hL⟩ : ∃ L, L = w3.heap.size := ⟨_, rfl⟩
    have D0 := Lib.hid (show T2 (w3.alloc (.cells #[.pointer none, .int .i64 0, .int .i64 0, .int .i64 0] 58)) B Q C R L (TabS.new g) E w0 from ⟨S3.out.alloc _, U3.out.alloc _, by rw [hL]; exact Blk.new _ _ _⟩)
    have hs : L ≠ B ∧ L ≠ Q ∧ L ≠ C ∧ L ≠ R ∧ B ≠ C ∧ B ≠ R ∧ Q ≠ C ∧ Q ≠ R ∧ w0.heap.size ≤ B ∧ w0.heap.size ≤ Q ∧ w0.heap.size ≤ C ∧ w0.heap.size ≤ R := by omega
    simp only [← hL]
    obtain ⟨hLB, hLQ, hLC, hLR, hBC, hBR, hQC, hQR, hB0, hQ0, hC0, hR0⟩ := hs
    have F0 := Lib.hid (TFun.new HR.out (hashH n1 G))
    have O0 := Lib.hid (TOnly.new g (hashH n1 G) n1 HR.out)
    clear hL S3 U3 hlB hlQ hlC hlR hz1 hz2 hz3 hb1 hb2 hb3 hB hQ hC hR NW AL
    go_loopw [83] (fun v83 wr => ∃ (k : Nat) (T : TabS), k ≤ n2 ∧ v83 = .int .i64 (k : Int) ∧ T2 wr B Q C R L T E w0 ∧ TFun T (hashH n1 G) ∧ TOnly T (hashH n1 G) n1) (fun v83 _ => n2 - (intOf v83).toNat)
    case atStart => exact ⟨0, _, Nat.zero_le _, rfl, D0.out, F0.out, O0.out⟩
    case round =>
      clear D0 F0 O0
      obtain ⟨k, T, hk, rfl, hD, hF, hO⟩ := hrel
      have KF := Lib.hid hF
      have KO := Lib.hid hO
      have KD := Lib.hid hD
      clear hD hF hO
      by_cases hlt : k < n2
      · obtain ⟨b, off, rfl, hbz, hcells⟩ := HX2.out (by omega)
        have a0 : wr.cell? ⟨b, off + k * 3, none⟩ = some (.int .i64 (f2 k 0)) := by simpa using hcells wr KD.out.t.bel k hlt 0 (by decide)
        have a1 : wr.cell? ⟨b, off + k * 3 + 1, none⟩ = some (.int .i64 (f2 k 1)) := by simpa [Nat.add_assoc] using hcells wr KD.out.t.bel k hlt 1 (by decide)
        have a2 : wr.cell? ⟨b, off + k * 3 + 2, none⟩ = some (.int .i64 (f2 k 2)) := by simpa [Nat.add_assoc] using hcells wr KD.out.t.bel k hlt 2 (by decide)
        have hltI : (k : Int) < (n2 : Int) := by omega
        clear hcells
        generalize f2 k 0 = q at a0
        generalize f2 k 1 = ky at a1
        generalize f2 k 2 = vN at a2
        have hx := keyI_lt ky n1 (by omega)
        have KE := Lib.hid (fun (w' : World) (hw : Below w0.heap.size w0 w') => keyEntry_any b1 o1 n1 cap1 (by omega) (by omega) (fun i => (G i : Int)) q ky vN w' (Nat.lt_of_lt_of_le hb1z hw.size) (HC.out w' hw))
        generalize keyI ky n1 = x at *
        generalize valI vN = vv at *
        have hGx := HG.out x hx
        obtain ⟨h, hh⟩ : ∃ h, h = G x := ⟨_, rfl⟩
        rw [← hh] at KE hGx
        have HH := Lib.hid (hh.trans (hashH_in hx).symm)
        clear hh
        by_cases q0 : q = 0
        · subst q0
          have PU := Lib.hid (fun (B Q : Nat) (w' : World) (hs : TN w' B Q T E w0) => TN.put hs (x : Int) vv h hGx)
          have KF2 : Hid (TFun (T.putT (x : Int) vv h) (hashH n1 G)) := Lib.hid (by rw [HH.out]; exact KF.out.putT x vv (by rw [← HH.out]; exact hGx))
          have KO2 : Hid (TOnly (T.putT (x : Int) vv h) (hashH n1 G) n1) := Lib.hid (by rw [HH.out]; exact KO.out.put KF.out hx vv (by rw [← HH.out]; exact hGx))
          have NU := Lib.hid (fun (w' : World) hb' => num_any E (T.putN x h) (putN_le _ _ _) w' hb')
          generalize T.putN (x : Int) h = pn at *
          generalize T.putB (x : Int) h = pb at *
          generalize T.putT (x : Int) vv h = T' at *
          have e1 : (pb != pb) = false := by simp
          have e2 : ((pn : Int) != (pn : Int)) = false := by simp
          go_wp2_with (first
            | (go_at_call 59; refine (KE.out _ (KD.out.t.bel.trans ((Below.refl _ _).alloc KD.out.t.bel.size _))).mono ?_; rintro e w1 ⟨rfl, hb1⟩; have A1 := (Blk.new wr 108 #[.int .i64 0, .int .i64 ky, .int .i64 vN]).below hb1 (by simp); have a10 := A1.cell 0; have z1 := A1.lt; have zB1 := ((KD.out.alloc _).later hb1).t.ltB; have zQ1 := ((KD.out.alloc _).later hb1).t.ltQ; have D1 := Lib.hid (((KD.out.alloc _).later hb1).alloc (.cells #[.int .u64 (x : Int), .int .u64 vv, .int .u64 (h : Int)] 62)); obtain ⟨l0, l1, l2, l3⟩ := lens4 D1.out.l; have zL := D1.out.l.lt; clear KD)
            | (go_at_call 62; (with_reducible refine (PU.out B Q _ D1.out.t).mono ?_); rintro e w2 ⟨rfl, hs2, hc2⟩; have S2 := Lib.hid hs2; have U2 := Lib.hid (TN.other D1.out.u hc2 hB0 hQ0 hBC.symm (by omega) hBR.symm (by omega)); have L2 := Lib.hid (lens_cells D1.out.l hc2 hLB hLQ); obtain ⟨m0, m1', m2', m3⟩ := lens4 L2.out; have zL2 := L2.out.lt; have hE1 := (Blk.new w1 62 #[.int .u64 (x : Int), .int .u64 vv, .int .u64 (h : Int)]).chg hc2 (by rintro (e | e) <;> omega); obtain ⟨y0, y1, y2⟩ := cells3 hE1; have zE1 := hE1.lt; clear hs2)
            | (go_at_call 62; (with_reducible refine (PU.out C R _ U2.out).mono ?_); rintro e w3 ⟨rfl, hs3, hc3⟩; have D3 := Lib.hid (show T2 w3 B Q C R L T' E w0 from ⟨TN.other S2.out hc3 hC0 hR0 hBC hBR hQC hQR, hs3, lens_cells L2.out hc3 hLC hLR⟩); clear hs3)
            | (go_at_call 16; (with_reducible refine (NU.out _ (HE.out.below D3.out.t.bel)).mono ?_); rintro e w4 ⟨rfl, hb4⟩; have D4 := Lib.hid (D3.out.later hb4))
            | (go_at_call 16; (with_reducible refine (NU.out _ (HE.out.below D4.out.t.bel)).mono ?_); rintro e w5 ⟨rfl, hb5⟩; have D5 := Lib.hid (D4.out.later hb5)))
          go_roundw
          case rel => exact ⟨k + 1, T', by omega, by go_num, D5.out, KF2.out, KO2.out⟩
          case measure => simp [intOf]; omega
        have n0' : (q == 0) = false := by simpa using q0
        by_cases q1 : q = 1
        · subst q1
          have PU := Lib.hid (fun (B Q : Nat) (w' : World) (hs : TN w' B Q T E w0) => TN.del hs (x : Int) h hGx)
          have KF2 : Hid (TFun (T.delT (x : Int) h) (hashH n1 G)) := Lib.hid (KF.out.delT x h)
          have KO2 : Hid (TOnly (T.delT (x : Int) h) (hashH n1 G) n1) := Lib.hid (by rw [HH.out]; exact KO.out.del KF.out hx)
          generalize T.delT (x : Int) h = T' at *
          generalize T.has (x : Int) h = hs at *
          generalize (T.ent (x : Int) h).key = k0 at *
          generalize (T.ent (x : Int) h).val = k1 at *
          generalize (T.ent (x : Int) h).hash = k2 at *
          have e1 : (hs != hs) = false := by simp
          clear n0' q0
          go_wp2_with (first
            | (go_at_call 59; refine (KE.out _ (KD.out.t.bel.trans ((Below.refl _ _).alloc KD.out.t.bel.size _))).mono ?_; rintro e w1 ⟨rfl, hb1⟩; have A1 := (Blk.new wr 108 #[.int .i64 1, .int .i64 ky, .int .i64 vN]).below hb1 (by simp); have a10 := A1.cell 0; have z1 := A1.lt; have zB1 := ((KD.out.alloc _).later hb1).t.ltB; have zQ1 := ((KD.out.alloc _).later hb1).t.ltQ; have D1 := Lib.hid (((KD.out.alloc _).later hb1).alloc (.cells #[.int .u64 (x : Int), .int .u64 vv, .int .u64 (h : Int)] 62)); obtain ⟨l0, l1, l2, l3⟩ := lens4 D1.out.l; have zL := D1.out.l.lt; clear KD)
            | (go_at_call 63; (with_reducible refine (PU.out B Q _ D1.out.t).mono ?_); rintro e w2 ⟨rfl, hs2, hc2⟩; have S2 := Lib.hid (hs2.alloc (.cells #[.int .u64 k0, .int .u64 k1, .int .u64 k2] 62)); have U2 := Lib.hid ((TN.other D1.out.u hc2 hB0 hQ0 hBC.symm (by omega) hBR.symm (by omega)).alloc (.cells #[.int .u64 k0, .int .u64 k1, .int .u64 k2] 62)); have L2 := Lib.hid ((lens_cells D1.out.l hc2 hLB hLQ).alloc (.cells #[.int .u64 k0, .int .u64 k1, .int .u64 k2] 62)); obtain ⟨m0, m1', m2', m3⟩ := lens4 L2.out; have zL2 := L2.out.lt; have hE1 := ((Blk.new w1 62 #[.int .u64 (x : Int), .int .u64 vv, .int .u64 (h : Int)]).chg hc2 (by rintro (e | e) <;> omega)).alloc (.cells #[.int .u64 k0, .int .u64 k1, .int .u64 k2] 62); obtain ⟨y0, y1, y2⟩ := cells3 hE1; have zE1 := hE1.lt; have zC2 := (TN.other D1.out.u hc2 hB0 hQ0 hBC.symm (by omega) hBR.symm (by omega)).ltB; have zR2 := (TN.other D1.out.u hc2 hB0 hQ0 hBC.symm (by omega) hBR.symm (by omega)).ltQ; clear hs2)
            | (go_at_call 63; (with_reducible refine (PU.out C R _ U2.out).mono ?_); rintro e w3 ⟨rfl, hs3, hc3⟩; have D3 := Lib.hid ((show T2 w3 B Q C R L T' E w0 from ⟨TN.other S2.out hc3 hC0 hR0 hBC hBR hQC hQR, hs3, lens_cells L2.out hc3 hLC hLR⟩).alloc (.cells #[.int .u64 k0, .int .u64 k1, .int .u64 k2] 62)); have hX1 := ((Blk.new w2 62 #[.int .u64 k0, .int .u64 k1, .int .u64 k2]).chg hc3 (by rintro (e | e) <;> omega)); obtain ⟨x0, x1, x2⟩ := cells3 hX1; have zX1 := hX1.lt; clear hs3))
          go_roundw
          case rel => exact ⟨k + 1, T', by omega, by go_num, D3.out, KF2.out, KO2.out⟩
          case measure => simp [intOf]; omega
        · have n1' : (q == 1) = false := by simpa using q1
          go_wp2_with (go_at_call 59; refine (KE.out _ (KD.out.t.bel.trans ((Below.refl _ _).alloc KD.out.t.bel.size _))).mono ?_; rintro e w1 ⟨rfl, hb1⟩; have A1 := (Blk.new wr 108 #[.int .i64 q, .int .i64 ky, .int .i64 vN]).below hb1 (by simp); have a10 := A1.cell 0; have z1 := A1.lt; have D1 := Lib.hid (((KD.out.alloc _).later hb1).alloc (.cells #[.int .u64 (x : Int), .int .u64 vv, .int .u64 (h : Int)] 62)); clear KD)
          go_roundw
          case rel => exact ⟨k + 1, T, by omega, by go_num, D1.out, KF.out, KO.out⟩
          case measure => simp [intOf]; omega
      · obtain rfl : k = n2 := by omega
        have ST := Lib.hid (fun (v1 v2 : Value) (w' : World) h1 h2 => sameTexts_any v1 v2 T.texts w' h1 h2 (by rw [TabS.texts_len]; have := KF.out.good.bounds; omega))
        have hK : (n1 : Int) ≤ 1099511627776 := by omega
        have hH0 : G 0 = hashH n1 G 1099511627776 := (hashH_out hK).symm
        have hG0 := HG.out 0 (by omega)
        have LN := Lib.hid (fun (w' : World) (hs : TN w' B Q T E w0) => TMW.len hs)
        have c00 : ∀ w', Below w0.heap.size w0 w' → w'.cell? ⟨b1, o1, none⟩ = some (.int .u64 (G 0 : Int)) := fun w' hw => by simpa using HC.out w' hw 0 (by omega)
        have H00 := Lib.hid c00
        have nI : (0 : Int) < (n1 : Int) := by omega
        clear c00
        by_cases hl : 1 ≤ T.left
        · have FF := fresh_yes KF.out KO.out hK 1 hl (by rw [← hH0]; exact hG0)
          rw [← hH0] at FF
          obtain ⟨p1, p2, p3, p4, p5, p6, p7⟩ := FF
          have PU := Lib.hid (fun (w' : World) (hs : TN w' B Q T E w0) => TN.put hs 1099511627776 1 (G 0) hG0)
          rw [p1, p2, errN_0] at PU
          obtain ⟨T1, hT1⟩ : ∃ T1, T1 = T.putT 1099511627776 1 (G 0) := ⟨_, rfl⟩
          rw [← hT1] at PU p3 p4 p5 p6 p7
          have DL := Lib.hid (fun (w' : World) (hs : TN w' B Q T1 E w0) => TN.del hs 1099511627776 (G 0) hG0)
          rw [p3, p4] at DL
          obtain ⟨T2, hT2⟩ : ∃ T2, T2 = T1.delT 1099511627776 (G 0) := ⟨_, rfl⟩
          rw [← hT2] at DL p5 p6 p7
          have L2N := Lib.hid (fun (w' : World) (hs : TN w' B Q T2 E w0) => TMW.len hs)
          rw [p5] at L2N
          have FK := Lib.hid (fun (w' : World) (hs : TN w' B Q T2 E w0) => TN.find hs 1099511627776 (G 0) hG0)
          rw [p6] at FK
          have P7 := Lib.hid p7
          have hx0 : Hid (∀ x, x < n1 → hashH n1 G (x : Int) = G x) := Lib.hid (fun x hx => hashH_in hx)
          generalize (T2.ent 1099511627776 (G 0)).key = z0 at *
          generalize (T2.ent 1099511627776 (G 0)).val = z1 at *
          generalize (T2.ent 1099511627776 (G 0)).hash = z2 at *
          obtain ⟨lv, hlv⟩ : ∃ lv, lv = T.lv := ⟨_, rfl⟩
          rw [← hlv] at LN L2N
          obtain ⟨h0, hh0⟩ : ∃ h0, h0 = G 0 := ⟨_, rfl⟩
          rw [← hh0] at PU DL FK H00
          have e1 : (lv != lv) = false := by simp
          clear p1 p2 p3 p4 p5 p6 p7 hT1 hT2 hlv hH0 hh0 hl
          go_wp2_with (first
            | (go_at_call 71; (with_reducible refine (TMW.text KD.out.t).mono ?_); rintro e w1 ⟨tv1, rfl, hr1, hb1⟩; have KR1 := Lib.hid hr1; have D1 := Lib.hid (KD.out.later hb1); clear hr1)
            | (go_at_call 71; (with_reducible refine (TMW.text D1.out.u).mono ?_); rintro e w2 ⟨tv2, rfl, hr2, hb2⟩; have KR2 := Lib.hid hr2; have KQ2 := Lib.hid (KR1.out.later hb2); have D2 := Lib.hid (D1.out.later hb2); have c00 := H00.out _ D2.out.t.bel; have zb1 := Nat.lt_of_lt_of_le hb1z D2.out.t.bel.size; obtain ⟨l0, l1, l2, l3⟩ := lens4 D2.out.l; have zL := D2.out.l.lt; have zB2 := D2.out.t.ltB; have zQ2 := D2.out.t.ltQ; clear hr2 D1)
            | (go_at_call 70; refine (ST.out _ _ _ KQ2.out KR2.out).mono ?_; rintro e w' ⟨rfl, rfl⟩)
            | (go_at_call 65; (with_reducible refine (LN.out _ D2.out.t).mono ?_); rintro e w' ⟨rfl, rfl⟩)
            | (go_at_call 62; (with_reducible refine (PU.out _ (D2.out.t.alloc _)).mono ?_); rintro e w4 ⟨rfl, hs4, hc4⟩; have S4 := Lib.hid hs4; have U4 := Lib.hid (TN.other (D2.out.u.alloc _) hc4 hB0 hQ0 hBC.symm (by omega) hBR.symm (by omega)); have L4 := Lib.hid (lens_cells (D2.out.l.alloc _) hc4 hLB hLQ); obtain ⟨m0, m1', m2', m3⟩ := lens4 L4.out; have zL4 := L4.out.lt; have hE4 := (Blk.new w2 62 #[.int .u64 1099511627776, .int .u64 1, .int .u64 (h0 : Int)]).chg hc4 (by rintro (e | e) <;> omega); obtain ⟨y0, y1, y2⟩ := cells3 hE4; have zE4 := hE4.lt; have zB4 := hs4.ltB; have zQ4 := hs4.ltQ; have zEB : w2.heap.size ≠ B ∧ w2.heap.size ≠ Q := (by omega); clear hs4)
            | (go_at_call 63; (with_reducible refine (DL.out _ S4.out).mono ?_); rintro e w5 ⟨rfl, hs5, hc5⟩; have S5 := Lib.hid (hs5.alloc (.cells #[.int .u64 1099511627776, .int .u64 1, .int .u64 (h0 : Int)] 62)); have U5 := Lib.hid ((TN.other U4.out hc5 hB0 hQ0 hBC.symm (by omega) hBR.symm (by omega)).alloc (.cells #[.int .u64 1099511627776, .int .u64 1, .int .u64 (h0 : Int)] 62)); have L5 := Lib.hid ((lens_cells L4.out hc5 hLB hLQ).alloc (.cells #[.int .u64 1099511627776, .int .u64 1, .int .u64 (h0 : Int)] 62)); have hE5 := (hE4.chg hc5 (by rintro (e | e) <;> omega)).alloc (.cells #[.int .u64 1099511627776, .int .u64 1, .int .u64 (h0 : Int)] 62); have HE5 := Lib.hid hE5; obtain ⟨u0, u1, u2⟩ := cells3 hE5; have zE5 := hE5.lt; clear hs5)
            | (go_at_call 65; (with_reducible refine (L2N.out _ S5.out).mono ?_); rintro e w' ⟨rfl, rfl⟩))
          refine wp_at (fun w6 hW6 => ?_)
          have S6 := Lib.hid (show TN w6 B Q T2 E w0 by rw [hW6]; exact S5.out)
          have U6 := Lib.hid (show TN w6 C R T E w0 by rw [hW6]; exact U5.out)
          have L6 := Lib.hid (show Blk w6 L 58 #[.pointer none, .int .i64 0, .int .i64 0, .int .i64 0] by rw [hW6]; exact L5.out)
          have E6 := Lib.hid (show Blk w6 w2.heap.size 62 #[.int .u64 1099511627776, .int .u64 1, .int .u64 (h0 : Int)] by rw [hW6]; exact HE5.out)
          replace hW6 := Lib.hid hW6
          clear l0 l1 l2 l3 m0 m1' m2' m3 y0 y1 y2 u0 u1 u2 c00 hE4 hE5 S4 U4 L4 S5 U5 L5 HE5 zL zL4 zE4 zE5 KR2 KQ2 KR1
          go_loopw [212] (fun v212 wr => ∃ j : Nat, j ≤ n1 ∧ v212 = .int .i64 (j : Int) ∧ Below w6.heap.size w6 wr) (fun v212 _ => n1 - (intOf v212).toNat)
          case atStart => exact ⟨0, Nat.zero_le _, rfl, Below.refl _ _⟩
          case round =>
            obtain ⟨j, hj, rfl, hB⟩ := hrel
            have S7 := Lib.hid (S6.out.later hB)
            have U7 := Lib.hid (U6.out.later hB)
            obtain ⟨l0, l1, l2, l3⟩ := lens4 (L6.out.below hB L6.out.lt)
            have zL := (L6.out.below hB L6.out.lt).lt
            have hzB := hB.size
            by_cases hj2 : j < n1
            · have cj := HC.out wr S7.out.bel j hj2
              have zb := Nat.lt_of_lt_of_le hb1z S7.out.bel.size
              have hjI : (j : Int) < (n1 : Int) := by omega
              have hGj := HG.out j hj2
              have ew : IntKind.u64.wrap (j : Int) = (j : Int) := by rw [IntKind.wrap_u64]; omega
              have q7 := P7.out j hj2
              rw [hx0.out j hj2] at q7
              obtain ⟨q71, q72⟩ := q7
              have FT := Lib.hid (fun (w' : World) (hs : TN w' B Q T2 E w0) => TN.find hs (j : Int) (G j) hGj)
              have FU := Lib.hid (fun (w' : World) (hs : TN w' C R T E w0) => TN.find hs (j : Int) (G j) hGj)
              rw [q71, q72] at FT
              generalize T.has (j : Int) (G j) = hs at *
              generalize (T.ent (j : Int) (G j)).key = k0 at *
              generalize (T.ent (j : Int) (G j)).val = k1 at *
              generalize (T.ent (j : Int) (G j)).hash = k2 at *
              generalize G j = gj at *
              have e2 : (hs != hs) = false := by simp
              clear q71 q72
              go_wp2_with (first
                | (go_at_call 64; (with_reducible refine (FT.out _ S7.out).mono ?_); rintro e w7 ⟨rfl, hb7⟩; have D7 := Lib.hid (hB.trans ((hb7.mono hzB).alloc (Nat.le_trans hzB hb7.size) (.cells #[.int .u64 k0, .int .u64 k1, .int .u64 k2] 62))); have U8 := Lib.hid ((U7.out.later hb7).alloc (.cells #[.int .u64 k0, .int .u64 k1, .int .u64 k2] 62)); have hL7 := ((L6.out.below hB L6.out.lt).below hb7 zL).alloc (.cells #[.int .u64 k0, .int .u64 k1, .int .u64 k2] 62); obtain ⟨m0, m1', m2', m3⟩ := lens4 hL7; have zL7 := hL7.lt)
                | (go_at_call 64; (with_reducible refine (FU.out _ U8.out).mono ?_); rintro e w8 ⟨rfl, hb8⟩; have hX := (Blk.new w7 62 #[.int .u64 k0, .int .u64 k1, .int .u64 k2]).below hb8 (by simp); obtain ⟨x0, x1, x2⟩ := cells3 hX; have zX := hX.lt; have D8 := Lib.hid (D7.out.trans ((hb8.mono D7.out.size).alloc (Nat.le_trans D7.out.size hb8.size) (.cells #[.int .u64 k0, .int .u64 k1, .int .u64 k2] 62)))))
              go_roundw
              case rel => exact ⟨j + 1, by omega, by go_num, D8.out⟩
              case measure => simp [intOf]; omega
            · obtain rfl : j = n1 := by omega
              have hE8 := E6.out.below hB E6.out.lt
              obtain ⟨y0, y1, y2⟩ := cells3 hE8
              have zE := hE8.lt
              go_wp2_with (go_at_call 64; (with_reducible refine (FK.out _ S7.out).mono ?_); rintro e w7 ⟨rfl, hb7⟩; have D7 := Lib.hid (S7.out.later hb7))
              go_ret
              exact ⟨rfl, D7.out.bel⟩
        · have FN := fresh_no KF.out KO.out hK 1 hl
          rw [← hH0] at FN
          obtain ⟨p1, p2, p3, p4⟩ := FN
          have PU := Lib.hid (fun (w' : World) (hs : TN w' B Q T E w0) => TN.put hs 1099511627776 1 (G 0) hG0)
          rw [p1, p2, p3, errN_nz E 2 (by decide)] at PU
          have LF := Lib.hid (fun (w' : World) (hs : TN w' C R T E w0) => TMW.left hs)
          rw [p4] at LF
          obtain ⟨lv, hlv⟩ : ∃ lv, lv = T.lv := ⟨_, rfl⟩
          rw [← hlv] at LN
          obtain ⟨h0, hh0⟩ : ∃ h0, h0 = G 0 := ⟨_, rfl⟩
          rw [← hh0] at PU H00
          have e1 : (lv != lv) = false := by simp
          unfold errAt at PU
          clear p1 p2 p3 p4 hlv hH0 hh0 hl
          go_wp2_with (first
            | (go_at_call 71; (with_reducible refine (TMW.text KD.out.t).mono ?_); rintro e w1 ⟨tv1, rfl, hr1, hb1⟩; have KR1 := Lib.hid hr1; have D1 := Lib.hid (KD.out.later hb1); clear hr1)
            | (go_at_call 71; (with_reducible refine (TMW.text D1.out.u).mono ?_); rintro e w2 ⟨tv2, rfl, hr2, hb2⟩; have KR2 := Lib.hid hr2; have KQ2 := Lib.hid (KR1.out.later hb2); have D2 := Lib.hid (D1.out.later hb2); have c00 := H00.out _ D2.out.t.bel; have zb1 := Nat.lt_of_lt_of_le hb1z D2.out.t.bel.size; obtain ⟨l0, l1, l2, l3⟩ := lens4 D2.out.l; have zL := D2.out.l.lt; have zB2 := D2.out.t.ltB; have zQ2 := D2.out.t.ltQ; clear hr2 D1)
            | (go_at_call 70; refine (ST.out _ _ _ KQ2.out KR2.out).mono ?_; rintro e w' ⟨rfl, rfl⟩)
            | (go_at_call 65; (with_reducible refine (LN.out _ D2.out.t).mono ?_); rintro e w' ⟨rfl, rfl⟩)
            | (go_at_call 62; (with_reducible refine (PU.out _ (D2.out.t.alloc _)).mono ?_); rintro e w4 ⟨rfl, hs4, hc4⟩; have S4 := Lib.hid hs4; have U4 := Lib.hid (TN.other (D2.out.u.alloc _) hc4 hB0 hQ0 hBC.symm (by omega) hBR.symm (by omega)); clear hs4)
            | (go_at_call 60; (with_reducible refine (LF.out _ U4.out).mono ?_); rintro e w5 ⟨rfl, hb5⟩; have S5 := Lib.hid (S4.out.later hb5))
            | (go_at_call 65; (with_reducible refine (LN.out _ S5.out).mono ?_); rintro e w' ⟨rfl, rfl⟩))
          go_ret
          exact ⟨rfl, S5.out.bel⟩
  · replace hr : rightB n = false := by simpa using hr
    have NW := Lib.hid (fun (w' : World) he' => tnew_bad n hr E w' he')
    unfold errAt at *
    clear hr
    go_enter Tryd.func10, Tryd.ntmps10
    go_wp2_with (first
      | (go_at_call 57; refine AL.out.mono ?_; rintro e w1 ⟨rfl, hb1⟩)
      | (go_at_call 58; refine (NW.out w1 ((HEC.out.sub (by decide)).below hb1)).mono ?_; rintro e w2 ⟨rfl, hb2⟩; have hB2 := hb1.trans (hb2.mono hb1.size))
      | (go_at_call 58; refine (NW.out w2 ((HEC.out.sub (by decide)).below hB2)).mono ?_; rintro e w3 ⟨rfl, hb3⟩; have hB3 := hB2.trans (hb3.mono hB2.size)))
    go_ret
    exact ⟨rfl, hB3⟩
end Go.Proofs.YtcmjddkljmfklaaDoor
