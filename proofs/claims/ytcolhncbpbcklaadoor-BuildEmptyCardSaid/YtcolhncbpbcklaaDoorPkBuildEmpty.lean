/- Texts joined: BuildEmpty. No condition but those that stand within. -/
import Derived.Test.YtcolhncbpbcklaaDoorPkSwar
import Derived.Test.YtcolhncbpbcklaaDoorPkMeter
import Derived.Test.YtcolhncbpbcklaaDoorPkErrs
import Derived.Test.YtcolhncbpbcklaaDoorPkGroup
import Derived.Test.YtcolhncbpbcklaaDoorPkTab
import Derived.Test.YtcolhncbpbcklaaDoorPkTab2
import Derived.Test.YtcolhncbpbcklaaDoorPkBuild
namespace Go.Proofs.YtcolhncbpbcklaaDoor
set_option linter.unusedVariables false
set_option linter.unusedSimpArgs false
open Go.RowKit Go.Proofs
attribute [local go_sem] neq_nilG eql_nilG

theorem putN_le16 (T : TabS) (i : Int) (h : Nat) : T.putN i h ≤ 16 := by unfold TabS.putN; split <;> decide
/-- two tables to which the same was done, and the meter that both count in -/
structure BE (w : World) (B Q C R M : Nat) (T : TabS) (mt : MeterS) (E : Nat → Addr) (w0 : World) : Prop where
  t : TN w B Q T E w0
  u : TN w C R T E w0
  m : Blk w M 35 mt.cells
theorem BE.later {w w' w0 : World} {B Q C R M : Nat} {T : TabS} {mt : MeterS} {E : Nat → Addr} (h : BE w B Q C R M T mt E w0) (hb : Below w.heap.size w w') : BE w' B Q C R M T mt E w0 := ⟨h.t.later hb, h.u.later hb, h.m.below hb h.m.lt⟩
set_option maxRecDepth 100000 in
set_option maxHeartbeats 16000000 in
theorem buildEmpty_any (n : Int) (v : Value) (n1 : Nat) (f : Nat → Nat → Int) (E : Nat → Addr) (w0 : World) (he : ErrsAre w0 E) (hT : Tab64 w0) (h1 : RowsAt w0 v n1 1 .u64 f) :
    Calls Tryd.prog 4 #[.int .i64 n, v] w0 fun e w' => e = .returned (.bool true) ∧ Below w0.heap.size w0 w' := by
  have m1 := h1.2.2
  have hu := h1.2.1
  unfold maxLen at m1
  have HE := Lib.hid he
  have HEC := Lib.hid (show EC w0 E [1, 2, 4, 5, 14, 16] from he.ec.sub (by decide))
  have HT := Lib.hid hT
  have AL := Lib.hid (alive11_any E w0 HEC.out hT)
  obtain ⟨a1, cap1, rfl, hx1⟩ := h1.cellAt (by decide)
  have HX := Lib.hid hx1
  have HU := Lib.hid hu
  clear he hT h1 hx1 hu
  by_cases g1 : 60 < n1
  · have d1 : (60 : Int) < (n1 : Int) := by omega
    go_enter Tryd.func4, Tryd.ntmps4
    go_wp2_with (go_at_call 19; refine AL.out.mono ?_; rintro e w1 ⟨rfl, hb1⟩)
    go_ret
    exact ⟨rfl, hb1⟩
  have d1 : (n1 : Int) ≤ 60 := by omega
  by_cases hr : rightB n = true
  · obtain ⟨g, rfl⟩ := Int.eq_ofNat_of_zero_le (show 0 ≤ n by rw [rightB_iff] at hr; omega)
    have hn := right_bd hr
    have BN := Lib.hid (fun (w' : World) => bnew_ok g hr w')
    have NW := Lib.hid (fun (w' : World) => tnew_ok g hr w')
    have HR := Lib.hid hr
    clear hr
    go_enter Tryd.func4, Tryd.ntmps4
    go_wp2_with (first
      | (go_at_call 19; refine AL.out.mono ?_; rintro e w1 ⟨rfl, hb1⟩; have hz1 := hb1.size)
      | (go_at_call 20; refine (BN.out w1).mono ?_; rintro e w2 ⟨D, B, Q, rfl, hD, hB, hQ, ht, hb2⟩; have hz2 := hb2.size; have S2 := Lib.hid ht; have hlD := ht.b.lt; have hlB := (ht.t rfl).head.lt; have hlQ := (ht.t rfl).lt; have hDB := ht.ne; clear ht)
      | (go_at_call 8; refine (NW.out w2).mono ?_; rintro e w3 ⟨C, R, rfl, hC, hR, ht, hb3⟩; have hz3 := hb3.size; have U3 := Lib.hid (TMW.new (w0 := w0) HR.out HEC.out HT.out (hb1.trans (hb2.mono hz1)) ht hb3 hC hR); have S3 := Lib.hid (S2.out.later hb3); have hCR := U3.out.ne; have hlC := U3.out.ltB; have hlR := U3.out.ltQ; clear ht S2))
    obtain ⟨M, hM⟩ : ∃ M, M = w3.heap.size := ⟨_, rfl⟩
    have hB3 := (hb1.trans (hb2.mono hz1)).trans (hb3.mono (Nat.le_trans hz1 hz2))
    have D0 := Lib.hid (show BM (w3.alloc (.cells (mtB 0).cells 35)) D B Q M g 0 false (mtB 0) E w0 from BM.new (wb := w0) (S3.out.alloc _) (by rw [hM]; exact Blk.new _ _ _) HEC.out HT.out (hB3.alloc hB3.size _) (by omega) (by omega))
    have D1 := Lib.hid (U3.out.alloc (.cells (mtB 0).cells 35))
    have hs : M ≠ B ∧ M ≠ Q ∧ M ≠ D ∧ M ≠ C ∧ M ≠ R ∧ D ≠ C ∧ D ≠ R ∧ B ≠ C ∧ B ≠ R ∧ Q ≠ C ∧ Q ≠ R ∧ D ≠ B ∧ D ≠ Q ∧ w0.heap.size ≤ B ∧ w0.heap.size ≤ Q ∧ w0.heap.size ≤ C ∧ w0.heap.size ≤ R ∧ w0.heap.size ≤ M ∧ w0.heap.size ≤ D := by omega
    simp only [MeterS.cells, mtB, MeterS.zero] at D0 D1
    simp only [← hM]
    obtain ⟨hMB, hMQ, hMD, hMC, hMR, hDC, hDR, hBC, hBR, hQC, hQR, hDB1, hDQ, hB0, hQ0, hC0, hR0, hM0, hD0⟩ := hs
    clear hM S3 U3 hlB hlQ hlC hlR hlD hz1 hz2 hz3 hb1 hb2 hb3 hB3 hB hQ hC hR hD NW BN AL hDB
    go_loopw [46] (fun v46 wr => ∃ j : Nat, j ≤ 65 ∧ v46 = .int .i64 (j : Int) ∧ BM wr D B Q M g (min j g) false (mtB (min j g)) E w0 ∧ TN wr C R (TabS.new g) E w0) (fun v46 _ => 65 - (intOf v46).toNat)
    case atStart => exact ⟨0, Nat.zero_le _, rfl, by rw [Nat.zero_min]; exact D0.out, D1.out⟩
    case round =>
      clear D0 D1
      obtain ⟨j, hj, rfl, hS, hU⟩ := hrel
      by_cases hlt : j < 65
      · have hltI : (j : Int) < 65 := by omega
        by_cases hjg : j < g
        · rw [show min j g = j by omega] at hS
          have KU := Lib.hid hU
          have ST := Lib.hid (hS.step hjg (mtB_limited j))
          clear hS hU
          go_wp2_with (go_at_call 21; (with_reducible refine ST.out.mono ?_); rintro e w4 ⟨rfl, hs4, hc4⟩; have S4 := Lib.hid hs4; have U4 := Lib.hid (KU.out.chg hc4 (by rintro b (rfl | rfl | rfl) <;> assumption) (by rintro (e | e | e) <;> omega) (by rintro (e | e | e) <;> omega) (fun b e => by cases e)); clear hs4)
          go_roundw
          case rel => exact ⟨j + 1, by omega, by go_num, by rw [show min (j + 1) g = j + 1 by omega]; exact S4.out, U4.out⟩
          case measure => simp [intOf]; omega
        · rw [show min j g = g by omega] at hS
          have KU := Lib.hid hU
          have ST := Lib.hid hS.stepNo
          clear hS hU
          go_wp2_with (go_at_call 21; (with_reducible refine ST.out.mono ?_); rintro e w4 ⟨rfl, hs4, hb4⟩; have S4 := Lib.hid hs4; have U4 := Lib.hid (KU.out.later hb4); clear hs4)
          go_roundw
          case rel => exact ⟨j + 1, by omega, by go_num, by rw [show min (j + 1) g = g by omega]; exact S4.out, U4.out⟩
          case measure => simp [intOf]; omega
      · obtain rfl : j = 65 := by omega
        rw [show min 65 g = g by omega] at hS
        have KU := Lib.hid hU
        have TK := Lib.hid hS.take
        clear hS hU
        go_wp2_with (go_at_call 22; (with_reducible refine TK.out.mono ?_); rintro e w4 ⟨rfl, hs4, ht4, hc4⟩; have D4 := Lib.hid (show BE w4 B Q C R M (TabS.new g) (mtB g) E w0 from ⟨ht4, KU.out.chg hc4 (by rintro b rfl; assumption) (by omega) (by omega) (fun b e => by cases e), hs4.m⟩); clear hs4 ht4 hc4 TK KU)
        go_loopw [69] (fun v69 wr => ∃ (k : Nat) (T : TabS) (mt : MeterS), k ≤ n1 ∧ v69 = .int .i64 (k : Int) ∧ BE wr B Q C R M T mt E w0) (fun v69 _ => n1 - (intOf v69).toNat)
        case atStart => exact ⟨0, _, _, Nat.zero_le _, rfl, D4.out⟩
        case round =>
          clear D4
          obtain ⟨k, T, mt, hk, rfl, hD⟩ := hrel
          have KD := Lib.hid hD
          clear hD
          by_cases hlt : k < n1
          · obtain ⟨b, off, rfl, hbz, hcells⟩ := HX.out (by omega)
            obtain ⟨x, hx, hxe⟩ := u64_of (HU.out k hlt 0 (by decide))
            have a0 : wr.cell? ⟨b, off + k, none⟩ = some (.int .u64 (x : Int)) := by have := hcells wr KD.out.t.bel k hlt 0 (by decide); rw [hxe] at this; simpa using this
            have hltI : (k : Int) < (n1 : Int) := by omega
            have hbz2 := Nat.lt_of_lt_of_le hbz KD.out.t.bel.size
            have EN := Lib.hid (fun (w' : World) => entry11_any x w')
            have HH := mixH_lt x
            generalize mixH x = h at *
            generalize IntKind.u64.wrap ((x : Int) + 1) = vv at *
            have PR := Lib.hid (fun (w' : World) => probing_any (some ⟨M, 0, none⟩) w')
            have PU := Lib.hid (fun (B Q : Nat) (w' : World) (mt' : MeterS) (hs : TN w' B Q T E w0) hm h1 h2 => TN.putM (mt := mt') hs hm h1 h2 hM0 (x : Int) vv h HH 1 0 0)
            have NU := Lib.hid (fun (w' : World) hb' => num_any E (T.putN (x : Int) h) (putN_le16 _ _ _) w' hb')
            generalize T.putT (x : Int) vv h = T' at *
            generalize T.putB (x : Int) h = pb at *
            generalize T.putN (x : Int) h = pn at *
            generalize T.looks (x : Int) h = pl at *
            have eqb : (pb != pb) = false := by cases pb <;> rfl
            have eqn : ((pn : Int) != (pn : Int)) = false := by simp
            clear hcells hbz hxe HH
            go_wp2_with (first
              | (go_at_call 13; (with_reducible refine (PR.out _).mono ?_); rintro e w5 ⟨rfl, hb5⟩; have D5 := Lib.hid (KD.out.later hb5); clear KD)
              | (go_at_call 23; (with_reducible refine (EN.out _).mono ?_); rintro e w6 ⟨rfl, hb6⟩; have D6 := Lib.hid (D5.out.later hb6); clear D5)
              | (go_at_call 12; ((with_reducible refine (PU.out _ _ _ _ D6.out.t D6.out.m hMB hMQ).mono ?_); rintro e w7 ⟨rfl, ht7, hm7, hc7⟩; have T7 := Lib.hid ht7; have M7 := Lib.hid hm7; have U7 := Lib.hid (TN.chg3 D6.out.u hc7 hM0 hB0 hQ0 ⟨hMC.symm, hBC.symm, hQC.symm⟩ ⟨hMR.symm, hBR.symm, hQR.symm⟩); clear ht7 hm7 D6))
              | (go_at_call 13; (with_reducible refine (PR.out _).mono ?_); rintro e w8 ⟨rfl, hb8⟩; have T8 := Lib.hid (T7.out.later hb8); have U8 := Lib.hid (U7.out.later hb8); have M8 := Lib.hid (M7.out.below hb8 M7.out.lt); clear T7 U7 M7)
              | (go_at_call 23; (with_reducible refine (EN.out _).mono ?_); rintro e w9 ⟨rfl, hb9⟩; have T9 := Lib.hid (T8.out.later hb9); have U9 := Lib.hid (U8.out.later hb9); have M9 := Lib.hid (M8.out.below hb9 M8.out.lt); clear T8 U8 M8)
              | (go_at_call 12; go_loud ((with_reducible refine (PU.out _ _ _ _ U9.out M9.out hMC hMR).mono ?_); rintro e w10 ⟨rfl, hu10, hm10, hc10⟩; have D10 := Lib.hid (show BE w10 B Q C R M T' _ E w0 from ⟨TN.chg3 T9.out hc10 hM0 hC0 hR0 ⟨hMB.symm, hBC, hBR⟩ ⟨hMQ.symm, hQC, hQR⟩, hu10, hm10⟩); clear hu10 hm10 T9 U9 M9))
              | (go_at_call 24; (with_reducible refine (NU.out _ (HE.out.below D10.out.t.bel)).mono ?_); rintro e w11 ⟨rfl, hb11⟩; have D11 := Lib.hid (D10.out.later hb11); clear D10)
              | (go_at_call 24; (with_reducible refine (NU.out _ (HE.out.below D11.out.t.bel)).mono ?_); rintro e w12 ⟨rfl, hb12⟩; have D12 := Lib.hid (D11.out.later hb12); clear D11))
            go_roundw
            case rel => exact ⟨k + 1, _, _, by omega, by go_num, D12.out⟩
            case measure => simp [intOf]; omega
          · obtain rfl : k = n1 := by omega
            have hbd := KD.out.t.good.bounds
            have ST := Lib.hid (fun (v1 v2 : Value) (w' : World) h1 h2 => sameTexts_any v1 v2 T.texts w' h1 h2 (by rw [TabS.texts_len]; omega))
            have TX := Lib.hid (fun (B Q : Nat) (w' : World) (hs : TN w' B Q T E w0) => TMW.text hs)
            have LN := Lib.hid (fun (B Q : Nat) (w' : World) (hs : TN w' B Q T E w0) => TMW.len hs)
            have eql : (T.lv == T.lv) = true := by simp
            generalize T.lv = lv at *
            clear hbd
            go_wp2_with (first
              | (go_at_call 26; (with_reducible refine (TX.out _ _ _ KD.out.t).mono ?_); rintro e w8 ⟨tv1, rfl, hr8, hb8⟩; have R8 := Lib.hid hr8; have D8 := Lib.hid (KD.out.later hb8); clear hr8 KD)
              | (go_at_call 26; (with_reducible refine (TX.out _ _ _ D8.out.u).mono ?_); rintro e w9 ⟨tv2, rfl, hr9, hb9⟩; have R9 := Lib.hid hr9; have Q9 := Lib.hid (R8.out.later hb9); have D9 := Lib.hid (D8.out.later hb9); clear hr9 D8 R8)
              | (go_at_call 25; (with_reducible refine (ST.out _ _ _ Q9.out R9.out).mono ?_); rintro e w' ⟨rfl, rfl⟩)
              | (go_at_call 18; (with_reducible refine (LN.out _ _ _ D9.out.t).mono ?_); rintro e w' ⟨rfl, rfl⟩)
              | (go_at_call 18; (with_reducible refine (LN.out _ _ _ D9.out.u).mono ?_); rintro e w' ⟨rfl, rfl⟩))
            go_ret
            exact ⟨rfl, D9.out.t.bel⟩
  · replace hr : rightB n = false := by simpa using hr
    have BN := Lib.hid (fun (w' : World) he' => bnew_bad n hr E w' he')
    have NW := Lib.hid (fun (w' : World) he' => tnew_bad n hr E w' he')
    unfold errAt at *
    clear hr
    go_enter Tryd.func4, Tryd.ntmps4
    go_wp2_with (first
      | (go_at_call 19; refine AL.out.mono ?_; rintro e w1 ⟨rfl, hb1⟩)
      | (go_at_call 20; refine (BN.out w1 ((HEC.out.sub (by decide)).below hb1)).mono ?_; rintro e w2 ⟨rfl, hb2⟩; have hB2 := hb1.trans (hb2.mono hb1.size))
      | (go_at_call 8; refine (NW.out w2 ((HEC.out.sub (by decide)).below hB2)).mono ?_; rintro e w3 ⟨rfl, hb3⟩; have hB3 := hB2.trans (hb3.mono hB2.size)))
    go_ret
    exact ⟨rfl, hB3⟩
end Go.Proofs.YtcolhncbpbcklaaDoor
