/- Texts joined: SchedSoon. No condition but those that stand within. -/
import Derived.Test.YtolhmibejhldkaaDoorPkSwar
import Derived.Test.YtolhmibejhldkaaDoorPkMeter
import Derived.Test.YtolhmibejhldkaaDoorPkErrs
import Derived.Test.YtolhmibejhldkaaDoorPkGroup
import Derived.Test.YtolhmibejhldkaaDoorPkTab
import Derived.Test.YtolhmibejhldkaaDoorPkQueue
import Derived.Test.YtolhmibejhldkaaDoorPkSched
set_option linter.unusedVariables false
set_option linter.unusedSimpArgs false
namespace Go.Proofs.YtolhmibejhldkaaDoor
open Go.RowKit Go.Proofs
attribute [local go_sem] neq_nilG eql_nilG nil_ahead_left method_left
theorem addJ_ids {js : List (Int × Nat)} {x y : Int} {n : Nat} (hne : y ≠ x) : y ∈ jIds (addJ js x n) ↔ y ∈ jIds js := by
  unfold addJ
  split
  · rw [ids_snoc]
    exact ⟨fun h => (List.mem_append.1 h).resolve_right (fun e => hne (List.mem_singleton.1 e)), fun h => List.mem_append_left _ h⟩
  · exact Iff.rfl
theorem addJ_up {js : List (Int × Nat)} {x y : Int} {n : Nat} (h : y ∈ jIds js) : upTo (addJ js x n) y = upTo js y := by
  unfold addJ
  split
  · exact up_snoc js _ y h
  · rfl
theorem push_zero {js : List (Int × Nat)} {x : Int} (hx : x ∉ jIds js) (hl : js.length < 40) : pushN 40 (jIds js) x = 0 := by
  unfold pushN
  rw [if_neg hx, if_pos (by simpa [jIds] using hl)]
theorem push_dup {js : List (Int × Nat)} {x : Int} (hx : x ∈ jIds js) : pushN 40 (jIds js) x = 16 := if_pos hx
theorem jSum_snoc (js : List (Int × Nat)) (x : Int) (n : Nat) : jSum (js ++ [(x, n)]) = jSum js + n := by
  unfold jSum; simp
theorem soon_calls {T k c u : Nat} (hk : 1 ≤ k) (h : u + k * c ≤ T) (hu : 1 ≤ u) : (0 : Int) < ((T : Int) - 1) / (k : Int) + 2 - (c : Int) := by
  have h1 : (c : Int) ≤ ((T : Int) - 1) / (k : Int) := by
    refine (Int.le_ediv_iff_mul_le (by omega)).2 ?_
    have h2 : (c : Int) * (k : Int) = ((k * c : Nat) : Int) := by rw [Int.natCast_mul, Int.mul_comm]
    rw [h2]; omega
  omega
theorem errN_16 (E : Nat → Addr) : errN E 16 = .iface 112 (.pointer (some (E 16))) := by unfold errN errAt; rfl
set_option maxRecDepth 100000 in
set_option maxHeartbeats 8000000 in
theorem schedSoon_any (k : Int) (v1 v2 : Value) (n1 n2 : Nat) (f1 f2 : Nat → Nat → Int) (E : Nat → Addr) (w0 : World) (he : EC w0 E [1, 2, 4, 16]) (h1 : RowsAt w0 v1 n1 3 .i64 f1) (h2 : RowsAt w0 v2 n2 3 .i64 f2) :
    Calls Tryd.prog 4 #[.int .i64 k, v1, v2] w0 fun e w' => e = .returned (.bool true) ∧ Below w0.heap.size w0 w' := by
  have HE := Lib.hid he
  have hz : 0 < w0.heap.size := by have := World.block_lt_of_cell? _ _ (he 1 (by decide)); omega
  have AL := Lib.hid (alive20_any E w0 he)
  have m1 := h1.2.2
  have m2 := h2.2.2
  unfold maxLen at m1 m2
  have HW1 := Lib.hid h1.2.1
  have HW2 := Lib.hid h2.2.1
  obtain ⟨a1, cap1, rfl, hx1⟩ := h1.cellAt (by decide)
  obtain ⟨a2, cap2, rfl, hx2⟩ := h2.cellAt (by decide)
  clear h1 h2
  by_cases hn1 : 35 < n1
  · have hn1I : (35 : Int) < (n1 : Int) := by omega
    clear he hx1 hx2
    go_enter Tryd.func4, Tryd.ntmps4
    go_wp2_with (go_at_call 6; (with_reducible refine AL.out.mono ?_); rintro e w1 ⟨rfl, hb1⟩)
    go_ret
    exact ⟨rfl, hb1⟩
  by_cases hn2 : 300 < n2
  · have hn2I : (300 : Int) < (n2 : Int) := by omega
    have hn1I : ¬ (35 : Int) < (n1 : Int) := by omega
    clear he hx1 hx2
    go_enter Tryd.func4, Tryd.ntmps4
    go_wp2_with (go_at_call 6; (with_reducible refine AL.out.mono ?_); rintro e w1 ⟨rfl, hb1⟩)
    go_ret
    exact ⟨rfl, hb1⟩
  have hn1I : ¬ (35 : Int) < (n1 : Int) := by omega
  have hn2I : ¬ (300 : Int) < (n2 : Int) := by omega
  by_cases hk : ¬ (1 ≤ k ∧ k ≤ 64)
  · have NB := Lib.hid (fun (w' : World) (hb : Below w0.heap.size w0 w') => snew_bad k hk E w' ((he.below hb) 1 (by decide)))
    unfold errAt at NB
    clear he hk hx1 hx2
    go_enter Tryd.func4, Tryd.ntmps4
    go_wp2_with (first
      | (go_at_call 6; (with_reducible refine AL.out.mono ?_); rintro e w1 ⟨rfl, hb1⟩)
      | (go_at_call 7; (with_reducible refine (NB.out _ hb1).mono ?_); rintro e w2 ⟨rfl, hb2⟩))
    go_ret
    exact ⟨rfl, hb1.trans (hb2.mono hb1.size)⟩
  have hk := Classical.not_not.1 hk
  obtain ⟨kn, rfl⟩ := Int.eq_ofNat_of_zero_le (show 0 ≤ k by omega)
  have hkn : 1 ≤ kn ∧ kn ≤ 64 := by omega
  have NW := Lib.hid (fun (w' : World) => snew_ok (kn : Int) hk (fun _ => ⟨0, 0, 0, 0⟩) w')
  have HX1 := Lib.hid hx1
  have HX2 := Lib.hid hx2
  clear he hx1 hx2
  go_enter Tryd.func4, Tryd.ntmps4
  go_wp2_with (first
    | (go_at_call 6; (with_reducible refine AL.out.mono ?_); rintro e wa ⟨rfl, hba⟩; have BA := Lib.hid hba; have za := hba.size; clear hba)
    | (go_at_call 7; ((with_reducible refine (NW.out _).mono ?_); rintro e w1 ⟨Sb, QB, QR, mb, rfl, hs, y1, y2, y3, y4, hb1⟩; have S1 := Lib.hid (hs w1.heap.size (.inr (Nat.le_refl _))); have B1 := Lib.hid (BA.out.trans (hb1.mono BA.out.size)); have z1 := hb1.size; clear hs hb1)))
  have S2 := Lib.hid (show SS w0 (w1.alloc (.cells MeterS.zero.cells 35)) Sb QB QR mb 0 kn [] (fun _ => ⟨0, 0, 0, 0⟩) 0 w1.heap.size MeterS.zero E from
    ⟨⟨0, S1.out.later ((Below.refl _ _).alloc (Nat.le_refl _) _)⟩, Blk.new w1 _ _, rfl, B1.out.alloc B1.out.size _, HE.out, fun b hb => by
      rcases hb with e | e | e | e | ⟨x, hx, -⟩
      · omega
      · omega
      · omega
      · omega
      · exact (by cases hx), by omega⟩)
  obtain ⟨M, hM⟩ : ∃ M, M = w1.heap.size := ⟨_, rfl⟩
  simp only [MeterS.cells, MeterS.zero] at S2
  simp only [← hM] at S2 ⊢
  clear hM S1 B1 BA
  go_loopg [44] n1 (fun gk v44 wr => ∃ (i nm : Nat) (js : List (Int × Nat)) (g : Int → JB), i + gk = n1 ∧ v44 = .int .i64 (i : Int) ∧ SS w0 wr Sb QB QR mb nm kn js g 0 M MeterS.zero E ∧ js.length ≤ i ∧ nm ≤ i ∧ (77 : Int) ∉ jIds js)
  case atStart => exact ⟨0, 0, [], _, by omega, rfl, S2.out, Nat.zero_le _, Nat.zero_le _, fun h => by cases h⟩
  case round =>
    obtain ⟨i, nm, js, g, hi, rfl, hS, hl, hnm, h77⟩ := hrel
    clear S2
    have S := Lib.hid hS
    have BW0 := Lib.hid hS.b
    have H77 := Lib.hid h77
    clear hS h77
    by_cases hlt : i < n1
    · have hltI : (i : Int) < (n1 : Int) := by omega
      obtain ⟨ab, ao, rfl, haz, hac⟩ := HX1.out (by omega)
      have t0 : wr.cell? ⟨ab, ao + i * 3, none⟩ = some (.int .i64 (f1 i 0)) := by simpa using hac wr BW0.out i hlt 0 (by decide)
      have t1 : wr.cell? ⟨ab, ao + i * 3 + 1, none⟩ = some (.int .i64 (f1 i 1)) := by simpa [Nat.add_assoc] using hac wr BW0.out i hlt 1 (by decide)
      have t2 : wr.cell? ⟨ab, ao + i * 3 + 2, none⟩ = some (.int .i64 (f1 i 2)) := by simpa [Nat.add_assoc] using hac wr BW0.out i hlt 2 (by decide)
      have hwx := Lib.hid (HW1.out i hlt 1 (by decide))
      generalize f1 i 0 = kd at t0
      generalize f1 i 1 = x at t1 hwx
      generalize f1 i 2 = ln at t2
      clear hac
      have JA := Lib.hid (fun (w' : World) => job_any ln w')
      by_cases hx77 : x = 77
      · subst hx77
        go_wp2_with (first
          |
              (go_at_call 8; (with_reducible refine (JA.out _).mono ?_); rintro e w2 ⟨p, rfl, pn, pD, pB, pQ, hp, hb2⟩; have PW := Lib.hid hp; have PN := Lib.hid pn; have PP := Lib.hid (show wr.heap.size ≤ p.D ∧ wr.heap.size ≤ p.B ∧ wr.heap.size ≤ p.Q from by simp at pD pB pQ; omega); have B2 := Lib.hid ((show Below wr.heap.size wr _ by go_grown).trans (hb2.mono (by simp))); have A2 := Lib.hid ((Blk.new wr 45 #[.int .i64 kd, .int .i64 77, .int .i64 ln]).below hb2 (by simp)); have c1 := A2.out.cell 1; have zc := A2.out.lt; clear hp pn hb2 pD pB pQ)
          )
        go_roundg (gk - 1)
        case measure => omega
        case rel => exact ⟨i + 1, nm, js, g, by omega, by go_num, S.out.later B2.out, by omega, by omega, H77.out⟩
      · by_cases hxi : x ∈ jIds js
        · have PU := Lib.hid (push_dup hxi)
          have AJ := Lib.hid (fun n => show addJ js x n = js from if_neg (by rw [PU.out]; decide))
          have HT := Lib.hid (decide_eq_true hxi)
          clear hxi
          go_wp2_with (first
            |
                (go_at_call 8; (with_reducible refine (JA.out _).mono ?_); rintro e w2 ⟨p, rfl, pn, pD, pB, pQ, hp, hb2⟩; have PW := Lib.hid hp; have PN := Lib.hid pn; have PP := Lib.hid (show wr.heap.size ≤ p.D ∧ wr.heap.size ≤ p.B ∧ wr.heap.size ≤ p.Q from by simp at pD pB pQ; omega); have B2 := Lib.hid ((show Below wr.heap.size wr _ by go_grown).trans (hb2.mono (by simp))); have A2 := Lib.hid ((Blk.new wr 45 #[.int .i64 kd, .int .i64 x, .int .i64 ln]).below hb2 (by simp)); have c1 := A2.out.cell 1; have zc := A2.out.lt; clear hp pn hb2 pD pB pQ)
            |
                (go_at_call 9; ((with_reducible refine (S.out.addC B2.out p PP.out PW.out (by omega) x hwx.out).mono ?_); simp only [PU.out, AJ.out, errN_0, errN_16]; rintro e w3 ⟨rfl, nm3, g3, n3, hs3, hc3, hx3⟩; have A3 := Lib.hid (A2.out.chg hc3 (fun e => by have h1 := S.out.lt QB (.inr (.inl rfl)); have h2 := S.out.lt QR (.inr (.inr (.inl rfl))); have h3 := S.out.lt mb (.inr (.inr (.inr (.inl rfl)))); omega)); have d1 := A3.out.cell 1; have zd := A3.out.lt; have S3 := Lib.hid hs3; clear hs3 hc3 hx3))
            | (go_at_call 13; ((with_reducible refine (S3.out.hasC x).mono ?_); simp only [HT.out]; rintro e w4 ⟨rfl, hs4, hb4⟩; have S4 := Lib.hid hs4; clear hs4 hb4)))
          go_roundg (gk - 1)
          case measure => omega
          case rel => exact ⟨i + 1, nm3, js, g3, by omega, by go_num, S4.out, by omega, by omega, H77.out⟩
        · have PU := Lib.hid (push_zero hxi (by omega))
          have AJ := Lib.hid (fun n => show addJ js x n = js ++ [(x, n)] from if_pos PU.out)
          have HN := Lib.hid (fun n => show (77 : Int) ∉ jIds (js ++ [(x, n)]) from by rw [ids_snoc]; exact fun h => by rcases List.mem_append.1 h with h | h; exact H77.out h; exact hx77 (List.mem_singleton.1 h).symm)
          clear hxi
          go_wp2_with (first
            |
                (go_at_call 8; (with_reducible refine (JA.out _).mono ?_); rintro e w2 ⟨p, rfl, pn, pD, pB, pQ, hp, hb2⟩; have PW := Lib.hid hp; have PN := Lib.hid pn; have PP := Lib.hid (show wr.heap.size ≤ p.D ∧ wr.heap.size ≤ p.B ∧ wr.heap.size ≤ p.Q from by simp at pD pB pQ; omega); have B2 := Lib.hid ((show Below wr.heap.size wr _ by go_grown).trans (hb2.mono (by simp))); have A2 := Lib.hid ((Blk.new wr 45 #[.int .i64 kd, .int .i64 x, .int .i64 ln]).below hb2 (by simp)); have c1 := A2.out.cell 1; have zc := A2.out.lt; clear hp pn hb2 pD pB pQ)
            |
                (go_at_call 9; ((with_reducible refine (S.out.addC B2.out p PP.out PW.out (by omega) x hwx.out).mono ?_); simp only [PU.out, AJ.out, errN_0, errN_16]; rintro e w3 ⟨rfl, nm3, g3, n3, hs3, hc3, hx3⟩; have A3 := Lib.hid (A2.out.chg hc3 (fun e => by have h1 := S.out.lt QB (.inr (.inl rfl)); have h2 := S.out.lt QR (.inr (.inr (.inl rfl))); have h3 := S.out.lt mb (.inr (.inr (.inr (.inl rfl)))); omega)); have d1 := A3.out.cell 1; have zd := A3.out.lt; have S3 := Lib.hid hs3; clear hs3 hc3 hx3))
            )
          go_roundg (gk - 1)
          case measure => omega
          case rel => exact ⟨i + 1, nm3, _, g3, by omega, by go_num, S3.out, by simp; omega, by omega, HN.out _⟩
    · obtain rfl : i = n1 := by omega
      have J5 := Lib.hid (fun (w' : World) => job_any 5 w')
      have PU := Lib.hid (push_zero H77.out (by omega))
      have AJ := Lib.hid (fun n => show addJ js 77 n = js ++ [(77, n)] from if_pos PU.out)
      have WR := Lib.hid (fun (u : Int) (hu : 1 ≤ u ∧ u ≤ 100000) (w' : World) => writes_any u (kn : Int) hu hk w')
      go_wp2_with (first
        | (go_at_call 8; (with_reducible refine (J5.out _).mono ?_); rintro e w2 ⟨p, rfl, pn, pD, pB, pQ, hp, hb2⟩; have PW := Lib.hid hp; have PN := Lib.hid pn; have PP := Lib.hid (show wr.heap.size ≤ p.D ∧ wr.heap.size ≤ p.B ∧ wr.heap.size ≤ p.Q from ⟨pD, pB, pQ⟩); have B2 := Lib.hid hb2; clear hp pn hb2 pD pB pQ)
        | (go_at_call 9; ((with_reducible refine (S.out.addC B2.out p PP.out PW.out (by omega) 77 (by decide)).mono ?_); simp only [PU.out, AJ.out, errN_0]; rintro e w3 ⟨rfl, nm3, g3, n3, hs3, hc3, hx3⟩; obtain ⟨J1, hJ1⟩ : ∃ J1, J1 = js ++ [(77, p.n)] := ⟨_, rfl⟩; rw [← hJ1] at hs3; have S3 := Lib.hid hs3; have HJ1 := Lib.hid hJ1; obtain ⟨T, hT⟩ : ∃ T, T = jSum J1 := ⟨_, rfl⟩; have hl := S3.out.leftC; rw [← hT] at hl; have LC := Lib.hid hl; have hT1 : 1 ≤ T ∧ T ≤ 2560 := ⟨by have h5 := jobN_bd 5; have h6 := jSum_snoc js 77 p.n; rw [← hJ1, ← hT, PN.out] at h6; omega, by have h7 := S3.out.sum; rw [← hT] at h7; exact h7⟩; have HT := Lib.hid hT; clear hs3 hc3 hx3 hl hT hJ1))
        | (go_at_call 12; ((with_reducible refine LC.out.mono ?_); rintro e w4 ⟨rfl, hs4, hb4⟩; have S4 := Lib.hid hs4; have WT := Lib.hid (WR.out (T : Int) (by omega)); obtain ⟨Q, hQ⟩ : ∃ Q, Q = ((T : Int) - 1) / (kn : Int) := ⟨_, rfl⟩; have hQ0 : 0 ≤ Q := (by rw [hQ]; exact Int.ediv_nonneg (by omega) (by omega)); have hQ1 : Q ≤ 2560 := (by rw [hQ]; have := Int.ediv_le_self (a := (T : Int) - 1) (kn : Int) (by omega); omega); rw [← hQ] at WT; have HQ := Lib.hid hQ; clear hs4 hb4 hQ))
        | (go_at_call 17; ((with_reducible refine (WT.out _).mono ?_); rintro e w5 ⟨rfl, rfl⟩)))
      have hJ1l : J1.length ≤ 40 := S4.out.len
      go_loopg [86, 13] n2 (fun gk v86 v13 wr => ∃ (i c nm sp : Nat) (js : List (Int × Nat)) (g : Int → JB) (mt : MeterS), i + gk = n2 ∧ v86 = .int .i64 (i : Int) ∧ v13 = .int .i64 (Q + 2 - (c : Int)) ∧ c ≤ i ∧ sp ≤ 576 * i ∧ nm ≤ 40 + i ∧ SS w0 wr Sb QB QR mb nm kn js g sp M mt E ∧ ((77 : Int) ∈ jIds js → upTo js 77 + kn * c ≤ T))
      case atStart => exact ⟨0, 0, nm3, 0, J1, g3, _, by omega, rfl, by simp, by omega, by omega, by omega, S4.out, fun _ => by have := up_sum J1 77; rw [HT.out]; simpa using this⟩
      case round =>
        obtain ⟨i, c, nm, sp, js, g, mt, hi, rfl, rfl, hci, hsp, hnm, hS, hup⟩ := hrel
        clear S S4 BW0 H77 LC WR WT PU AJ J5
        have S := Lib.hid hS
        have BW0 := Lib.hid hS.b
        have UP := Lib.hid hup
        clear hS hup
        by_cases hlt : i < n2
        · have hltI : (i : Int) < (n2 : Int) := by omega
          obtain ⟨ab, ao, rfl, haz, hac⟩ := HX2.out (by omega)
          have t0 : wr.cell? ⟨ab, ao + i * 3, none⟩ = some (.int .i64 (f2 i 0)) := by simpa using hac wr BW0.out i hlt 0 (by decide)
          have t1 : wr.cell? ⟨ab, ao + i * 3 + 1, none⟩ = some (.int .i64 (f2 i 1)) := by simpa [Nat.add_assoc] using hac wr BW0.out i hlt 1 (by decide)
          have t2 : wr.cell? ⟨ab, ao + i * 3 + 2, none⟩ = some (.int .i64 (f2 i 2)) := by simpa [Nat.add_assoc] using hac wr BW0.out i hlt 2 (by decide)
          have hwx := Lib.hid (HW2.out i hlt 1 (by decide))
          generalize f2 i 0 = kd at t0
          generalize f2 i 1 = x at t1 hwx
          generalize f2 i 2 = ln at t2
          clear hac
          by_cases hkd : kd = 0
          · subst hkd
            by_cases hx77 : x = 77
            · subst hx77
              have B2 := Lib.hid ((Below.refl wr.heap.size wr).alloc (Nat.le_refl _) (.cells #[.int .i64 0, .int .i64 77, .int .i64 ln] 45))
              go_wp2
              go_roundg (gk - 1)
              case measure => omega
              case rel => exact ⟨i + 1, c, nm, sp, js, g, mt, by omega, by go_num, rfl, by omega, by omega, by omega, S.out.later B2.out, UP.out⟩
            · have JA := Lib.hid (fun (w' : World) => job_any ln w')
              have ME := Lib.hid (fun n => addJ_ids (js := js) (x := x) (y := 77) (n := n) (fun e => hx77 e.symm))
              go_wp2
              refine wp_at (fun W hW => ?_)
              have m8 : Blk W wr.heap.size 45 #[.int .i64 0, .int .i64 x, .int .i64 ln] := by rw [hW]; exact Blk.new _ _ _
              have hBW : Below wr.heap.size wr W := by rw [hW]; exact (Below.refl _ _).alloc (Nat.le_refl _) _
              have hz8 : wr.heap.size ≤ W.heap.size := hBW.size
              have HBW := Lib.hid hBW
              have c1 := m8.cell 1
              have c2 := m8.cell 2
              have zc := m8.lt
              clear hW hBW m8
              refine wp_region_seq (fun _ => False) #[⟨0, 0, 2^96, 128, 0⟩, ⟨0, 0, 2^97, 32768, 0⟩, ⟨2, 2, 2^98, 2^97, 1⟩, ⟨0, 0, 2^99, 32768, 0⟩, ⟨8, 8, 2^100, 2^99, 1⟩, ⟨16, 24, 2^101, 2^100, 2⟩, ⟨32, 56, 2^102, 2^101, 0⟩, ⟨101, 127, 2^103, (2^96+2^98+2^102), 3⟩] 20 [(0, 0), (1, 0), (2, 1), (3, 0), (4, 1), (5, 2), (6, 0), (7, 3)] (by kernel_rfl) (by kernel_rfl) (by kernel_rfl) (by kernel_rfl) (by kernel_rfl) (by kernel_rfl) (fun c a d v w h => by cases d <;> exact h) ?_
              refine zqC ?_; refine zqC ?_
              refine zq1 Tryd.underlying3 ?_
              try refine zqP ?_; refine zqC ?_
              refine zq1 Tryd.underlying3 ?_
              try refine zqP ?_
              refine zqD fun K hK => ?_; go_wp2_with (first | (go_at_call 8; (with_reducible refine (JA.out _).mono ?_); rintro e w2 ⟨p, rfl, pn, pD, pB, pQ, hp, hb2⟩; have PW := Lib.hid hp; have PP := Lib.hid (show wr.heap.size ≤ p.D ∧ wr.heap.size ≤ p.B ∧ wr.heap.size ≤ p.Q from ⟨Nat.le_trans hz8 pD, Nat.le_trans hz8 pB, Nat.le_trans hz8 pQ⟩); have B2 := Lib.hid (HBW.out.drew.trans (hb2.mono hz8)); clear hp pn pD pB pQ) | (go_at_call 9; ((with_reducible refine (S.out.addC B2.out p PP.out PW.out (by omega) x hwx.out).mono ?_); rintro e w3 ⟨rfl, nm3, g3, n3, hs3, hc3, hx3⟩; have S3 := Lib.hid hs3; have N3 := Lib.hid n3; clear hs3 hc3 hx3 n3))); refine hkA hK (h := ?_); clear hK K
              try refine zqP ?_; refine zqC ?_
              refine zqE fun K hK => ?_; go_wp2_with (first | (go_at_call 8; (with_reducible refine (JA.out _).mono ?_); rintro e w2 ⟨p, rfl, pn, pD, pB, pQ, hp, hb2⟩; have PW := Lib.hid hp; have PP := Lib.hid (show wr.heap.size ≤ p.D ∧ wr.heap.size ≤ p.B ∧ wr.heap.size ≤ p.Q from ⟨Nat.le_trans hz8 pD, Nat.le_trans hz8 pB, Nat.le_trans hz8 pQ⟩); have B2 := Lib.hid (HBW.out.drew.trans (hb2.mono hz8)); clear hp pn pD pB pQ) | (go_at_call 9; ((with_reducible refine (S.out.addC B2.out p PP.out PW.out (by omega) x hwx.out).mono ?_); rintro e w3 ⟨rfl, nm3, g3, n3, hs3, hc3, hx3⟩; have S3 := Lib.hid hs3; have N3 := Lib.hid n3; clear hs3 hc3 hx3 n3))); refine hK.out _ _ ?_; clear hK K
              try refine zqP ?_
              refine seq_nil ?_
              go_wp2
              go_roundg (gk - 1)
              case measure => omega
              case rel => exact ⟨i + 1, c, nm3, sp, _, g3, mt, by omega, by go_num, rfl, by omega, by omega, by have := N3.out; omega, S3.out, fun h => by
                have h2 := (ME.out _).1 h
                rw [addJ_up h2]
                exact UP.out h2⟩
          · have S5 := Lib.hid (S.out.later ((Below.refl wr.heap.size wr).alloc (Nat.le_refl _) (.cells #[.int .i64 kd, .int .i64 x, .int .i64 ln] 45)))
            have SV := S5.out.serveC hkn x hwx.out (by omega)
            obtain ⟨d, hd⟩ : ∃ d, d = sSpent kn js x := ⟨_, rfl⟩
            rw [← hd] at SV
            have hd9 : d ≤ 9 * kn := by rw [hd]; exact spent_le kn js x
            have SV := Lib.hid SV
            have UP2 := Lib.hid (show (77 : Int) ∈ jIds (sJobs kn js x) → upTo (sJobs kn js x) 77 + kn * (c + 1) ≤ T ∧ 1 ≤ upTo (sJobs kn js x) 77 from fun h => by
              have h1 := up_serve kn js x 77 S.out.nd h
              have h2 := UP.out ((jobs_sub kn js x).subset h)
              exact ⟨by rw [Nat.mul_add]; omega, h1.2⟩)
            have e1 : IntKind.i64.wrap (9 * (kn : Int)) = 9 * (kn : Int) := by rw [IntKind.wrap_i64]; omega
            clear hd
            by_cases hcal : Q + 2 - (c : Int) - 1 ≤ 0
            · have HN := Lib.hid (show decide ((77 : Int) ∈ jIds (sJobs kn js x)) = false from decide_eq_false (fun h => by
                have h1 := UP2.out h
                have h2 := soon_calls hkn.1 h1.1 h1.2
                rw [← HQ.out] at h2
                omega))
              go_wp2_with (first
                | (go_at_call 16; (with_reducible refine S5.out.spentC.mono ?_); rintro e w5 ⟨rfl, rfl⟩)
                | (go_at_call 11; ((with_reducible refine SV.out.mono ?_); rintro e w6 ⟨v6, rfl, hr6, hs6, hc6⟩; have S6 := Lib.hid hs6; clear hr6 hs6 hc6))
                | (go_at_call 16; (with_reducible refine S6.out.spentC.mono ?_); rintro e w7 ⟨rfl, rfl⟩)
                | (go_at_call 13; ((with_reducible refine (S6.out.hasC 77).mono ?_); simp only [HN.out]; rintro e w8 ⟨rfl, hs8, hb8⟩; have S8 := Lib.hid hs8; clear hs8 hb8)))
              go_roundg (gk - 1)
              case measure => omega
              case rel => exact ⟨i + 1, c + 1, nm, sp + d, sJobs kn js x, g, _, by omega, by go_num, by go_num, by omega, by omega, by omega, (by first | exact S8.out | exact S6.out), fun h => (UP2.out h).1⟩
            ·
              go_wp2_with (first
                | (go_at_call 16; (with_reducible refine S5.out.spentC.mono ?_); rintro e w5 ⟨rfl, rfl⟩)
                | (go_at_call 11; ((with_reducible refine SV.out.mono ?_); rintro e w6 ⟨v6, rfl, hr6, hs6, hc6⟩; have S6 := Lib.hid hs6; clear hr6 hs6 hc6))
                | (go_at_call 16; (with_reducible refine S6.out.spentC.mono ?_); rintro e w7 ⟨rfl, rfl⟩)
                | (go_at_call 13; ((with_reducible refine (S6.out.hasC 77).mono ?_); simp only [HN]; rintro e w8 ⟨rfl, hs8, hb8⟩; have S8 := Lib.hid hs8; clear hs8 hb8)))
              go_roundg (gk - 1)
              case measure => omega
              case rel => exact ⟨i + 1, c + 1, nm, sp + d, sJobs kn js x, g, _, by omega, by go_num, by go_num, by omega, by omega, by omega, (by first | exact S8.out | exact S6.out), fun h => (UP2.out h).1⟩
        · obtain rfl : i = n2 := by omega
          go_wp2
          go_ret
          exact ⟨rfl, BW0.out⟩
end Go.Proofs.YtolhmibejhldkaaDoor
