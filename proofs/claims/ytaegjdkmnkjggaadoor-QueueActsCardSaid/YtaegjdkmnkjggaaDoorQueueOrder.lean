/- The walk of QueueOrder. Condition: the errors' cells. -/
import Derived.Test.YtaegjdkmnkjggaaDoorQueueStays
namespace Go.Proofs.YtaegjdkmnkjggaaDoor
set_option linter.unusedVariables false
set_option linter.unusedSimpArgs false
open Go.RowKit Go.Proofs

theorem new_bad (a : Int) (ha : a < 1 ∨ 40 < a) (E : Nat → Addr) (w : World) (he : EC w E [1, 2, 16]) :
    Calls Tryd.prog 15 #[.int .i64 a] w fun e w' => e = .returned (.tuple #[.pointer none, .iface 150 (.pointer (some (E 1)))]) ∧ Below w.heap.size w w' := qnew_bad a ha E w he
theorem drop_cons_get {ws : List Int} {i : Nat} (h : i < ws.length) : ws.drop i = ws[i] :: ws.drop (i + 1) := List.drop_eq_getElem_cons h
set_option maxRecDepth 100000 in
set_option maxHeartbeats 8000000 in
theorem queueOrder_any (most turns : Int) (v : Value) (ids : List Int) (E : Nat → Addr) (w0 : World) (he : EC w0 E [1, 2, 16]) (h1 : ReadsInts w0 v ids) (m1 : ids.length ≤ maxLen) :
    Calls Tryd.prog 4 #[.int .i64 most, .int .i64 turns, v] w0 fun e w' => e = .returned (.bool true) ∧ Below w0.heap.size w0 w' := by
  obtain ⟨a1, cap1, rfl, hc1⟩ := h1.cellsOf
  unfold maxLen at m1
  have HE := Lib.hid he
  have HC1 := Lib.hid hc1
  clear h1 hc1 he
  obtain ⟨i0, hi, hz0, hz1, hz2⟩ := info_parts info3q
  have ha := Lib.hid (alive18_any E w0 HE.out)
  by_cases g1 : 40 < ids.length
  · have g1' : (40 : Int) < (ids.length : Int) := by omega
    go_enter Tryd.func4, Tryd.ntmps4
    go_wp2_with (go_at_call 14; refine ha.out.mono ?_; rintro e w1 ⟨rfl, hb1⟩)
    go_ret
    exact ⟨rfl, hb1⟩
  have g1' : decide ((ids.length : Int) > 40) = false := by simp; omega
  by_cases g2 : most < ids.length
  · have g2' : decide (most < (ids.length : Int)) = true := by simpa using g2
    go_enter Tryd.func4, Tryd.ntmps4
    go_wp2_with (go_at_call 14; refine ha.out.mono ?_; rintro e w1 ⟨rfl, hb1⟩)
    go_ret
    exact ⟨rfl, hb1⟩
  have g2' : decide (most < (ids.length : Int)) = false := by simpa using g2
  by_cases g3 : most < 1 ∨ 40 < most
  · have HN := Lib.hid (fun (w' : World) h => new_bad most g3 E w' h)
    clear g3
    go_enter Tryd.func4, Tryd.ntmps4
    go_wp2_with (first
      | (go_at_call 14; refine ha.out.mono ?_; rintro e w1 ⟨rfl, hb1⟩)
      | (go_at_call 15; refine (HN.out _ (HE.out.below hb1)).mono ?_; rintro e w2 ⟨rfl, hb2⟩))
    go_ret
    exact ⟨rfl, hb1.trans (hb2.mono hb1.size)⟩
  obtain ⟨n, rfl⟩ : ∃ n : Nat, most = (n : Int) := ⟨most.toNat, by omega⟩
  have n1 : 1 ≤ n := by omega
  have n2 : n ≤ 40 := by omega
  have n3 : ids.length ≤ n := by omega
  obtain ⟨N, hN, hNz⟩ : ∃ N : Nat, IntKind.u64.wrap turns % 100 = (N : Int) ∧ N < 100 := ⟨(IntKind.u64.wrap turns % 100).toNat, by omega, by omega⟩
  have hu0 : 0 ≤ IntKind.u64.wrap turns := by rw [IntKind.wrap_u64]; omega
  clear g2 g3 g1
  go_enter Tryd.func4, Tryd.ntmps4
  go_wp2_with (first
    | (go_at_call 14; refine ha.out.mono ?_; rintro e w1 ⟨rfl, hb1⟩)
    | (go_at_call 15; refine (new_any n n1 n2 _).mono ?_; rintro e w2 ⟨B, R, rfl, hq, hB, hR, hb2⟩; have hq2 := Lib.hid hq; clear hq))
  have hN' := Lib.hid hN
  clear hN
  have hBw : Below w0.heap.size w0 w2 := hb1.trans (hb2.mono hb1.size)
  have hB0 : w0.heap.size ≤ B ∧ w0.heap.size ≤ R := by have := hb1.size; omega
  obtain ⟨hB01, hB02⟩ := hB0
  clear hb1 hb2 hB hR
  have hp1 := Lib.hid (pushL_new (n := n) (xs := []) (x := -1) (by simp) (by simp; omega))
  go_loopw [46] (fun v46 wr => ∃ k : Nat, k ≤ N ∧ v46 = .int .i64 (k : Int) ∧ QL wr B R n [] ∧ Below w0.heap.size w0 wr) (fun v46 _ => N - (intOf v46).toNat)
  case atStart => exact ⟨0, Nat.zero_le _, rfl, hq2.out, hBw⟩
  case round =>
    obtain ⟨k, hk, rfl, hQ, hB⟩ := hrel
    have HQ := Lib.hid hQ
    clear hQ hBw
    by_cases hlt : k < N
    · have hlt' : (k : Int) < (N : Int) := by omega
      have hpu := Lib.hid (fun (w' : World) h' he' => push_any B R n [] (-1) E w' h' he')
      rw [hp1.out.1, hp1.out.2, show errN E 0 = .nilIface from rfl] at hpu
      go_wp2_with (first
        | (go_at_call 17; refine (hpu.out _ HQ.out (HE.out.below hB)).mono ?_; rintro e w3 ⟨rfl, hq3, hc3⟩; replace hq3 := Lib.hid hq3; have hB3 := hB.trans (hc3.below hB.size (fun b hb e => by omega)))
        | (go_at_call 21; refine (pop_any B R n [-1] _ hq3.out).mono ?_; rintro e w4 ⟨rfl, hq4, hc4⟩; replace hq4 := Lib.hid hq4; have hB4 := hB3.trans (hc4.below hB3.size (fun b hb e => by omega))))
      go_roundw
      case rel => exact ⟨k + 1, by omega, by go_num, hq4.out, hB4⟩
      case measure => simp [intOf]; omega
    · obtain rfl : k = N := by omega
      clear hlt
      obtain ⟨wm, hwm⟩ : ∃ wm, wm = wr := ⟨_, rfl⟩
      rw [← hwm] at HQ hB ⊢
      replace hwm := Lib.hid hwm
      go_wp2
      refine wp_at (fun wa hwa => ?_)
      obtain ⟨K, hK⟩ : ∃ K, K = wm.heap.size := ⟨_, rfl⟩
      have hBa : Below w0.heap.size w0 wa := by rw [hwa]; exact hB.alloc hB.size _
      have hQa : QL wa B R n [] := by rw [hwa]; exact HQ.out.below ((Below.refl _ _).alloc (Nat.le_refl _) _)
      have hRow : wa.ownsRow K 3 1 (.slice (some ⟨K, 0, none⟩) 0 0) 0 [] := by rw [hwa, hK]; exact ownsRow_empty (Blk.new _ _ _)
      have hKz : K ≤ wa.heap.size := by rw [hwa, hK]; simp
      have hBK : B < K ∧ R < K := by rw [hK]; exact ⟨HQ.out.lt.1, HQ.out.lt.2.1⟩
      have hBz := hB.size
      rw [← hK] at hBz ⊢
      replace hwa := Lib.hid hwa
      replace hK := Lib.hid hK
      obtain ⟨hBK1, hBK2⟩ := hBK
      clear hB HQ
      go_loopw [9, 57] (fun v9 v57 wr => ∃ (k : Nat) (ws : List Int), k ≤ ids.length ∧ v57 = .int .i64 (k : Int) ∧ ws.length ≤ k ∧ QL wr B R n ws ∧ wr.ownsRow K 3 1 v9 ws.length (ws.map (Value.int .i64)) ∧ Below w0.heap.size w0 wr ∧ K ≤ wr.heap.size) (fun _ v57 _ => ids.length - (intOf v57).toNat)
      case atStart => exact ⟨0, [], Nat.zero_le _, rfl, Nat.zero_le _, hQa, hRow, hBa, hKz⟩
      case round =>
        obtain ⟨k, ws, hk, rfl, hwl, hQ, hrow, hB, hKr⟩ := hrel
        clear hQa hRow hBa hKz
        have HQ := Lib.hid hQ
        have HROW := Lib.hid hrow
        clear hQ
        by_cases hlt : k < ids.length
        · obtain ⟨b, off, rfl, hcw⟩ := HC1.out k hlt
          have hcell := hcw wr hB
          clear hcw
          generalize ids[k] = x at hcell
          have hrd := Lib.hid (readsInts_own hrow)
          obtain ⟨av, cv, rfl⟩ := ownsRow_slice hrow
          clear hrow
          by_cases hx : x ∈ ws
          · have HH := Lib.hid (fun (w' : World) (h' : Below wr.heap.size wr w') => numHas_any _ ws x w' (hrd.out.later h') (by omega))
            rw [decide_eq_true hx] at HH
            have hpu := Lib.hid (fun (w' : World) h' he' => push_any B R n ws x E w' h' he')
            rw [(pushL_in (n := n) hx).1, (pushL_in (n := n) hx).2, show errN E 16 = .iface 150 (.pointer (some (E 16))) from rfl] at hpu
            replace hx := Lib.hid hx
            go_wp2_with (first
              | (go_at_call 16; refine (numHas_any _ ws x _ (readsInts_own (ownsRow_chg HROW.out hc3 (fun b hb e => by omega))) (by omega)).mono ?_; simp only [decide_eq_true hx.out]; rintro e w' ⟨rfl, rfl⟩)
              | (go_at_call 17; refine (hpu.out _ HQ.out (HE.out.below hB)).mono ?_; rintro e w3 ⟨rfl, hq3, hc3⟩; replace hq3 := Lib.hid hq3))
            go_roundw
            case rel => exact ⟨k + 1, ws, by omega, by go_num, by omega, hq3.out, ownsRow_chg HROW.out hc3 (fun b hb e => by omega), hB.trans (hc3.below hB.size (fun b hb e => by omega)), Nat.le_trans hKr hc3.size⟩
            case measure => simp [intOf]; omega
          · have hpu := Lib.hid (fun (w' : World) h' he' => push_any B R n ws x E w' h' he')
            rw [(pushL_new (n := n) hx (by omega)).1, (pushL_new (n := n) hx (by omega)).2, show errN E 0 = .nilIface from rfl] at hpu
            replace hx := Lib.hid hx
            go_wp2_with (first
              | (go_at_call 17; refine (hpu.out _ HQ.out (HE.out.below hB)).mono ?_; rintro e w3 ⟨rfl, hq3, hc3⟩; replace hq3 := Lib.hid hq3; have hr3 := ownsRow_chg HROW.out hc3 (fun b hb e => by omega); have hK3 : K ≤ w3.heap.size := Nat.le_trans hKr hc3.size; have hB3 : Below w0.heap.size w0 w3 := hB.trans (hc3.below hB.size (fun b hb e => by omega)))
              | (at_builtin; refine wpList_append_own _ rfl _ _ 22 rfl K 3 i0 (.int .i64 0) 1 8 Tryd.underlying22 hi hz0 hz1 hz2 rfl (by decide) _ _ _ rfl (hr3.alloc _) ⟨w3.heap.size, 0, none⟩ 1 1 [.int .i64 x] rfl rfl (cell_one_new _ _ _) (by simp [Value.oneCell']) (by unfold maxLen; omega) (by omega) (by simp; omega) ?_; intro v' w4 hown4 hgrow4 _; have hb4 := below_append hr3 hK3 hgrow4; clear hgrow4; replace hown4 := Lib.hid hown4))
            go_roundw
            case rel => exact ⟨k + 1, ws ++ [x], by omega, by go_num, by simp; omega, hq3.out.below' hb4 hBK1 hBK2, by simpa using hown4.out, hB3.trans (hb4.mono hBz), Nat.le_trans hK3 hb4.size⟩
            case measure => simp [intOf]; omega
        · obtain rfl : k = ids.length := by omega
          clear hlt
          have hrd := Lib.hid (readsInts_own hrow)
          obtain ⟨wn, hwn⟩ : ∃ wn, wn = wr := ⟨_, rfl⟩
          rw [← hwn] at HQ HROW hrd hB hKr ⊢
          replace hwn := Lib.hid hwn
          obtain ⟨av, cv, rfl⟩ := ownsRow_slice hrow
          clear hrow
          go_wp2
          go_loopw [76] (fun v76 wr => ∃ i : Nat, i ≤ ws.length ∧ v76 = .int .i64 (i : Int) ∧ QL wr B R n (ws.drop i) ∧ Chg (fun b => b = B ∨ b = R) wn wr) (fun v76 _ => ws.length - (intOf v76).toNat)
          case atStart => exact ⟨0, Nat.zero_le _, rfl, HQ.out, Chg.refl _ _⟩
          case round =>
            obtain ⟨i, hi', rfl, hQ, hc⟩ := hrel
            have HQ' := Lib.hid hQ
            clear hQ
            have hBn : Below w0.heap.size w0 wr := hB.trans (hc.below hB.size (fun b hb e => by omega))
            by_cases hlt : i < ws.length
            · have hr := readsInts_own (ownsRow_chg HROW.out hc (fun b hb e => by omega))
              obtain ⟨-, hx⟩ := hr.opened
              obtain ⟨b, off, rfl, hcx⟩ := hx (fun e => by rw [e] at hlt; simp at hlt)
              have hcell := hcx i hlt
              have hpo := pop_any B R n (ws.drop i) wr HQ'.out
              rw [drop_cons_get hlt] at hpo
              clear hr hx hcx
              have hlr : ((ws.drop (i + 1)).length : Int) = (ws.length : Int) - 1 - (i : Int) := by rw [List.length_drop]; omega
              have hle := Lib.hid (fun (w' : World) (h : QL w' B R n (ws.drop (i + 1))) => len_any B R n _ w' h)
              rw [hlr] at hle
              generalize ws[i] = x at hcell hpo
              simp only [headV, List.tail_cons] at hpo
              replace hpo := Lib.hid hpo
              have hxx : (x != x) = false := by simp
              have hnn : (((ws.length : Int) - 1 - (i : Int)) != ((ws.length : Int) - 1 - (i : Int))) = false := by simp
              replace hlr := Lib.hid hlr
              go_wp2_with (first
                | (go_at_call 21; refine hpo.out.mono ?_; rintro e w4 ⟨rfl, hq4, hc4⟩; replace hq4 := Lib.hid hq4)
                | (go_at_call 22; refine (hle.out _ hq4.out).mono ?_; rintro e w' ⟨rfl, rfl⟩))
              go_roundw
              case rel => exact ⟨i + 1, by omega, by go_num, hq4.out, hc.trans hc4⟩
              case measure => simp [intOf]; omega
            · obtain rfl : i = ws.length := by omega
              have hpo := pop_any B R n [] wr (by have := HQ'.out; rwa [List.drop_length] at this)
              simp only [headV, List.tail_nil] at hpo
              replace hpo := Lib.hid hpo
              go_wp2_with (go_at_call 21; refine hpo.out.mono ?_; rintro e w4 ⟨rfl, hq4, hc4⟩; replace hq4 := Lib.hid hq4)
              go_ret
              exact ⟨rfl, hBn.trans (hc4.below hBn.size (fun b hb e => by omega))⟩
end Go.Proofs.YtaegjdkmnkjggaaDoor
