/- The document's group: its state, and what asks it. No condition. -/
import Derived.Test.YtcmjddkljmfklaaDoorGroupPlain
import Derived.Test.YtcmjddkljmfklaaDoorEqInts
import Derived.Test.YtcmjddkljmfklaaDoorNum
namespace Go.Proofs.YtcmjddkljmfklaaDoor
set_option linter.unusedVariables false
set_option linter.unusedSimpArgs false
open Go.RowKit Go.Proofs

def dF (m : Nat) (s : Nat → EntS) (j : Nat) : Value :=
  if j % 4 = 0 then .int .i64 ((kindN (ln m (j / 4)) : Nat) : Int) else if j % 4 = 1 then .int .u64 (s (j / 4)).key else if j % 4 = 2 then .int .u64 (s (j / 4)).val else .int .u64 (s (j / 4)).hash
def DW (w : World) (R m : Nat) (s : Nat → EntS) : Prop := Blk w R 94 (arrV 32 (dF m s))
theorem dF_0 (m : Nat) (s : Nat → EntS) (i : Nat) : dF m s (i * 4) = .int .i64 ((kindN (ln m i) : Nat) : Int) := by unfold dF; rw [if_pos (by omega), show i * 4 / 4 = i by omega]
theorem dF_1 (m : Nat) (s : Nat → EntS) (i : Nat) : dF m s (i * 4 + 1) = .int .u64 (s i).key := by unfold dF; rw [if_neg (by omega), if_pos (by omega), show (i * 4 + 1) / 4 = i by omega]
theorem dF_2 (m : Nat) (s : Nat → EntS) (i : Nat) : dF m s (i * 4 + 2) = .int .u64 (s i).val := by unfold dF; rw [if_neg (by omega), if_neg (by omega), if_pos (by omega), show (i * 4 + 2) / 4 = i by omega]
theorem dF_3 (m : Nat) (s : Nat → EntS) (i : Nat) : dF m s (i * 4 + 3) = .int .u64 (s i).hash := by unfold dF; rw [if_neg (by omega), if_neg (by omega), if_neg (by omega), show (i * 4 + 3) / 4 = i by omega]
def cell4 (m : Nat) (s : Nat → EntS) (i : Nat) : Array Value := #[.int .i64 ((kindN (ln m i) : Nat) : Int), .int .u64 (s i).key, .int .u64 (s i).val, .int .u64 (s i).hash]
theorem cut4 (m : Nat) (s : Nat → EntS) (k : Nat) (hk : k < 8) : (arrV 32 (dF m s)).extract (k * 4) (k * 4 + 4) = cell4 m s k := by
  apply Array.ext_getElem?
  intro j
  rw [Array.getElem?_extract, arrV_size]
  by_cases hj : j < 4
  · rw [if_pos (by omega), arrV_get _ _ _ (by omega)]
    obtain rfl | rfl | rfl | rfl : j = 0 ∨ j = 1 ∨ j = 2 ∨ j = 3 := by omega
    · rw [Nat.add_zero, dF_0]; rfl
    · rw [dF_1]; rfl
    · rw [dF_2]; rfl
    · rw [dF_3]; rfl
  · rw [if_neg (by omega)]
    exact (Array.getElem?_eq_none (by show 4 ≤ j; omega)).symm
theorem ix_cell (m : Nat) (s : Nat → EntS) (k : Nat) (hk : k < 8) (w : World) : (Instr.index 92 (.agg (arrV 32 (dF m s))) (.int .i64 (k : Int))).run Tryd.prog w = .ok (.agg #[.int .i64 ((kindN (ln m k) : Nat) : Int), .int .u64 (s k).key, .int .u64 (s k).val, .int .u64 (s k).hash]) w := by
  have hag : (isAgg 91).run Tryd.prog w = .ok true w := Tryd.isAgg91 w
  have hsz := Tryd.sizeOf91 w
  have hp : (part 91 (arrV 32 (dF m s)) ((k : Int).toNat * 4)).run Tryd.prog w = .ok (.agg (cell4 m s k)) w := by
    simp only [part, Sem.run_bind, hag, Result.andThen, if_true, hsz, Sem.run_pure, Int.toNat_natCast, cut4 m s k hk]
  have h1 : 0 ≤ (k : Int) ∧ (k : Int) < ((8 : Nat) : Int) := by omega
  simp only [Instr.index, asIntOf, Sem.run_bind, Sem.run_pure, Result.andThen, run_underlying Tryd.underlying92, if_pos h1, hsz, hp]
  rfl
theorem DW.lt {w : World} {R m : Nat} {s : Nat → EntS} (h : DW w R m s) : R < w.heap.size := Blk.lt h
theorem DW.below {n : Nat} {w w' : World} {R m : Nat} {s : Nat → EntS} (h : DW w R m s) (hb : Below n w w') (hR : R < n) : DW w' R m s := Blk.below h hb hR
theorem DW.chg {X : Nat → Prop} {w w' : World} {R m : Nat} {s : Nat → EntS} (h : DW w R m s) (hb : Chg X w w') (hR : ¬ X R) : DW w' R m s := Blk.chg h hb hR
theorem DW.alloc {w : World} {R m : Nat} {s : Nat → EntS} (h : DW w R m s) (b : Obj) : DW (w.alloc b) R m s := Blk.alloc h b
theorem DW.drew {w : World} {R m : Nat} {s : Nat → EntS} (h : DW w R m s) : DW w.drew R m s := h
theorem DW.cells {w : World} {R m : Nat} {s : Nat → EntS} (h : DW w R m s) (i : Nat) (hi : i < 8) :
    w.cell? ⟨R, i * 4, none⟩ = some (.int .i64 ((kindN (ln m i) : Nat) : Int)) ∧ w.cell? ⟨R, i * 4 + 1, none⟩ = some (.int .u64 (s i).key) ∧ w.cell? ⟨R, i * 4 + 2, none⟩ = some (.int .u64 (s i).val) ∧ w.cell? ⟨R, i * 4 + 3, none⟩ = some (.int .u64 (s i).hash) :=
  ⟨(Blk.cell h _).trans ((arrV_get _ _ _ (by omega)).trans (by rw [dF_0])), (Blk.cell h _).trans ((arrV_get _ _ _ (by omega)).trans (by rw [dF_1])), (Blk.cell h _).trans ((arrV_get _ _ _ (by omega)).trans (by rw [dF_2])), (Blk.cell h _).trans ((arrV_get _ _ _ (by omega)).trans (by rw [dF_3]))⟩
theorem DW.frozen {w : World} {R m : Nat} {s : Nat → EntS} (h : DW w R m s) (j : Nat) : w.frozen? ⟨R, j, none⟩ = false := Blk.frozen h j
theorem DW.setCell4 {w : World} {R m : Nat} {s : Nat → EntS} (h : DW w R m s) (k b : Nat) (hk : k < 8) (hb : b < 256) (e : EntS) :
    DW ((((w.setCell ⟨R, k * 4, none⟩ (.int .i64 ((kindN b : Nat) : Int))).setCell ⟨R, k * 4 + 1, none⟩ (.int .u64 e.key)).setCell ⟨R, k * 4 + 2, none⟩ (.int .u64 e.val)).setCell ⟨R, k * 4 + 3, none⟩ (.int .u64 e.hash)) R (setL m k b) (putS s k e) := by
  have := (((Blk.set h (k * 4) (.int .i64 ((kindN b : Nat) : Int))).set (k * 4 + 1) (.int .u64 e.key)).set (k * 4 + 2) (.int .u64 e.val)).set (k * 4 + 3) (.int .u64 e.hash)
  rw [arrV_set _ _ _ _ (by omega), arrV_set _ _ _ _ (by omega), arrV_set _ _ _ _ (by omega), arrV_set _ _ _ _ (by omega)] at this
  unfold DW
  rw [arrV_congr (F' := dF (setL m k b) (putS s k e)) (fun j hj => by
    by_cases e3 : j = k * 4 + 3
    · subst e3; rw [if_pos rfl, dF_3, putS_same]
    · rw [if_neg e3]
      by_cases e2 : j = k * 4 + 2
      · subst e2; rw [if_pos rfl, dF_2, putS_same]
      · rw [if_neg e2]
        by_cases e1 : j = k * 4 + 1
        · subst e1; rw [if_pos rfl, dF_1, putS_same]
        · rw [if_neg e1]
          by_cases e0 : j = k * 4
          · subst e0; rw [if_pos rfl, dF_0, ln_setL m k b k hb hk, if_pos rfl]
          · rw [if_neg e0]
            unfold dF putS
            rw [ln_setL m k b _ hb (by omega), if_neg (show ¬ j / 4 = k by omega), if_neg (show ¬ j / 4 = k by omega)])] at this
  exact this
theorem DW.setVal {w : World} {R m : Nat} {s : Nat → EntS} (h : DW w R m s) (k : Nat) (hk : k < 8) (v : Int) :
    DW (w.setCell ⟨R, k * 4 + 2, none⟩ (.int .u64 v)) R m (putS s k { s k with val := v }) := by
  have := Blk.set h (k * 4 + 2) (.int .u64 v)
  rw [arrV_set _ _ _ _ (by omega)] at this
  unfold DW
  rw [arrV_congr (F' := dF m (putS s k { s k with val := v })) (fun j hj => by
    by_cases e2 : j = k * 4 + 2
    · subst e2; rw [if_pos rfl, dF_2, putS_same]
    · rw [if_neg e2]
      by_cases e1 : j = k * 4 + 1
      · subst e1; rw [dF_1, dF_1, putS_same]
      · by_cases e3 : j = k * 4 + 3
        · subst e3; rw [dF_3, dF_3, putS_same]
        · by_cases e0 : j = k * 4
          · subst e0; rw [dF_0, dF_0]
          · unfold dF putS
            rw [if_neg (show ¬ j / 4 = k by omega)])] at this
  exact this
theorem kind3 (m k : Nat) : (((kindN (ln m k) : Nat) : Int) == 3) = fullB m k := by
  rw [← kind_full, Bool.eq_iff_iff]; simp; omega
theorem kindn3 (m k : Nat) : (((kindN (ln m k) : Nat) : Int) != 3) = !fullB m k := by rw [bne, kind3]
set_option maxRecDepth 100000 in
set_option maxHeartbeats 4000000 in
theorem dleast_any (R m : Nat) (s : Nat → EntS) (w : World) (h : DW w R m s) :
    Calls Tryd.prog 52 #[.pointer (some ⟨R, 0, none⟩)] w fun e w' => e = .returned (.int .i64 (scanZ (fun i => !fullB m i))) ∧ Below w.heap.size w w' := by
  have HD := Lib.hid h
  have IX := fun (k : Nat) (hk : k < 8) (w : World) => ix_cell m s k hk w
  have hl := h.lt
  clear h
  go_enter Tryd.func52, Tryd.ntmps52
  go_wp2_with (
    (refine wpList_value rfl (exec_loadAll (t := 92) rfl rfl Tryd.underlying92 rfl HD.out (by rw [arrV_size]; exact Tryd.sizeOf92 _)) ?_)
    )
  go_loopw [9] (fun v9 wr => ∃ k : Nat, k ≤ 8 ∧ v9 = .int .i64 (k : Int) ∧ (∀ j, j < k → (!fullB m j) = false) ∧ Below w.heap.size w wr) (fun v9 _ => 8 - (intOf v9).toNat)
  case atStart => exact ⟨0, by omega, rfl, fun j hj => by omega, Below.refl _ _⟩
  case round =>
    obtain ⟨k, hk, rfl, hn, hB⟩ := hrel
    have HN := Lib.hid hn
    have hzB := hB.size
    clear hn
    by_cases hlt : k < 8
    · have hltI : decide ((k : Int) < 8) = true := by simp; omega
      have ix := IX k hlt
      have kk := kindn3 m k
      by_cases hf : fullB m k = true
      · rw [hf] at kk
        have HFL := Lib.hid hf
        clear hf
        go_wp2
        go_roundw
        case rel =>
          refine ⟨k + 1, by omega, by go_num, fun j hj => ?_, by go_grown⟩
          by_cases e : j = k
          · subst e; rw [HFL.out]; rfl
          · exact HN.out j (by omega)
        case measure => simp [intOf]; omega
      · replace hf : fullB m k = false := by simpa using hf
        rw [hf] at kk
        have HFL := Lib.hid hf
        clear hf
        go_wp2
        go_ret
        refine ⟨?_, by go_grown⟩
        rw [scan_hit hlt (by rw [HFL.out]; rfl) HN.out]; rfl
    · obtain rfl : k = 8 := by omega
      go_wp2
      go_ret
      refine ⟨?_, by go_grown⟩
      rw [scan_miss HN.out]; rfl

/-! ### Count -/
def countTo (m kd n : Nat) : Nat := ((List.range n).filter (fun i => decide (kindN (ln m i) = kd))).length
theorem countTo_succ (m kd n : Nat) : countTo m kd (n + 1) = countTo m kd n + if kindN (ln m n) = kd then 1 else 0 := by
  unfold countTo
  rw [List.range_succ, List.filter_append, List.length_append]
  congr 1
  by_cases h : kindN (ln m n) = kd
  · simp [h]
  · simp [h]
theorem countTo_le (m kd n : Nat) : countTo m kd n ≤ n := by
  have := List.length_filter_le (fun i => decide (kindN (ln m i) = kd)) (List.range n)
  simpa [countTo] using this
set_option maxRecDepth 100000 in
set_option maxHeartbeats 4000000 in
theorem dcount_any (R m kd : Nat) (s : Nat → EntS) (w : World) (h : DW w R m s) :
    Calls Tryd.prog 53 #[.pointer (some ⟨R, 0, none⟩), .int .i64 (kd : Int)] w fun e w' => e = .returned (.int .i64 ((countK m kd : Nat) : Int)) ∧ Below w.heap.size w w' := by
  have HD := Lib.hid h
  have IX := fun (k : Nat) (hk : k < 8) (w : World) => ix_cell m s k hk w
  have HSU := Lib.hid (countTo_succ m kd)
  have HLE := Lib.hid (countTo_le m kd)
  rw [show countK m kd = countTo m kd 8 from rfl]
  have hl := h.lt
  clear h
  go_enter Tryd.func53, Tryd.ntmps53
  go_wp2_with (
    (refine wpList_value rfl (exec_loadAll (t := 92) rfl rfl Tryd.underlying92 rfl HD.out (by rw [arrV_size]; exact Tryd.sizeOf92 _)) ?_)
    )
  go_loopw [5, 12] (fun v5 v12 wr => ∃ k : Nat, k ≤ 8 ∧ v12 = .int .i64 (k : Int) ∧ v5 = .int .i64 ((countTo m kd k : Nat) : Int) ∧ Below w.heap.size w wr) (fun _ v12 _ => 8 - (intOf v12).toNat)
  case atStart => exact ⟨0, by omega, rfl, rfl, Below.refl _ _⟩
  case round =>
    obtain ⟨k, hk, rfl, rfl, hB⟩ := hrel
    have hzB := hB.size
    by_cases hlt : k < 8
    · have hltI : decide ((k : Int) < 8) = true := by simp; omega
      have ix := IX k hlt
      have hle := HLE.out k
      have hsu := HSU.out k
      by_cases hf : kindN (ln m k) = kd
      · have kk : (((kindN (ln m k) : Nat) : Int) == (kd : Int)) = true := by rw [hf]; simp
        rw [if_pos hf] at hsu
        have HSK := Lib.hid hsu
        clear hf hsu
        generalize countTo m kd k = c at *
        go_wp2
        go_roundw
        case rel => exact ⟨k + 1, by omega, by go_num, by rw [HSK.out]; go_num, by go_grown⟩
        case measure => simp [intOf]; omega
      · have kk : (((kindN (ln m k) : Nat) : Int) == (kd : Int)) = false := by simp; omega
        rw [if_neg hf] at hsu
        have HSK := Lib.hid hsu
        clear hf hsu
        generalize countTo m kd k = c at *
        go_wp2
        go_roundw
        case rel => exact ⟨k + 1, by omega, by go_num, by rw [HSK.out]; rfl, by go_grown⟩
        case measure => simp [intOf]; omega
    · obtain rfl : k = 8 := by omega
      go_wp2
      go_ret
      exact ⟨rfl, by go_grown⟩

/-! ### Find -/
set_option maxRecDepth 100000 in
set_option maxHeartbeats 4000000 in
theorem dfind_any (R m h : Nat) (s : Nat → EntS) (key : Int) (hg : GGood m s) (hh : h < 18446744073709551616) (w : World) (hd : DW w R m s) :
    Calls Tryd.prog 50 #[.pointer (some ⟨R, 0, none⟩), .int .u64 key, .int .u64 (h : Int)] w fun e w' => e = .returned (.int .i64 (scanZ (dfindP m s key h))) ∧ Below w.heap.size w w' := by
  have HD := Lib.hid hd
  have IX := Lib.hid (fun (k : Nat) (hk : k < 8) (w : World) => ix_cell m s k hk w)
  have HGG := Lib.hid hg
  have hl := hd.lt
  clear hd hg
  obtain ⟨Y, hY⟩ : ∃ Y : Int, Y = ((h % 128 : Nat) : Int) := ⟨_, rfl⟩
  have hm2 : Int.tmod (h : Int) 128 = Y := by rw [hY, Int.tmod_eq_emod_of_nonneg (by omega)]; omega
  have HY := Lib.hid hY
  clear hY
  go_enter Tryd.func50, Tryd.ntmps50
  go_wp2_with (
    (refine wpList_value rfl (exec_loadAll (t := 92) rfl rfl Tryd.underlying92 rfl HD.out (by rw [arrV_size]; exact Tryd.sizeOf92 _)) ?_)
    )
  go_loopw [13] (fun v13 wr => ∃ k : Nat, k ≤ 8 ∧ v13 = .int .i64 (k : Int) ∧ (∀ j, j < k → dfindP m s key h j = false) ∧ Below w.heap.size w wr) (fun v13 _ => 8 - (intOf v13).toNat)
  case atStart => exact ⟨0, by omega, rfl, fun j hj => by omega, Below.refl _ _⟩
  case round =>
    obtain ⟨k, hk, rfl, hn, hB⟩ := hrel
    have HN := Lib.hid hn
    have hzB := hB.size
    clear hn
    by_cases hlt : k < 8
    · have hltI : decide ((k : Int) < 8) = true := by simp; omega
      have ix := IX.out k hlt
      have kk := kind3 m k
      obtain ⟨-, q, hq, hq2, -⟩ := HGG.out.2 k hlt
      have hP : dfindP m s key h k = (fullB m k && ((s k).key == key && ((q % 128 : Nat) : Int) == Y)) := by
        unfold dfindP; rw [hq, HY.out]; rfl
      rw [hq] at ix
      obtain ⟨X, hX⟩ : ∃ X : Int, X = ((q % 128 : Nat) : Int) := ⟨_, rfl⟩
      have hm1 : Int.tmod (q : Int) 128 = X := by rw [hX, Int.tmod_eq_emod_of_nonneg (by omega)]; omega
      rw [← hX] at hP
      clear hX
      obtain ⟨b1, hb1⟩ : ∃ b, b = fullB m k := ⟨_, rfl⟩
      obtain ⟨b2, hb2⟩ : ∃ b, b = ((s k).key == key) := ⟨_, rfl⟩
      obtain ⟨b3, hb3⟩ : ∃ b, b = (X == Y) := ⟨_, rfl⟩
      rw [← hb1, ← hb2, ← hb3] at hP
      rw [← hb1] at kk
      have HP := Lib.hid hP
      have k2 := hb2.symm
      have k3 := hb3.symm
      clear hP hb1 hb2 hb3 hq
      by_cases hb : (b1 && (b2 && b3)) = true
      · obtain ⟨rfl, rfl, rfl⟩ : b1 = true ∧ b2 = true ∧ b3 = true := by simpa using hb
        clear hb
        go_wp2
        go_ret
        refine ⟨?_, by go_grown⟩
        rw [scan_hit hlt HP.out HN.out]; rfl
      · have hF : dfindP m s key h k = false := by rw [HP.out]; simpa using hb
        have HFF := Lib.hid hF
        clear hF
        cases h1 : b1 with
        | false =>
          subst h1
          clear hb
          go_wp2
          go_roundw
          case rel =>
            refine ⟨k + 1, by omega, by go_num, fun j hj => ?_, by go_grown⟩
            by_cases e : j = k
            · subst e; exact HFF.out
            · exact HN.out j (by omega)
          case measure => simp [intOf]; omega
        | true =>
          subst h1
          cases h2 : b2 with
          | false =>
            subst h2
            clear hb
            go_wp2
            go_roundw
            case rel =>
              refine ⟨k + 1, by omega, by go_num, fun j hj => ?_, by go_grown⟩
              by_cases e : j = k
              · subst e; exact HFF.out
              · exact HN.out j (by omega)
            case measure => simp [intOf]; omega
          | true =>
            subst h2
            cases h3 : b3 with
            | false =>
              subst h3
              clear hb
              go_wp2
              go_roundw
              case rel =>
                refine ⟨k + 1, by omega, by go_num, fun j hj => ?_, by go_grown⟩
                by_cases e : j = k
                · subst e; exact HFF.out
                · exact HN.out j (by omega)
              case measure => simp [intOf]; omega
            | true => subst h3; exact absurd rfl hb
    · obtain rfl : k = 8 := by omega
      go_wp2
      go_ret
      refine ⟨?_, by go_grown⟩
      rw [scan_miss HN.out]; rfl
end Go.Proofs.YtcmjddkljmfklaaDoor
