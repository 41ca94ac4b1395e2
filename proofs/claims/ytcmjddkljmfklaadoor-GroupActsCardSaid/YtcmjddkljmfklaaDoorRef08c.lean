/- The document's group: a new one, its entries, its text. No condition. -/
import Derived.Test.YtcmjddkljmfklaaDoorRef08b
namespace Go.Proofs.YtcmjddkljmfklaaDoor
set_option linter.unusedVariables false
set_option linter.unusedSimpArgs false
open Go.RowKit Go.Proofs

/-- as New fills it -/
def nF (n j : Nat) : Value := if j % 4 = 0 then .int .i64 (if j / 4 < n then 1 else 0) else .int .u64 0
theorem nF_0 : arrV 32 (nF 0) = #[.int .i64 0, .int .u64 0, .int .u64 0, .int .u64 0, .int .i64 0, .int .u64 0, .int .u64 0, .int .u64 0, .int .i64 0, .int .u64 0, .int .u64 0, .int .u64 0, .int .i64 0, .int .u64 0, .int .u64 0, .int .u64 0, .int .i64 0, .int .u64 0, .int .u64 0, .int .u64 0, .int .i64 0, .int .u64 0, .int .u64 0, .int .u64 0, .int .i64 0, .int .u64 0, .int .u64 0, .int .u64 0, .int .i64 0, .int .u64 0, .int .u64 0, .int .u64 0] := rfl
theorem nF_8 : arrV 32 (nF 8) = arrV 32 (dF (rep 128) (fun _ => EntS.zero)) := by
  refine arrV_congr fun j hj => ?_
  unfold nF dF
  rw [ln_rep 128 (j / 4) (by decide) (by omega), if_pos (show j / 4 < 8 by omega)]
  by_cases h : j % 4 = 0
  · rw [if_pos h, if_pos h]; rfl
  · rw [if_neg h, if_neg h]
    by_cases h1 : j % 4 = 1
    · rw [if_pos h1]; rfl
    · rw [if_neg h1]
      by_cases h2 : j % 4 = 2
      · rw [if_pos h2]; rfl
      · rw [if_neg h2]; rfl
theorem nF_set (n : Nat) (hn : n < 8) : (arrV 32 (nF n)).setIfInBounds (n * 4) (.int .i64 1) = arrV 32 (nF (n + 1)) := by
  rw [arrV_set _ _ _ _ (by omega)]
  refine arrV_congr fun j hj => ?_
  by_cases e : j = n * 4
  · subst e; rw [if_pos rfl]; unfold nF; rw [if_pos (by omega), if_pos (by omega)]
  · rw [if_neg e]
    unfold nF
    by_cases h : j % 4 = 0
    · rw [if_pos h, if_pos h]
      by_cases c : j / 4 < n
      · rw [if_pos c, if_pos (by omega)]
      · rw [if_neg c, if_neg (by omega)]
    · rw [if_neg h, if_neg h]
set_option maxRecDepth 100000 in
set_option maxHeartbeats 4000000 in
theorem dnew_any (w : World) : Calls Tryd.prog 44 #[] w fun e w' => e = .returned (.pointer (some ⟨w.heap.size, 0, none⟩)) ∧ DW w' w.heap.size (rep 128) (fun _ => EntS.zero) ∧ Below w.heap.size w w' := by
  have HS := Lib.hid nF_set
  have HE := Lib.hid nF_8
  go_enter Tryd.func44, Tryd.ntmps44
  go_wp2
  go_loopw [2, 5] (fun _ v5 wr => ∃ k : Nat, k ≤ 8 ∧ v5 = .int .i64 (k : Int) ∧ Blk wr w.heap.size 94 (arrV 32 (nF k)) ∧ Below w.heap.size w wr) (fun _ v5 _ => 8 - (intOf v5).toNat)
  case atStart => exact ⟨0, by omega, rfl, by rw [nF_0]; exact Blk.new _ _ _, by go_grown⟩
  case round =>
    obtain ⟨k, hk, rfl, hb, hB⟩ := hrel
    have HB := Lib.hid hb
    have hc := hb.cell
    have hfz := hb.frozen
    have hlb := hb.lt
    clear hb
    by_cases hlt : k < 8
    · have hltI : decide ((k : Int) < 8) = true := by simp; omega
      have hk8 : (k : Int) < 8 := by omega
      have c0 := hc (k * 4)
      rw [arrV_get _ _ _ (by omega)] at c0
      clear hc
      go_wp2
      go_roundw
      case rel => exact ⟨k + 1, by omega, by go_num, by rw [← HS.out k hlt]; exact HB.out.set _ _, hB.setCell (p := ⟨w.heap.size, _, none⟩) (Nat.le_refl _) _⟩
      case measure => simp [intOf]; omega
    · obtain rfl : k = 8 := by omega
      clear hc
      go_wp2
      go_ret
      exact ⟨rfl, by unfold DW; rw [← HE.out]; exact HB.out, hB⟩
theorem sl8_0 (w : World) : (Instr.slice 9 (.string ⟨#[63, 46, 120, 35]⟩) (some (.int .i64 0)) (some (.int .i64 1)) none).run Tryd.prog w = .ok (.string ⟨#[63]⟩) w := by kernel_rfl
theorem sl8_1 (w : World) : (Instr.slice 9 (.string ⟨#[63, 46, 120, 35]⟩) (some (.int .i64 1)) (some (.int .i64 2)) none).run Tryd.prog w = .ok (.string ⟨#[46]⟩) w := by kernel_rfl
theorem sl8_2 (w : World) : (Instr.slice 9 (.string ⟨#[63, 46, 120, 35]⟩) (some (.int .i64 2)) (some (.int .i64 3)) none).run Tryd.prog w = .ok (.string ⟨#[120]⟩) w := by kernel_rfl
theorem sl8_3 (w : World) : (Instr.slice 9 (.string ⟨#[63, 46, 120, 35]⟩) (some (.int .i64 3)) (some (.int .i64 4)) none).run Tryd.prog w = .ok (.string ⟨#[35]⟩) w := by kernel_rfl
theorem sl8 (k : Nat) (hk : k ≤ 3) (w : World) : (Instr.slice 9 (.string ⟨#[63, 46, 120, 35]⟩) (some (.int .i64 (k : Int))) (some (.int .i64 ((k : Int) + 1))) none).run Tryd.prog w = .ok (.string ⟨#[signK k]⟩) w := by
  have h : k = 0 ∨ k = 1 ∨ k = 2 ∨ k = 3 := by omega
  clear hk
  rcases h with rfl | rfl | rfl | rfl
  · exact sl8_0 w
  · exact sl8_1 w
  · exact sl8_2 w
  · exact sl8_3 w
set_option maxRecDepth 100000 in
set_option maxHeartbeats 4000000 in
theorem dtext_any (R m : Nat) (s : Nat → EntS) (w : World) (h : DW w R m s) :
    Calls Tryd.prog 54 #[.pointer (some ⟨R, 0, none⟩)] w fun e w' => e = .returned (.string (textW m)) ∧ Below w.heap.size w w' := by
  have HD := Lib.hid h
  have IX := Lib.hid (fun (k : Nat) (hk : k < 8) (w : World) => ix_cell m s k hk w)
  have KS := Lib.hid (fun (k : Nat) (w : World) => sl8 (kindN (ln m k)) (kindN_le _) w)
  have KL := Lib.hid (fun (k : Nat) => kindN_le (ln m k))
  have hl := h.lt
  clear h
  go_enter Tryd.func54, Tryd.ntmps54
  go_wp2_with (
    (refine wpList_value rfl (exec_loadAll (t := 92) rfl rfl Tryd.underlying92 rfl HD.out (by rw [arrV_size]; exact Tryd.sizeOf92 _)) ?_)
    )
  go_loopw [3, 10] (fun v3 v10 wr => ∃ k : Nat, k ≤ 8 ∧ v10 = .int .i64 (k : Int) ∧ v3 = .string (textTo (fun i => kindN (ln m i)) k) ∧ Below w.heap.size w wr) (fun _ v10 _ => 8 - (intOf v10).toNat)
  case atStart => exact ⟨0, by omega, rfl, rfl, Below.refl _ _⟩
  case round =>
    obtain ⟨k, hk, rfl, rfl, hB⟩ := hrel
    have hzB := hB.size
    by_cases hlt : k < 8
    · have hltI : decide ((k : Int) < 8) = true := by simp; omega
      have ix := IX.out k hlt
      have ks := KS.out k
      have kl := KL.out k
      have ht := Lib.hid (textTo_succ (fun i => kindN (ln m i)) k)
      obtain ⟨sk, hsk⟩ : ∃ sk, sk = signK (kindN (ln m k)) := ⟨_, rfl⟩
      rw [← hsk] at ks ht
      replace hsk := Lib.hid hsk
      have hkx : ∃ kk, kk = kindN (ln m k) := ⟨_, rfl⟩
      obtain ⟨kk, hkk⟩ := hkx
      simp only [← hkk] at ix ks kl
      clear hkk
      have hsz := textTo_size (fun i => kindN (ln m i)) k
      have hsz' : ¬ 9223372036854775807 < (textTo (fun i => kindN (ln m i)) k).size + 1 := by omega
      clear hsz
      generalize textTo (fun i => kindN (ln m i)) k = tk at *
      go_wp2
      go_roundw
      case rel => exact ⟨k + 1, by omega, by go_num, by rw [ht.out], by go_grown⟩
      case measure => simp [intOf]; omega
    · obtain rfl : k = 8 := by omega
      go_wp2
      go_ret
      exact ⟨rfl, by go_grown⟩
/-- the entries of the full ones of the first n -/
def entsTo (m : Nat) (s : Nat → EntS) (n : Nat) : List EntS := ((List.range n).filter (fullB m)).map s
theorem entsTo_full {m : Nat} {s : Nat → EntS} {n : Nat} (h : fullB m n = true) : entsTo m s (n + 1) = entsTo m s n ++ [s n] := by
  unfold entsTo
  rw [List.range_succ, List.filter_append, List.map_append]
  congr 1
  simp [h]
theorem entsTo_not {m : Nat} {s : Nat → EntS} {n : Nat} (h : fullB m n = false) : entsTo m s (n + 1) = entsTo m s n := by
  unfold entsTo
  rw [List.range_succ, List.filter_append, List.map_append]
  simp [h]
theorem entsTo_le (m : Nat) (s : Nat → EntS) (n : Nat) : (entsTo m s n).length ≤ n := by
  have := List.length_filter_le (fullB m) (List.range n)
  simpa [entsTo] using this
set_option maxRecDepth 100000 in
set_option maxHeartbeats 4000000 in
theorem dentries_any (R m : Nat) (s : Nat → EntS) (w : World) (h : DW w R m s) :
    Calls Tryd.prog 56 #[.pointer (some ⟨R, 0, none⟩)] w fun e w' => ∃ v, e = .returned v ∧ w'.ownsRow w.heap.size 62 3 v (entsL m s).length (entV (entsL m s)) ∧ Below w.heap.size w w' := by
  obtain ⟨i0, hi, hz0, hz1, hz2⟩ := info_parts infoE
  have HD := Lib.hid h
  have IX := Lib.hid (fun (k : Nat) (hk : k < 8) (w : World) => ix_cell m s k hk w)
  have hl := h.lt
  have HLE := Lib.hid (entsTo_le m s)
  rw [show entsL m s = entsTo m s 8 from rfl]
  clear h
  go_enter Tryd.func56, Tryd.ntmps56
  go_wp2_with (
    (refine wpList_value rfl (exec_loadAll (t := 92) rfl rfl Tryd.underlying92 rfl (HD.out.alloc _) (by rw [arrV_size]; exact Tryd.sizeOf92 _)) ?_)
    )
  go_loopw [3, 11] (fun v3 v11 wr => ∃ k : Nat, k ≤ 8 ∧ v11 = .int .i64 (k : Int) ∧ wr.ownsRow w.heap.size 62 3 v3 (entsTo m s k).length (entV (entsTo m s k)) ∧ Below w.heap.size w wr) (fun _ v11 _ => 8 - (intOf v11).toNat)
  case atStart => exact ⟨0, by omega, rfl, ⟨rfl, .inr ⟨w.heap.size, 0, #[], rfl, Nat.le_refl _, Blk.new _ _ _, by simp [entsTo], by decide, rfl, by simp [entsTo, entV]⟩⟩, by go_grown⟩
  case round =>
    obtain ⟨k, hk, rfl, hrow, hB⟩ := hrel
    have hzB := hB.size
    obtain ⟨a3, cap3, rfl⟩ := ownsRow_slice hrow
    by_cases hlt : k < 8
    · have hltI : decide ((k : Int) < 8) = true := by simp; omega
      have ix := IX.out k hlt
      have kk := kind3 m k
      by_cases hf : fullB m k = true
      · rw [hf] at kk
        have HEQ := Lib.hid (entsTo_full (s := s) hf)
        have hle := HLE.out k
        have HR := Lib.hid hrow
        clear hf hrow
        generalize entsTo m s k = l at *
        have HE3 := Lib.hid (entV_snoc l (s k))
        go_wp2_with (at_builtin; refine wpList_append_own _ rfl _ _ 60 rfl w.heap.size 62 i0 (.agg #[.int .u64 0, .int .u64 0, .int .u64 0]) 3 24 Tryd.underlying60 hi hz0 hz1 hz2 rfl (by decide) _ _ _ rfl ((HR.out.alloc _).alloc _) ⟨wr.heap.size + 1, 0, none⟩ 1 1 [.int .u64 (s k).key, .int .u64 (s k).val, .int .u64 (s k).hash] rfl rfl (by have := cell3_new (wr.alloc (.cells #[.int .i64 ((kindN (ln m k) : Nat) : Int), .int .u64 (s k).key, .int .u64 (s k).val, .int .u64 (s k).hash] 91)) (.int .u64 (s k).key) (.int .u64 (s k).val) (.int .u64 (s k).hash) 62; simpa using this) (by simp [Value.oneCell']) (by unfold maxLen; omega) (by omega) (by simp; omega) ?_; intro v' w4 hown4 hgrow4 _; have hb4 : Below w.heap.size wr w4 := Below.trans (show Below w.heap.size wr _ from by go_grown) (below_append (HR.out.alloc _) (by simp; omega) hgrow4); clear hgrow4; replace hown4 := Lib.hid hown4)
        go_roundw
        case rel => exact ⟨k + 1, by omega, by go_num, by rw [HEQ.out, HE3.out, List.length_append]; exact hown4.out, hB.trans hb4⟩
        case measure => simp [intOf]; omega
      · replace hf : fullB m k = false := by simpa using hf
        rw [hf] at kk
        have HEQ := Lib.hid (entsTo_not (s := s) hf)
        have HR := Lib.hid hrow
        clear hf hrow
        go_wp2
        go_roundw
        case rel => exact ⟨k + 1, by omega, by go_num, by rw [HEQ.out]; exact HR.out.alloc _, by go_grown⟩
        case measure => simp [intOf]; omega
    · obtain rfl : k = 8 := by omega
      have HR := Lib.hid hrow
      clear hrow
      go_wp2
      go_ret
      exact ⟨_, rfl, HR.out, hB⟩
end Go.Proofs.YtcmjddkljmfklaaDoor
