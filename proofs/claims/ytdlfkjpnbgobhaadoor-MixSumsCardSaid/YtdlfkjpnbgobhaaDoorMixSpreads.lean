/- Spread, the document's Spread, and the walk of MixSpreads. Condition: the errors and the table of words. -/
import Derived.Test.YtdlfkjpnbgobhaaDoorMixSpread
import Derived.Test.YtdlfkjpnbgobhaaDoorRefMix
import Derived.Test.YtdlfkjpnbgobhaaDoorMixBack
namespace Go.Proofs.YtdlfkjpnbgobhaaDoor
set_option linter.unusedVariables false
set_option linter.unusedSimpArgs false
open Go.RowKit Go.Proofs

theorem spread_badK (k d : Int) (v : Value) (hk : k < 0 ∨ 5 < k) (E : Nat → Addr) (w0 : World) (he : EC w0 E [14]) :
    Calls Tryd.prog 32 #[.int .i64 k, v, .int .i64 d] w0 fun e w' => e = .returned (.tuple #[.slice none 0 0, errAt E 14]) ∧ Below w0.heap.size w0 w' := by
  have hc : w0.cell? ⟨0, 0, none⟩ = some (errAt E 14) := he 14 (by decide)
  have WD := Lib.hid (mixWord_bad k hk)
  clear he hk
  go_enter Tryd.func32, Tryd.ntmps32
  go_wp2_with (go_at_call 47; refine (WD.out _).mono ?_; rintro e w' ⟨rfl, rfl⟩)
  refine wp_region_seq (fun _ => False) #[⟨0, 0, 524288, 0, 1⟩, ⟨0, 0, 64, 0, 0⟩, ⟨3, 3, 128, 524288, 0⟩] 1 [(0, 1), (1, 0), (2, 0)] (by kernel_rfl) (by kernel_rfl) (by kernel_rfl) (by kernel_rfl) (by kernel_rfl) (by kernel_rfl) (fun c a d v w h => by cases d <;> exact h) ?_
  refine seq_load1 (by simp only [List.getElem?_toArray, List.getElem?_cons_succ, List.getElem?_cons_zero]; rfl) (by rfl) rfl rfl Tryd.underlying43 rfl (by go_simp <;> with_reducible rfl) (by first | exact id | assumption | (simp; done) | (simp; omega)) ?_
  try simp only [Act.put, List.setIfInBounds_toArray, List.set_cons_zero, List.set_cons_succ]
  refine seq_calc (by simp only [List.getElem?_toArray, List.getElem?_cons_succ, List.getElem?_cons_zero]; rfl) (by rfl) (fun u => by go_simp <;> with_reducible rfl) ?_
  try simp only [Act.put, List.setIfInBounds_toArray, List.set_cons_zero, List.set_cons_succ]
  refine seq_calc (by simp only [List.getElem?_toArray, List.getElem?_cons_succ, List.getElem?_cons_zero]; rfl) (by rfl) (fun u => by go_simp <;> with_reducible rfl) ?_
  try simp only [Act.put, List.setIfInBounds_toArray, List.set_cons_zero, List.set_cons_succ]
  refine seq_nil ?_
  go_wp2
  go_ret2
  exact ⟨rfl, (Below.refl _ _).drew⟩
theorem spread_badD (k : Nat) (d : Int) (v : Value) (hk : k ≤ 5) (hd : ¬ (0 ≤ d ∧ d ≤ 16)) (E : Nat → Addr) (w0 : World) (hW : MixW w0) (he : EC w0 E [1]) :
    Calls Tryd.prog 32 #[.int .i64 (k : Int), v, .int .i64 d] w0 fun e w' => e = .returned (.tuple #[.slice none 0 0, errAt E 1]) ∧ Below w0.heap.size w0 w' := by
  have WD := mixWord_ok k hk w0 hW
  have hne := wordL_ne k hk
  generalize (⟨(wordL k).toArray⟩ : ByteArray) = s at *
  replace WD := Lib.hid WD
  have TB := Lib.hid (top_bad (.int .u64 0) d hd E w0 he)
  simp only [errAt] at TB ⊢
  clear he hd hW
  go_enter Tryd.func32, Tryd.ntmps32
  go_wp2_with (first
    | (go_at_call 47; refine WD.out.mono ?_; rintro e w' ⟨rfl, rfl⟩)
    | (go_at_call 88; refine TB.out.mono ?_; rintro e w' ⟨rfl, rfl⟩))
  go_ret2
  exact ⟨rfl, (Below.refl _ _).drew⟩
theorem rspread_badK (k d : Int) (v : Value) (hk : k < 0 ∨ 5 < k) (w0 : World) :
    Calls Tryd.prog 54 #[.int .i64 k, v, .int .i64 d] w0 fun e w' => e = .returned (.tuple #[.slice none 0 0, .int .i64 14]) ∧ w0 = w' := by
  by_cases h1 : k < 0
  · have e1 : decide (k < 0) = true := by simpa using h1
    clear hk h1
    go_enter Tryd.func54, Tryd.ntmps54
    go_wp2
    go_ret2
    exact ⟨rfl, rfl⟩
  · have e1 : decide (k < 0) = false := by simpa using h1
    have e2 : decide (k > 5) = true := by simp; omega
    clear hk h1
    go_enter Tryd.func54, Tryd.ntmps54
    go_wp2
    go_ret2
    exact ⟨rfl, rfl⟩
theorem rspread_badD (k : Nat) (d : Int) (v : Value) (hk : k ≤ 5) (hd : ¬ (0 ≤ d ∧ d ≤ 16)) (w0 : World) :
    Calls Tryd.prog 54 #[.int .i64 (k : Int), v, .int .i64 d] w0 fun e w' => e = .returned (.tuple #[.slice none 0 0, .int .i64 1]) ∧ w0 = w' := by
  have e1 : decide ((k : Int) < 0) = false := by simp
  have e2 : decide ((k : Int) > 5) = false := by simp; omega
  by_cases h1 : d < 0
  · have e3 : decide (d < 0) = true := by simpa using h1
    clear hd h1
    go_enter Tryd.func54, Tryd.ntmps54
    go_wp2
    go_ret2
    exact ⟨rfl, rfl⟩
  · have e3 : decide (d < 0) = false := by simpa using h1
    have e4 : decide (d > 16) = true := by simp; omega
    clear hd h1
    go_enter Tryd.func54, Tryd.ntmps54
    go_wp2
    go_ret2
    exact ⟨rfl, rfl⟩
set_option maxRecDepth 100000 in
set_option maxHeartbeats 4000000 in
theorem rspread_ok (k d n : Nat) (a : Option Addr) (cap : Nat) (key : Nat → Nat) (hk : k ≤ 5) (hd : d ≤ 16) (hn : n ≤ 1000) (hkey : ∀ i, key i < 18446744073709551616) (w0 : World) (hK : KeysAt w0 a n key) :
    Calls Tryd.prog 54 #[.int .i64 (k : Int), .slice a n cap, .int .i64 (d : Int)] w0 (GivesC key k d n (.int .i64 0) w0) := by
  obtain ⟨i0, hi, hz0, hz1, hz2⟩ := info_parts infoD
  have HK := Lib.hid hK
  have OF := Lib.hid (fun i w => rofm_ok k (key i) hk (hkey i) w)
  have TP := Lib.hid (show ∀ (i : Nat) (w0 : World), Calls Tryd.prog 104 #[.int .u64 ((mixN k (key i) : Nat) : Int), .int .i64 (d : Int)] w0 fun e w' => e = .returned (.tuple #[.int .i64 ((topN (mixN k (key i)) d : Nat) : Int), .int .i64 0]) ∧ Below w0.heap.size w0 w' from fun i w0 => top03_any _ d (mixN_lt k _ (hkey i)) hd w0)
  have TL := Lib.hid (fun i => topN_lt (d := d) (mixN_lt k _ (hkey i)) (by omega))
  have CS := Lib.hid (cntF_succ key k d)
  have CL := Lib.hid (cntF_le key k d)
  have hy0 := Nat.two_pow_pos d
  have hy := pow_le16 hd
  have h9 : ∀ j : Nat, j ≤ 16 → 2 ^ j ≤ 65536 := fun j hj => Nat.pow_le_pow_right (n := 2) (by decide) hj
  have H9 := Lib.hid h9
  have e1 : decide ((k : Int) < 0) = false := by simp
  have e2 : decide ((k : Int) > 5) = false := by simp; omega
  have e3 : decide ((d : Int) < 0) = false := by simp
  have e4 : decide ((d : Int) > 16) = false := by simp; omega
  unfold GivesC
  obtain ⟨y, hye⟩ : ∃ y, y = 2 ^ d := ⟨_, rfl⟩
  rw [← hye] at TL hy0 hy ⊢
  have HY := Lib.hid hye
  clear hK hkey h9 hye
  go_enter Tryd.func54, Tryd.ntmps54
  go_wp2
  go_loop [8, 9] (fun v8 v9 => ∃ j : Nat, j ≤ d ∧ v9 = .int .i64 (j : Int) ∧ v8 = .int .i64 ((2 ^ j : Nat) : Int)) (fun _ v9 => d - (intOf v9).toNat)
  case atStart => exact ⟨0, Nat.zero_le _, rfl, rfl⟩
  case round =>
    obtain ⟨j, hj, rfl, rfl⟩ := hrel
    by_cases hlt : j < d
    · have h1 := H9.out j (by omega)
      have h2 : 2 ^ (j + 1) = 2 ^ j * 2 := Nat.pow_succ ..
      generalize 2 ^ j = m at *
      have H2 := Lib.hid h2
      clear h2
      go_wp2
      go_round
      case rel => exact ⟨j + 1, by omega, by go_num, by rw [H2.out]; go_num⟩
      case measure => simp [intOf]; omega
    · obtain rfl : j = d := by omega
      rw [← HY.out]
      go_wp2_with (at_make; refine wpList_make_full _ rfl _ _ 41 rfl w0.heap.size 3 i0 (.int .i64 0) 1 Tryd.underlying41 hi hz0 hz1 .i64 .i64 _ _ y rfl rfl rfl rfl (by rw [hz2]; omega) (by unfold maxLen; omega) (Nat.le_refl _) ?_; intro w1 hown1 hgrow1; have hb1 := Lib.hid (ownsRowD_blk hown1); have hB1 : Below w0.heap.size w0 w1 := (Below.refl _ _).grown hgrow1 (Nat.le_refl _) (fun k e => by cases e); clear hgrow1 hown1)
      have q1 : Blk w1 w0.heap.size 3 (arrF y (fun _ => 0)) := by
        have := hb1.out
        rw [show (madeCells (Value.int .i64 0).cells (y * 1)).toList = List.replicate y (Value.int .i64 0) by rw [Nat.mul_one]; exact toList_madeCells_one _ _] at this
        rw [arrF_zero]; exact this
      replace hb1 := Lib.hid q1
      clear q1
      go_loopw [12, 13, 14, 15, 16, 40] (fun _ _ _ _ _ v40 wr => ∃ m : Nat, m ≤ n ∧ v40 = .int .i64 (m : Int) ∧ Blk wr w0.heap.size 3 (arrF y (cntF key k j m)) ∧ Below w0.heap.size w0 wr) (fun _ _ _ _ _ v40 _ => n - (intOf v40).toNat)
      case atStart => exact ⟨0, Nat.zero_le _, rfl, hb1.out, hB1⟩
      case round =>
        have hgB := hb1.out.lt
        clear hb1 hB1
        obtain ⟨m, hm, rfl, hQ, hB⟩ := hrel
        have HQ := Lib.hid hQ
        clear hQ
        by_cases hlt : m < n
        · obtain ⟨b, off, rfl, -, hcells⟩ := HK.out (by omega)
          have c0 := hcells wr hB m hlt
          have of := OF.out m
          have tp := TP.out m
          have tl := TL.out m
          have cs := CS.out m
          have cl := CL.out m
          clear hcells
          generalize mixN k (key m) = h at *
          generalize key m = x at *
          generalize topN h j = t at *
          have hg2 := arrF_get y (cntF key k j m) t tl
          have CG := Lib.hid hg2
          have hst2 := arrF_set y (cntF key k j m) t (cntF key k j m t + 1) tl
          rw [← cs] at hst2
          have ST := Lib.hid hst2
          have clt := cl t
          clear cl cs hg2 hst2
          obtain ⟨nx, hnx⟩ : ∃ nx, nx = arrF y (cntF key k j (m + 1)) := ⟨_, rfl⟩
          rw [← hnx] at ST
          replace hnx := Lib.hid hnx
          generalize cntF key k j m t = c at *
          generalize arrF y (cntF key k j m) = cu at *
          replace of := Lib.hid of
          replace tp := Lib.hid tp
          have tly : (t : Int) < (y : Int) := by omega
          go_wp2_with (first
            | (go_at_call 44; refine (of.out _).mono ?_; rintro e w2 ⟨rfl, hb2⟩; have HQ2 := Lib.hid (HQ.out.below hb2 HQ.out.lt); have hB2 := hB.trans (hb2.mono hB.size))
            | (go_at_call 104; refine (tp.out _).mono ?_; rintro e w3 ⟨rfl, hb3⟩; have HQ3 := Lib.hid (HQ2.out.below hb3 HQ2.out.lt); have hB3 := hB2.trans (hb3.mono hB2.size); have c1 := HQ3.out.cell t; rw [CG.out] at c1; have f1 := HQ3.out.frozen t))
          have hst := HQ3.out.set t (.int .i64 ((c + 1 : Nat) : Int))
          rw [ST.out] at hst
          replace hst := Lib.hid hst
          go_roundw
          case rel => exact ⟨m + 1, by omega, by go_num, by rw [← hnx.out]; exact hst.out, hB3.setCell (Nat.le_refl _) _⟩
          case measure => simp [intOf]; omega
        · obtain rfl : m = n := by omega
          go_wp2
          go_ret2
          exact ⟨w0.heap.size, rfl, HQ.out, Nat.le_refl _, hB⟩
theorem RowsAt.keys {w : World} {v : Value} {n : Nat} {f : Nat → Nat → Int} (h : RowsAt w v n 1 .u64 f) : ∃ (a : Option Addr) (cap : Nat) (key : Nat → Nat), v = .slice a n cap ∧ (∀ i, key i < 18446744073709551616) ∧ KeysAt w a n key := by
  have hwf := h.2.1
  obtain ⟨a, cap, rfl, hx⟩ := h.cell1
  refine ⟨a, cap, fun i => if i < n then (f i 0).toNat else 0, rfl, fun i => ?_, fun hn => ?_⟩
  · dsimp only
    split
    · rename_i hi
      have := hwf i hi 0 (by decide)
      have h' : 0 ≤ f i 0 ∧ f i 0 ≤ 18446744073709551615 := by simpa [Lit.wf, IntKind.has, IntKind.min, IntKind.max, IntKind.signed, IntKind.bits] using this
      omega
    · decide
  · obtain ⟨b, off, rfl, hb, hc⟩ := hx hn
    refine ⟨b, off, rfl, hb, fun w' hB i hi => ?_⟩
    have := hwf i hi 0 (by decide)
    have h' : 0 ≤ f i 0 ∧ f i 0 ≤ 18446744073709551615 := by simpa [Lit.wf, IntKind.has, IntKind.min, IntKind.max, IntKind.signed, IntKind.bits] using this
    rw [hc w' hB i hi]
    dsimp only
    rw [if_pos hi, Int.toNat_of_nonneg h'.1]
theorem KeysAt.below {w w' : World} {a : Option Addr} {n : Nat} {key : Nat → Nat} (h : KeysAt w a n key) (hb : Below w.heap.size w w') : KeysAt w' a n key := fun hn => by
  obtain ⟨b, off, rfl, hl, hc⟩ := h hn
  exact ⟨b, off, rfl, Nat.lt_of_lt_of_le hl hb.size, fun w2 h2 => hc w2 (hb.trans (h2.mono hb.size))⟩
set_option maxRecDepth 100000 in
set_option maxHeartbeats 4000000 in
theorem mixSpreads_any (k d : Int) (v : Value) (n : Nat) (f : Nat → Nat → Int) (E : Nat → Addr) (w0 : World) (he : ErrsAre w0 E) (hW : MixW w0) (h1 : RowsAt w0 v n 1 .u64 f) :
    Calls Tryd.prog 11 #[.int .i64 k, v, .int .i64 d] w0 fun e w' => e = .returned (.bool true) ∧ Below w0.heap.size w0 w' := by
  have m1 := h1.2.2
  unfold maxLen at m1
  obtain ⟨a, cap, key, rfl, hkey, hK⟩ := h1.keys
  have HE := Lib.hid he
  have HE3 := Lib.hid (show EC w0 E [1, 14] from he.ec.sub (by decide))
  have AL := Lib.hid alive29_any
  clear h1 he
  by_cases g1 : 200 < n
  · have g1' : (200 : Int) < (n : Int) := by omega
    clear hW hK
    go_enter Tryd.func11, Tryd.ntmps11
    go_wp2_with (go_at_call 31; refine (AL.out _).mono ?_; rintro e w' ⟨rfl, rfl⟩)
    go_ret
    exact ⟨rfl, Below.refl _ _⟩
  have g1' : (n : Int) ≤ 200 := by omega
  have SN := Lib.hid (fun (w : World) => sameInts_any (.slice none 0 0) (.slice none 0 0) [] [] w ⟨none, 0, rfl, fun h => absurd rfl h⟩ ⟨none, 0, rfl, fun h => absurd rfl h⟩ (by decide))
  simp only [decide_true] at SN
  by_cases hk : k < 0 ∨ 5 < k
  · have SB := Lib.hid (spread_badK k d (.slice a n cap) hk E w0 (HE3.out.sub (by decide)))
    have RB := Lib.hid (rspread_badK k d (.slice a n cap) hk)
    have NU := Lib.hid (fun w' h => num_any E 14 (by decide) w' h)
    simp only [errN, errAt] at NU SB
    clear hW hK hk
    go_enter Tryd.func11, Tryd.ntmps11
    go_wp2_with (first
      | (go_at_call 31; refine (AL.out _).mono ?_; rintro e w' ⟨rfl, rfl⟩)
      | (go_at_call 32; refine SB.out.mono ?_; rintro e w1 ⟨rfl, hb1⟩)
      | (go_at_call 54; refine (RB.out _).mono ?_; rintro e w' ⟨rfl, rfl⟩)
      | (go_at_call 55; refine (SN.out _).mono ?_; rintro e w' ⟨rfl, rfl⟩)
      | (go_at_call 40; refine (NU.out _ (HE.out.below hb1)).mono ?_; rintro e w2 ⟨rfl, hb2⟩))
    go_ret
    exact ⟨rfl, hb1.trans (hb2.mono hb1.size)⟩
  obtain ⟨kk, rfl⟩ : ∃ kk : Nat, k = (kk : Int) := ⟨k.toNat, by omega⟩
  by_cases hd : 0 ≤ d ∧ d ≤ 16
  · obtain ⟨dd, rfl⟩ : ∃ dd : Nat, d = (dd : Int) := ⟨d.toNat, by omega⟩
    have SO := Lib.hid (spread_ok kk dd n a cap key (by omega) (by omega) (by omega) hkey w0 hW hK)
    have RO := Lib.hid (fun w h => rspread_ok kk dd n a cap key (by omega) (by omega) (by omega) hkey w h)
    have HK := Lib.hid hK
    have hy := pow_le16 (d := dd) (by omega)
    clear hW hK hk hd
    unfold GivesC at SO RO
    generalize 2 ^ dd = y at *
    go_enter Tryd.func11, Tryd.ntmps11
    go_wp2_with (first
      | (go_at_call 31; refine (AL.out _).mono ?_; rintro e w' ⟨rfl, rfl⟩)
      | (go_at_call 32; refine SO.out.mono ?_; rintro e w1 ⟨R1, rfl, hr1, hR1, hb1⟩; have HR1 := Lib.hid hr1; clear hr1)
      | (go_at_call 54; refine (RO.out _ (HK.out.below hb1)).mono ?_; rintro e w2 ⟨R2, rfl, hr2, hR2, hb2⟩; have S1 := Lib.hid (arrF_reads (HR1.out.below hb2 HR1.out.lt)); have S2 := Lib.hid (arrF_reads hr2); have hb3 := hb1.trans (hb2.mono hb1.size); clear hr2)
      | (go_at_call 55; refine (sameInts_any _ _ _ _ _ S1.out S2.out (by simp; omega)).mono ?_; simp only [decide_true]; rintro e w' ⟨rfl, rfl⟩)
      | (go_at_call 40; refine (num_nil _).mono ?_; rintro e w' ⟨rfl, rfl⟩))
    go_ret
    exact ⟨rfl, hb3⟩
  · have SB := Lib.hid (spread_badD kk d (.slice a n cap) (by omega) hd E w0 hW (HE3.out.sub (by decide)))
    have RB := Lib.hid (rspread_badD kk d (.slice a n cap) (by omega) hd)
    have NU := Lib.hid (fun w' h => num_any E 1 (by decide) w' h)
    simp only [errN, errAt] at NU SB
    clear hW hK hk hd
    go_enter Tryd.func11, Tryd.ntmps11
    go_wp2_with (first
      | (go_at_call 31; refine (AL.out _).mono ?_; rintro e w' ⟨rfl, rfl⟩)
      | (go_at_call 32; refine SB.out.mono ?_; rintro e w1 ⟨rfl, hb1⟩)
      | (go_at_call 54; refine (RB.out _).mono ?_; rintro e w' ⟨rfl, rfl⟩)
      | (go_at_call 55; refine (SN.out _).mono ?_; rintro e w' ⟨rfl, rfl⟩)
      | (go_at_call 40; refine (NU.out _ (HE.out.below hb1)).mono ?_; rintro e w2 ⟨rfl, hb2⟩))
    go_ret
    exact ⟨rfl, hb1.trans (hb2.mono hb1.size)⟩
end Go.Proofs.YtdlfkjpnbgobhaaDoor
