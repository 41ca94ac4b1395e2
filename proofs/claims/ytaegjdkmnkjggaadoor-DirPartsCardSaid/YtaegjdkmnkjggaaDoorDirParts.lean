/- The walk of DirParts. Condition: the error's cell. -/
import Derived.Test.YtaegjdkmnkjggaaDoorDirHalves
namespace Go.Proofs.YtaegjdkmnkjggaaDoor
set_option linter.unusedVariables false
set_option linter.unusedSimpArgs false
open Go.RowKit Go.Proofs

theorem low_top {i k d : Nat} (hk : k ≤ d) (hd : d ≤ 64) : topN (lowN i d) k = i / 2 ^ (d - k) := by
  unfold topN lowN
  rw [show 64 - k = (64 - d) + (d - k) by omega, Nat.pow_add, ← Nat.div_div_eq_div_mul, Nat.mul_div_cancel _ (Nat.two_pow_pos _)]
theorem low_topD {i d : Nat} (hd : d ≤ 64) : topN (lowN i d) d = i := by rw [low_top (Nat.le_refl _) hd]; simp
theorem within_ok (h p k : Nat) (hh : h < 18446744073709551616) (hk : k ≤ 16) (hp : p < 2 ^ k) (w : World) :
    Calls Tryd.prog 51 #[.int .u64 (h : Int), .int .i64 (p : Int), .int .i64 (k : Int)] w fun e w' => e = .returned (.bool (decide (topN h k = p))) ∧ w = w' := by
  have ht := Lib.hid (top_ok h k hh hk)
  have hpp := prefixed_any (p : Int) (k : Int)
  rw [decide_eq_true (show Pre (p : Int) (k : Int) from ⟨by omega, by omega, by simp; exact_mod_cast hp⟩)] at hpp
  have HPP := Lib.hid hpp
  have hd : decide (topN h k = p) = (((topN h k : Nat) : Int) == (p : Int)) := by rw [Bool.eq_iff_iff]; simp; omega
  rw [hd]
  generalize topN h k = t at *
  clear hd hpp hp hh
  go_enter Tryd.func51, Tryd.ntmps51
  go_wp2_with (first
    | (go_at_call 87; refine (ht.out _).mono ?_; rintro e w' ⟨rfl, rfl⟩)
    | (go_at_call 86; refine (HPP.out _).mono ?_; rintro e w' ⟨rfl, rfl⟩))
  go_ret
  exact ⟨rfl, rfl⟩
/-- how many of the entries ahead of i are from a on, of y -/
def cntA (a y i : Nat) : Nat := if i ≤ a then 0 else if i ≤ a + y then i - a else y
theorem cntA_next (a y i : Nat) (h : a ≤ i ∧ i < a + y) : cntA a y (i + 1) = cntA a y i + 1 := by
  unfold cntA
  repeat' split
  all_goals omega
theorem cntA_same (a y i : Nat) (h : ¬ (a ≤ i ∧ i < a + y)) : cntA a y (i + 1) = cntA a y i := by
  unfold cntA
  repeat' split
  all_goals omega
theorem div_in {i y p : Nat} (hy : 0 < y) : i / y = p ↔ p * y ≤ i ∧ i < p * y + y := by
  rw [Nat.div_eq_iff hy]
  constructor
  · intro h; omega
  · intro h; omega
set_option maxRecDepth 100000 in
set_option maxHeartbeats 4000000 in
theorem dirParts_bad (depth p k : Int) (hd : depth < 0 ∨ 5 < depth) (E : Nat → Addr) (w0 : World) (he : EC w0 E [1]) :
    Calls Tryd.prog 10 #[.int .i64 depth, .int .i64 p, .int .i64 k] w0 fun e w' => e = .returned (.bool true) ∧ Below w0.heap.size w0 w' := by
  have HE := Lib.hid he
  clear he
  have AL := Lib.hid (fun (w : World) h => alive16_any E w h)
  have NB := Lib.hid (fun (w : World) h => dnew_badI depth hd E w h)
  clear hd
  go_enter Tryd.func10, Tryd.ntmps10
  go_wp2_with (first
    | (go_at_call 45; refine (AL.out _ HE.out).mono ?_; rintro e w1 ⟨rfl, hb1⟩)
    | (go_at_call 46; refine (NB.out w1 (HE.out.below hb1)).mono ?_; rintro e w2 ⟨rfl, hb2⟩; have hb2' := hb1.trans (hb2.mono hb1.size)))
  go_ret
  exact ⟨rfl, hb2'⟩
theorem dset_badI (B R d : Nat) (es : List Int) (p k x : Int) (hb : (d : Int) < k ∨ ¬ Pre p k ∨ x < 0) (E : Nat → Addr) (w : World) (hD : DW w B R d es) (he : EC w E [1]) :
    Calls Tryd.prog 47 #[.pointer (some ⟨B, 0, none⟩), .int .i64 p, .int .i64 k, .int .i64 x] w fun e w' => e = .returned (.tuple #[.int .i64 0, .iface 150 (.pointer (some (E 1)))]) ∧ Below w.heap.size w w' := dset_bad B R d es p k x hb E w hD he
set_option maxRecDepth 100000 in
set_option maxHeartbeats 4000000 in
theorem dirParts_err (d : Nat) (hd5 : d ≤ 5) (p k : Int) (hb : (d : Int) < k ∨ ¬ Pre p k) (E : Nat → Addr) (w0 : World) (he : EC w0 E [1]) :
    Calls Tryd.prog 10 #[.int .i64 (d : Int), .int .i64 p, .int .i64 k] w0 fun e w' => e = .returned (.bool true) ∧ Below w0.heap.size w0 w' := by
  have HE := Lib.hid he
  clear he
  have AL := Lib.hid (fun (w : World) h => alive16_any E w h)
  have ND := Lib.hid (fun (w : World) => dnew_ok d hd5 w)
  have SB := Lib.hid (fun (w : World) B R es h h' => dset_badI B R d es p k 9 (hb.elim .inl (fun h => .inr (.inl h))) E w h h')
  have LE := Lib.hid (fun (w : World) B R es h => dlen_any B R d es w h)
  clear hb
  go_enter Tryd.func10, Tryd.ntmps10
  go_wp2_with (first
    | (go_at_call 45; refine (AL.out _ HE.out).mono ?_; rintro e w1 ⟨rfl, hb1⟩)
    | (go_at_call 46; refine (ND.out w1).mono ?_; rintro e w2 ⟨B, R, rfl, hD, hB, hR, hb2⟩; obtain ⟨es, hes⟩ : ∃ es : List Int, es = List.replicate (2 ^ d) 0 := ⟨_, rfl⟩; rw [← hes] at hD; replace hes := Lib.hid hes; replace hD := Lib.hid hD; have hb2' := hb1.trans (hb2.mono hb1.size))
    | (go_at_call 47; refine (SB.out _ B R _ hD.out (HE.out.below hb2')).mono ?_; rintro e w3 ⟨rfl, hb3⟩; have hD3 := Lib.hid (hD.out.below hb3); have hb3' := hb2'.trans (hb3.mono hb2'.size))
    | (go_at_call 49; refine (LE.out _ B R _ hD3.out).mono ?_; rintro e w' ⟨rfl, rfl⟩))
  have hlen := hD3.out.len
  have hp32 := hD3.out.pos.2
  have hz := Lib.hid (show ∀ j, es.getD j 0 = 0 from fun j => by rw [hes.out, List.getD_eq_getElem?_getD, List.getElem?_replicate]; split <;> rfl)
  have hlen' := Lib.hid hlen
  clear hlen
  go_loopw [44] (fun v44 wr => ∃ i : Nat, i ≤ es.length ∧ v44 = .int .i64 (i : Int) ∧ DW wr B R d es ∧ Below w0.heap.size w0 wr) (fun v44 _ => es.length - (intOf v44).toNat)
  case atStart => exact ⟨0, Nat.zero_le _, rfl, hD3.out, hb3'⟩
  case round =>
    obtain ⟨i, hi, rfl, hDi, hBi⟩ := hrel
    have HDi := Lib.hid hDi
    clear hDi
    by_cases hlt : i < es.length
    · have hlow := Lib.hid (low_ok i d (by omega) (by rw [← hlen'.out]; exact hlt))
      have hll := lowN_lt (p := i) (d := d) (by rw [← hlen'.out]; exact hlt) (by omega)
      have hat := dat_any B R d (lowN i d) es hll wr HDi.out
      rw [show atD es d (lowN i d) = 0 by unfold atD; exact hz.out _] at hat
      replace hat := Lib.hid hat
      generalize lowN i d = l at *
      go_wp2_with (first
        | (go_at_call 50; refine (hlow.out _).mono ?_; rintro e w' ⟨rfl, rfl⟩)
        | (go_at_call 52; refine hat.out.mono ?_; rintro e w' ⟨rfl, rfl⟩))
      go_roundw
      case rel => exact ⟨i + 1, by omega, by go_num, HDi.out.below (Below.refl _ _).drew, hBi.drew⟩
      case measure => simp [intOf]; omega
    · obtain rfl : i = es.length := by omega
      go_wp2
      go_ret
      exact ⟨rfl, hBi⟩
theorem parts_facts (d k p : Nat) (hd5 : d ≤ 5) (hkd : k ≤ d) (hp : p < 2 ^ k) : ∃ y M : Nat, y = 2 ^ (d - k) ∧ M = 2 ^ k ∧ 0 < y ∧ y ≤ 32 ∧ M ≤ 32 ∧ M * y = 2 ^ d ∧ p < M ∧ p * y + y ≤ 2 ^ d := by
  have hMy : 2 ^ k * 2 ^ (d - k) = 2 ^ d := by rw [← Nat.pow_add]; congr 1; omega
  have h5 : ∀ m, m ≤ 5 → 2 ^ m ≤ 32 := fun m hm => Nat.pow_le_pow_right (by decide) hm
  exact ⟨_, _, rfl, rfl, Nat.two_pow_pos _, h5 _ (by omega), h5 _ (by omega), hMy, hp, span_le hp hkd⟩
set_option maxRecDepth 100000 in
set_option maxHeartbeats 8000000 in
theorem dirParts_main (d k p : Nat) (hd5 : d ≤ 5) (hkd : k ≤ d) (hp0 : p < 2 ^ k) (E : Nat → Addr) (w0 : World) (he : EC w0 E [1]) :
    Calls Tryd.prog 10 #[.int .i64 (d : Int), .int .i64 (p : Int), .int .i64 (k : Int)] w0 fun e w' => e = .returned (.bool true) ∧ Below w0.heap.size w0 w' := by
  have HE := Lib.hid he
  clear he
  have AL := Lib.hid (fun (w : World) h => alive16_any E w h)
  have ND := Lib.hid (fun (w : World) => dnew_ok d hd5 w)
  have LE := Lib.hid (fun (w : World) B R es h => dlen_any B R d es w h)
  have S1 := Lib.hid (fun (w : World) B R es h => dset_ok B R d p k es 9 hkd hp0 (by decide) w h)
  have SP := Lib.hid (fun (w : World) B R es (q : Nat) (hq : q < 2 ^ k) h => dspan_ok B R d q k es hkd hq w h)
  have WI := Lib.hid (fun (w : World) (i : Nat) (hi : i < 2 ^ d) => within_ok (lowN i d) p k (lowN_lt hi (by omega)) (by omega) hp0 w)
  have LT := Lib.hid (fun (i : Nat) => (low_top (i := i) (k := k) (d := d) hkd (by omega)))
  have hpk := pow_wrap k (by omega)
  obtain ⟨y, M, hy, hM, hy0, hy32, hM32, hMy, hp, hlast⟩ := parts_facts d k p hd5 hkd hp0
  rw [← hy] at S1 SP LT
  rw [← hM] at hpk SP
  have HMY := Lib.hid hMy
  have HL := Lib.hid hlast
  clear hlast hMy hy hM hp0
  go_enter Tryd.func10, Tryd.ntmps10
  go_wp2_with (first
    | (go_at_call 45; refine (AL.out _ HE.out).mono ?_; rintro e w1 ⟨rfl, hb1⟩)
    | (go_at_call 46; refine (ND.out w1).mono ?_; rintro e w2 ⟨B, R, rfl, hD, hB, hR, hb2⟩; replace hD := Lib.hid hD; have hb2' := hb1.trans (hb2.mono hb1.size))
    | (go_at_call 47; refine (S1.out _ B R _ hD.out).mono ?_; rintro e w3 ⟨rfl, h3, hc3⟩; obtain ⟨es, hes⟩ : ∃ es : List Int, es = setsL (List.replicate (2 ^ d) 0) (p * y) y 9 := ⟨_, rfl⟩; rw [← hes] at h3; replace hes := Lib.hid hes; have hD3 := Lib.hid h3; have hb3' := hb2'.trans (hc3.below hb2'.size (fun k hk e => by have := hb1.size; omega)); clear h3)
    | (go_at_call 49; refine (LE.out _ B R _ hD3.out).mono ?_; rintro e w' ⟨rfl, rfl⟩))
  have hlen := hD3.out.len
  have hp32 := hD3.out.pos.2
  have hz := Lib.hid (show ∀ j, j < es.length → es.getD j 0 = if p * y ≤ j ∧ j < p * y + y then 9 else 0 from fun j hj => by
    rw [hes.out, setsL_len, List.length_replicate] at hj
    rw [hes.out, setsL_get _ _ _ _ (by rw [List.length_replicate]; exact HL.out) _ (by rw [List.length_replicate]; exact hj)]
    congr 1
    rw [List.getD_eq_getElem?_getD, List.getElem?_replicate]
    split <;> rfl)
  have hlen' := Lib.hid hlen
  have HL2 := Lib.hid (show p * y + y ≤ es.length by rw [hlen]; exact HL.out)
  clear hlen
  go_loopw [10, 14, 44] (fun v10 v14 v44 wr => ∃ i : Nat, i ≤ es.length ∧ v44 = .int .i64 (i : Int) ∧ v10 = .int .i64 ((cntA (p * y) y i : Nat) : Int) ∧ DW wr B R d es ∧ Below w0.heap.size w0 wr) (fun _ _ v44 _ => es.length - (intOf v44).toNat)
  case atStart => exact ⟨0, Nat.zero_le _, rfl, by unfold cntA; rw [if_pos (Nat.zero_le _)]; rfl, hD3.out, hb3'⟩
  case round =>
    obtain ⟨i, hi, rfl, rfl, hDi, hBi⟩ := hrel
    have HDi := Lib.hid hDi
    clear hDi
    have hcle : cntA (p * y) y i ≤ 32 := by unfold cntA; split <;> (try split) <;> omega
    by_cases hlt : i < es.length
    · have hi2 : i < 2 ^ d := by rw [← hlen'.out]; exact hlt
      have hlow := Lib.hid (low_ok i d (by omega) hi2)
      have hll := lowN_lt (p := i) (d := d) hi2 (by omega)
      have hwi := WI.out wr i hi2
      rw [LT.out i] at hwi
      have hat := dat_any B R d (lowN i d) es hll wr HDi.out
      rw [show atD es d (lowN i d) = if p * y ≤ i ∧ i < p * y + y then 9 else 0 by unfold atD; rw [low_topD (by omega)]; exact hz.out i hlt] at hat
      have hdiv := div_in (i := i) (y := y) (p := p) hy0
      by_cases hin : p * y ≤ i ∧ i < p * y + y
      · rw [if_pos hin] at hat
        rw [decide_eq_true (hdiv.2 hin)] at hwi
        have hcn := Lib.hid (cntA_next (p * y) y i hin)
        replace hat := Lib.hid hat
        replace hwi := Lib.hid hwi
        clear hdiv hin hi2
        generalize lowN i d = l at *
        generalize cntA (p * y) y i = c at *
        go_wp2_with (first
          | (go_at_call 50; refine (hlow.out _).mono ?_; rintro e w' ⟨rfl, rfl⟩)
          | (go_at_call 51; refine hwi.out.mono ?_; rintro e w' ⟨rfl, rfl⟩)
          | (go_at_call 52; refine hat.out.mono ?_; rintro e w' ⟨rfl, rfl⟩))
        go_roundw
        case rel => exact ⟨i + 1, by omega, by go_num, by rw [hcn.out]; go_num, HDi.out.below (Below.refl _ _).drew, hBi.drew⟩
        case measure => simp [intOf]; omega
      · rw [if_neg hin] at hat
        rw [decide_eq_false (fun h => hin (hdiv.1 h))] at hwi
        have hcn := Lib.hid (cntA_same (p * y) y i hin)
        replace hat := Lib.hid hat
        replace hwi := Lib.hid hwi
        clear hdiv hin hi2
        generalize lowN i d = l at *
        generalize cntA (p * y) y i = c at *
        go_wp2_with (first
          | (go_at_call 50; refine (hlow.out _).mono ?_; rintro e w' ⟨rfl, rfl⟩)
          | (go_at_call 51; refine hwi.out.mono ?_; rintro e w' ⟨rfl, rfl⟩)
          | (go_at_call 52; refine hat.out.mono ?_; rintro e w' ⟨rfl, rfl⟩))
        go_roundw
        case rel => exact ⟨i + 1, by omega, by go_num, by rw [hcn.out], HDi.out.below (Below.refl _ _).drew, hBi.drew⟩
        case measure => simp [intOf]; omega
    · obtain rfl : i = es.length := by omega
      have hcy : cntA (p * y) y es.length = y := by have := HL2.out; unfold cntA; rw [if_neg (by omega)]; split <;> omega
      rw [hcy] at hcle ⊢
      replace hcy := Lib.hid hcy
      obtain ⟨wm, hwm⟩ : ∃ wm, wm = wr := ⟨_, rfl⟩
      rw [← hwm] at HDi hBi ⊢
      replace hwm := Lib.hid hwm
      have hmz := Lib.hid (show M * y = es.length by rw [HMY.out, ← hlen'.out])
      go_wp2
      rw [hpk]
      go_loopw [15, 79] (fun v15 v79 wr => ∃ j : Nat, j ≤ M ∧ v79 = .int .i64 (j : Int) ∧ v15 = .int .i64 ((j * y : Nat) : Int) ∧ DW wr B R d es ∧ Below w0.heap.size w0 wr) (fun _ v79 _ => M - (intOf v79).toNat)
      case atStart => exact ⟨0, Nat.zero_le _, rfl, by simp, HDi.out, hBi⟩
      case round =>
        clear HDi hBi hwm
        obtain ⟨j, hj, rfl, rfl, hDj, hBj⟩ := hrel
        have HDj := Lib.hid hDj
        clear hDj
        by_cases hlt : j < M
        · have hsp := Lib.hid (SP.out wr B R es j hlt HDj.out)
          have hjn := Lib.hid (show (j + 1) * y = j * y + y by rw [Nat.add_mul, Nat.one_mul])
          have hjb : j * y + y ≤ 32 := by
            have h1 : (j + 1) * y ≤ M * y := Nat.mul_le_mul_right _ hlt
            rw [hjn.out, hmz.out] at h1; omega
          generalize j * y = z at *
          have hzz : ((z : Int) != (z : Int)) = false := by simp
          have hzl : decide (((z + y : Nat) : Int) ≤ (z : Int)) = false := by simp; omega
          go_wp2_with (go_at_call 53; refine hsp.out.mono ?_; rintro e w' ⟨rfl, rfl⟩)
          go_roundw
          case rel => exact ⟨j + 1, by omega, by go_num, by rw [hjn.out]; first | rfl | go_num, HDj.out.below (Below.refl _ _).drew, hBj.drew⟩
          case measure => simp [intOf]; omega
        · obtain rfl : j = M := by omega
          rw [hmz.out]
          have hLE := Lib.hid (LE.out wr B R es HDj.out)
          have hyy : ((y : Int) == (y : Int)) = true := by simp
          have hee : ((es.length : Int) == (es.length : Int)) = true := by simp
          go_wp2_with (go_at_call 49; refine hLE.out.mono ?_; rintro e w' ⟨rfl, rfl⟩)
          go_ret
          exact ⟨rfl, hBj⟩
theorem dirParts_any (depth p k : Int) (E : Nat → Addr) (w0 : World) (he : EC w0 E [1]) :
    Calls Tryd.prog 10 #[.int .i64 depth, .int .i64 p, .int .i64 k] w0 fun e w' => e = .returned (.bool true) ∧ Below w0.heap.size w0 w' := by
  by_cases hd : depth < 0 ∨ 5 < depth
  · exact dirParts_bad depth p k hd E w0 he
  obtain ⟨d, rfl⟩ : ∃ d : Nat, depth = (d : Int) := ⟨depth.toNat, by omega⟩
  by_cases q1 : (d : Int) < k
  · exact dirParts_err d (by omega) p k (.inl q1) E w0 he
  by_cases q2 : Pre p k
  · obtain ⟨⟨k0, k1⟩, p0, p1⟩ := q2
    obtain ⟨m, rfl⟩ : ∃ m : Nat, k = (m : Int) := ⟨k.toNat, by omega⟩
    obtain ⟨q, rfl⟩ : ∃ q : Nat, p = (q : Int) := ⟨p.toNat, by omega⟩
    exact dirParts_main d m q (by omega) (by omega) (by simpa using Int.ofNat_lt.1 p1) E w0 he
  · exact dirParts_err d (by omega) p k (.inr q2) E w0 he
end Go.Proofs.YtaegjdkmnkjggaaDoor
