/- The walk of DirHalves. Condition: the error's cell. -/
import Derived.Test.YtaegjdkmnkjggaaDoorDir
import Derived.Deep.Cut
namespace Go.Proofs.YtaegjdkmnkjggaaDoor
set_option linter.unusedVariables false
set_option linter.unusedSimpArgs false
open Go.RowKit Go.Proofs

theorem readsInts_gives {w : World} {a : Option Addr} {base cap : Nat} {xs : List Int} (h : w.ownsRow base 3 1 (.slice a xs.length cap) xs.length (xs.map (Value.int .i64))) : ReadsInts w (.slice a xs.length cap) xs := readsInts_own h
set_option maxRecDepth 100000 in
set_option maxHeartbeats 1600000 in
theorem alive16_any (E : Nat → Addr) (w : World) (he : EC w E [1]) :
    Calls Tryd.prog 45 #[] w fun e w' => e = .returned (.bool true) ∧ Below w.heap.size w w' := by
  clear he
  have LI := Lib.hid (fun (w : World) B R (h : DW w B R 2 [0, 0, 7, 7]) => dlist_any B R 2 [0, 0, 7, 7] w h)
  go_enter Tryd.func45, Tryd.ntmps45
  go_wp2_with (first
    | (go_at_call 46; refine (dnew_ok 2 (by decide) _).mono ?_; rintro e w1 ⟨B, R, rfl, h, hB, hR, hb1⟩; have hD := Lib.hid (show DW w1 B R 2 [0, 0, 0, 0] from h); clear h)
    | (go_at_call 47; refine (dset_ok B R 2 1 1 [0, 0, 0, 0] 7 (by decide) (by decide) (by decide) _ hD.out).mono ?_; rintro e w2 ⟨rfl, h2, hc2⟩; have hD2 := Lib.hid (show DW w2 B R 2 [0, 0, 7, 7] from h2); have hb2 := hb1.trans (hc2.below hb1.size (fun k hk e => by omega)); clear h2)
    | (go_at_call 48; refine (LI.out _ B R hD2.out).mono ?_; rintro e w3 ⟨a3, c3, rfl, hr, hb3⟩; have hr3 := Lib.hid (readsInts_gives hr); clear hr)
    | (go_at_call 20; refine (sameInts_any _ _ [0, 0, 7, 7] [0, 0, 7, 7] _ (hr3.out.later (by go_grown)) (readsInts_blk (B := w3.heap.size) (xs := [0, 0, 7, 7]) (Blk.new _ _ _) rfl) (by decide)).mono ?_; rintro e w' ⟨rfl, rfl⟩))
  go_ret
  exact ⟨rfl, Below.trans (hb2.trans (hb3.mono hb2.size)) (by have := hb2.size; have := hb3.size; exact (Below.refl _ _).alloc (by omega) _)⟩
theorem list_ext_getD {xs ys : List Int} (hl : xs.length = ys.length) (h : ∀ j, j < xs.length → xs.getD j 0 = ys.getD j 0) : xs = ys := by
  apply List.ext_getElem hl
  intro j h1 h2
  have := h j h1
  simpa [List.getD_eq_getElem?_getD, List.getElem?_eq_getElem h1, List.getElem?_eq_getElem h2] using this
theorem setsL_halves (es : List Int) (p h : Nat) (x : Int) (hb : (2 * p + 2) * h ≤ es.length) : setsL (setsL es ((2 * p) * h) h x) ((2 * p + 1) * h) h x = setsL es (p * (2 * h)) (2 * h) x := by
  have e1 : (2 * p) * h = p * (2 * h) := by rw [Nat.mul_comm 2 p, Nat.mul_assoc]
  have e2 : (2 * p + 1) * h = p * (2 * h) + h := by rw [Nat.add_mul, e1, Nat.one_mul]
  have e3 : (2 * p + 2) * h = p * (2 * h) + 2 * h := by rw [Nat.add_mul, e1]
  rw [e1, e2]
  rw [e3] at hb
  generalize p * (2 * h) = a at *
  apply list_ext_getD (by simp [setsL_len])
  intro j hj
  simp only [setsL_len] at hj
  rw [setsL_get _ _ _ _ (by rw [setsL_len]; omega) _ (by rw [setsL_len]; omega), setsL_get _ _ _ _ (by omega) _ hj, setsL_get _ _ _ _ (by omega) _ hj]
  by_cases c1 : a + h ≤ j ∧ j < a + h + h
  · rw [if_pos c1, if_pos (by omega)]
  · rw [if_neg c1]
    by_cases c2 : a ≤ j ∧ j < a + h
    · rw [if_pos c2, if_pos (by omega)]
    · rw [if_neg c2, if_neg (by omega)]
/-- the first k prefixes of y entries each are numbered -/
def NumD (es : List Int) (y k : Nat) : Prop := ∀ j, j < k * y → es.getD j 0 = 100 + ((j / y : Nat) : Int)
theorem numD_next {es : List Int} {y k : Nat} (hy : 0 < y) (h : NumD es y k) (hb : k * y + y ≤ es.length) : NumD (setsL es (k * y) y (100 + (k : Int))) y (k + 1) := by
  intro j hj
  rw [Nat.add_mul, Nat.one_mul] at hj
  rw [setsL_get _ _ _ _ hb _ (by omega)]
  by_cases c : k * y ≤ j ∧ j < k * y + y
  · rw [if_pos c]
    have : j / y = k := by
      apply Nat.div_eq_of_lt_le
      · exact c.1
      · rw [Nat.add_mul, Nat.one_mul]; exact c.2
    rw [this]
  · rw [if_neg c]; exact h j (by omega)
theorem dnew_badI (a : Int) (ha : a < 0 ∨ 5 < a) (E : Nat → Addr) (w : World) (he : EC w E [1]) :
    Calls Tryd.prog 46 #[.int .i64 a] w fun e w' => e = .returned (.tuple #[.pointer none, .iface 150 (.pointer (some (E 1)))]) ∧ Below w.heap.size w w' := dnew_bad a ha E w he
set_option maxRecDepth 100000 in
set_option maxHeartbeats 4000000 in
theorem dirHalves_bad (depth prefix' deep : Int) (hd : depth < 0 ∨ 5 < depth) (E : Nat → Addr) (w0 : World) (he : EC w0 E [1]) :
    Calls Tryd.prog 9 #[.int .i64 depth, .int .i64 prefix', .int .i64 deep] w0 fun e w' => e = .returned (.bool true) ∧ Below w0.heap.size w0 w' := by
  have HE := Lib.hid he
  clear he
  have AL := Lib.hid (fun (w : World) h => alive16_any E w h)
  have NB := Lib.hid (fun (w : World) h => dnew_badI depth hd E w h)
  clear hd
  go_enter Tryd.func9, Tryd.ntmps9
  go_wp2_with (first
    | (go_at_call 45; refine (AL.out _ HE.out).mono ?_; rintro e w1 ⟨rfl, hb1⟩)
    | (go_at_call 46; refine (NB.out w2 (HE.out.below hb2')).mono ?_; rintro e w3 ⟨rfl, hb3⟩)
    | (go_at_call 46; refine (NB.out w1 (HE.out.below hb1)).mono ?_; rintro e w2 ⟨rfl, hb2⟩; have hb2' := hb1.trans (hb2.mono hb1.size)))
  go_ret
  exact ⟨rfl, hb2'.trans (hb3.mono hb2'.size)⟩
set_option maxRecDepth 100000 in
set_option maxHeartbeats 4000000 in
theorem dirHalves_early (d : Nat) (hd5 : d ≤ 5) (prefix' deep : Int) (hq : deep < 0 ∨ (d : Int) ≤ deep ∨ prefix' < 0 ∨ ∃ k : Nat, deep = (k : Int) ∧ k ≤ 16 ∧ ((2 ^ k : Nat) : Int) ≤ prefix') (E : Nat → Addr) (w0 : World) (he : EC w0 E [1]) :
    Calls Tryd.prog 9 #[.int .i64 (d : Int), .int .i64 prefix', .int .i64 deep] w0 fun e w' => e = .returned (.bool true) ∧ Below w0.heap.size w0 w' := by
  have HE := Lib.hid he
  clear he
  have AL := Lib.hid (fun (w : World) h => alive16_any E w h)
  have ND := Lib.hid (fun (w : World) => dnew_ok d hd5 w)
  by_cases q1 : deep < 0
  · have e1 : decide (deep < 0) = true := by simpa using q1
    clear hq
    go_enter Tryd.func9, Tryd.ntmps9
    go_wp2_with (first
      | (go_at_call 45; refine (AL.out _ HE.out).mono ?_; rintro e w1 ⟨rfl, hb1⟩)
      | (go_at_call 46; refine (ND.out w2).mono ?_; rintro e w3 ⟨B2, R2, rfl, hDb, hB2, hR2, hb3⟩; replace hDb := Lib.hid hDb)
      | (go_at_call 46; refine (ND.out w1).mono ?_; rintro e w2 ⟨B1, R1, rfl, hDa, hB1, hR1, hb2⟩; replace hDa := Lib.hid hDa))
    go_ret
    exact ⟨rfl, (hb1.trans (hb2.mono hb1.size)).trans (hb3.mono (Nat.le_trans hb1.size hb2.size))⟩
  have e1 : decide (deep < 0) = false := by simpa using q1
  by_cases q2 : (d : Int) ≤ deep
  · have e2 : decide (deep ≥ (d : Int)) = true := by simpa using q2
    clear hq
    go_enter Tryd.func9, Tryd.ntmps9
    go_wp2_with (first
      | (go_at_call 45; refine (AL.out _ HE.out).mono ?_; rintro e w1 ⟨rfl, hb1⟩)
      | (go_at_call 46; refine (ND.out w2).mono ?_; rintro e w3 ⟨B2, R2, rfl, hDb, hB2, hR2, hb3⟩; replace hDb := Lib.hid hDb)
      | (go_at_call 46; refine (ND.out w1).mono ?_; rintro e w2 ⟨B1, R1, rfl, hDa, hB1, hR1, hb2⟩; replace hDa := Lib.hid hDa))
    go_ret
    exact ⟨rfl, (hb1.trans (hb2.mono hb1.size)).trans (hb3.mono (Nat.le_trans hb1.size hb2.size))⟩
  have e2 : decide (deep ≥ (d : Int)) = false := by simpa using q2
  by_cases q3 : prefix' < 0
  · have e3 : decide (prefix' < 0) = true := by simpa using q3
    clear hq
    go_enter Tryd.func9, Tryd.ntmps9
    go_wp2_with (first
      | (go_at_call 45; refine (AL.out _ HE.out).mono ?_; rintro e w1 ⟨rfl, hb1⟩)
      | (go_at_call 46; refine (ND.out w2).mono ?_; rintro e w3 ⟨B2, R2, rfl, hDb, hB2, hR2, hb3⟩; replace hDb := Lib.hid hDb)
      | (go_at_call 46; refine (ND.out w1).mono ?_; rintro e w2 ⟨B1, R1, rfl, hDa, hB1, hR1, hb2⟩; replace hDa := Lib.hid hDa))
    go_ret
    exact ⟨rfl, (hb1.trans (hb2.mono hb1.size)).trans (hb3.mono (Nat.le_trans hb1.size hb2.size))⟩
  have e3 : decide (prefix' < 0) = false := by simpa using q3
  obtain ⟨k, rfl, hk, hp⟩ : ∃ k : Nat, deep = (k : Int) ∧ k ≤ 16 ∧ ((2 ^ k : Nat) : Int) ≤ prefix' := by
    rcases hq with h | h | h | h
    · exact absurd h q1
    · exact absurd h q2
    · exact absurd h q3
    · exact h
  have hpk := pow_wrap k hk
  have e4 : decide (prefix' ≥ ((2 ^ k : Nat) : Int)) = true := decide_eq_true hp
  have hMn : 2 ^ k ≤ 65536 := pow_le16 hk
  generalize 2 ^ k = M at *
  clear hq
  go_enter Tryd.func9, Tryd.ntmps9
  go_wp2_with (first
    | (go_at_call 45; refine (AL.out _ HE.out).mono ?_; rintro e w1 ⟨rfl, hb1⟩)
    | (go_at_call 46; refine (ND.out w2).mono ?_; rintro e w3 ⟨B2, R2, rfl, hDb, hB2, hR2, hb3⟩; replace hDb := Lib.hid hDb)
    | (go_at_call 46; refine (ND.out w1).mono ?_; rintro e w2 ⟨B1, R1, rfl, hDa, hB1, hR1, hb2⟩; replace hDa := Lib.hid hDa))
  go_ret
  exact ⟨rfl, (hb1.trans (hb2.mono hb1.size)).trans (hb3.mono (Nat.le_trans hb1.size hb2.size))⟩
theorem halves_facts (d k p : Nat) (hd5 : d ≤ 5) (hkd : k < d) (hp : p < 2 ^ k) : ∃ h y M : Nat, h = 2 ^ (d - (k + 1)) ∧ y = 2 ^ (d - k) ∧ M = 2 ^ k ∧ y = 2 * h ∧ 0 < h ∧ y ≤ 32 ∧ M ≤ 32 ∧ M * y = 2 ^ d ∧ p < M ∧ (2 * p + 2) * h ≤ 2 ^ d := by
  have hyh : 2 ^ (d - k) = 2 * 2 ^ (d - (k + 1)) := by rw [show d - k = d - (k + 1) + 1 by omega, Nat.pow_succ, Nat.mul_comm]
  have hMy : 2 ^ k * 2 ^ (d - k) = 2 ^ d := by rw [← Nat.pow_add]; congr 1; omega
  have h5 : ∀ m, m ≤ 5 → 2 ^ m ≤ 32 := fun m hm => Nat.pow_le_pow_right (by decide) hm
  refine ⟨_, _, _, rfl, rfl, rfl, hyh, Nat.two_pow_pos _, h5 _ (by omega), h5 _ (by omega), hMy, hp, ?_⟩
  rw [← hMy, hyh, show 2 * p + 2 = (p + 1) * 2 by omega, Nat.mul_assoc]
  exact Nat.mul_le_mul_right _ hp
set_option maxRecDepth 100000 in
set_option maxHeartbeats 8000000 in
theorem dirHalves_main (d k p : Nat) (hd5 : d ≤ 5) (hkd : k < d) (hp0 : p < 2 ^ k) (E : Nat → Addr) (w0 : World) (he : EC w0 E [1]) :
    Calls Tryd.prog 9 #[.int .i64 (d : Int), .int .i64 (p : Int), .int .i64 (k : Int)] w0 fun e w' => e = .returned (.bool true) ∧ Below w0.heap.size w0 w' := by
  have HE := Lib.hid he
  clear he
  have AL := Lib.hid (fun (w : World) h => alive16_any E w h)
  have ND := Lib.hid (fun (w : World) => dnew_ok d hd5 w)
  have LIa := Lib.hid (fun (w : World) B R es h => dlist_any B R d es w h)
  have S1 := Lib.hid (fun (w : World) B R es h => dset_ok B R d p k es 7 (Nat.le_of_lt hkd) hp0 (by decide) w h)
  have S2 := Lib.hid (fun (w : World) B R es h => dset_ok B R d (2 * p) (k + 1) es 7 hkd (by rw [Nat.pow_succ]; omega) (by decide) w h)
  have S3 := Lib.hid (fun (w : World) B R es h => dset_ok B R d (2 * p + 1) (k + 1) es 7 hkd (by rw [Nat.pow_succ]; omega) (by decide) w h)
  have S4 := Lib.hid (fun (w : World) B R es (i : Nat) (hi : i < 2 ^ k) h => dset_ok B R d i k es (100 + (i : Int)) (Nat.le_of_lt hkd) hi (by omega) w h)
  have QR := Lib.hid (fun (j : Nat) => (show (j : Int) / 2 ^ (d - k) = ((j / 2 ^ (d - k) : Nat) : Int) by simp))
  have hpk := pow_wrap k (by omega)
  rw [show ((2 * p : Nat) : Int) = 2 * (p : Int) by simp, show ((k + 1 : Nat) : Int) = (k : Int) + 1 by simp] at S2
  rw [show ((2 * p + 1 : Nat) : Int) = 2 * (p : Int) + 1 by simp, show ((k + 1 : Nat) : Int) = (k : Int) + 1 by simp] at S3
  obtain ⟨h, y, M, hh, hy, hM, hyh, hh0, hy32, hM32, hMy, hp, hlast⟩ := halves_facts d k p hd5 hkd hp0
  have HV := Lib.hid (fun (es : List Int) (hl : es.length = 2 ^ d) => setsL_halves es p h 7 (by rw [hl]; exact hlast))
  rw [← hyh] at HV
  rw [← hh] at S2 S3
  rw [← hy] at S1 S4 QR
  rw [← hM] at hpk S4
  have HMY := Lib.hid hMy
  have HYd := Lib.hid hy
  have HP2 := Lib.hid hpk
  clear hlast hMy hh hy hM hp0
  have hnn : ((y : Int) != (h : Int) + (h : Int)) = false := by simp; omega
  have hn2 : ((h : Int) != (h : Int)) = false := by simp
  have hh32 : h ≤ 32 := by omega
  replace hyh := Lib.hid hyh
  have hpi : (p : Int) < (M : Int) := by omega
  have hki : (k : Int) < (d : Int) := by omega
  have e1 : decide ((k : Int) < 0) = false := by simp
  have e2 : decide ((k : Int) ≥ (d : Int)) = false := by simp; omega
  have e3 : decide ((p : Int) < 0) = false := by simp
  have e4 : decide ((p : Int) ≥ (M : Int)) = false := by simp; omega
  go_enter Tryd.func9, Tryd.ntmps9
  go_upto_region 14 with (first
    | (go_at_call 45; refine (AL.out _ HE.out).mono ?_; rintro e w1 ⟨rfl, hb1⟩)
    | (go_at_call 46; refine (ND.out w2).mono ?_; rintro e w3 ⟨B2, R2, rfl, hDb, hB2, hR2, hb3⟩; replace hDb := Lib.hid hDb; have hza := hDa.out.head.lt; have hzr := hDa.out.ring.lt; have hDa3 := Lib.hid (hDa.out.below hb3); have hb3' := hb2'.trans (hb3.mono hb2'.size))
    | (go_at_call 46; refine (ND.out w1).mono ?_; rintro e w2 ⟨B1, R1, rfl, hDa, hB1, hR1, hb2⟩; replace hDa := Lib.hid hDa; have hb2' := hb1.trans (hb2.mono hb1.size))
    | (go_at_call 47; refine (S3.out _ B2 R2 _ hDb5.out).mono ?_; rintro e w6 ⟨rfl, h6, hc6⟩; have hDb6 := Lib.hid h6; have hDa6 := Lib.hid (hDa5.out.chg hc6 (by omega) (by omega)); have hb6' := hb5'.trans (hc6.below hb5'.size (fun k hk e => by have := hb1.size; have := hb2.size; omega)); clear h6)
    | (go_at_call 47; refine (S2.out _ B2 R2 _ hDb4.out).mono ?_; rintro e w5 ⟨rfl, h5, hc5⟩; have hDb5 := Lib.hid h5; have hDa5 := Lib.hid (hDa4.out.chg hc5 (by omega) (by omega)); have hb5' := hb4'.trans (hc5.below hb4'.size (fun k hk e => by have := hb1.size; have := hb2.size; omega)); clear h5)
    | (go_at_call 47; refine (S1.out _ B1 R1 _ hDa3.out).mono ?_; rintro e w4 ⟨rfl, h4, hc4⟩; have hDa4 := Lib.hid h4; have hDb4 := Lib.hid (hDb.out.chg hc4 (by omega) (by omega)); have hb4' := hb3'.trans (hc4.below hb3'.size (fun k hk e => by have := hb1.size; omega)); clear h4)
    | (go_at_call 48; refine (LIa.out _ B2 R2 _ (hDb6.out.below hb7)).mono ?_; rintro e w8 ⟨a8, c8, rfl, hr, hb8⟩; rw [HV.out _ (by simp)] at hr ⊢; have hr8 := Lib.hid (readsInts_gives hr); clear hr)
    | (go_at_call 48; refine (LIa.out _ B1 R1 _ hDa6.out).mono ?_; rintro e w7 ⟨a7, c7, rfl, hr, hb7⟩; have hr7 := Lib.hid (readsInts_gives hr); clear hr)
    | (go_at_call 20; refine (sameInts_any _ _ _ _ _ (hr7.out.later hb8) hr8.out (by have := hDa6.out.pos; omega)).mono ?_; simp only [decide_true]; rintro e w' ⟨rfl, rfl⟩))
  have hB8 : Below w0.heap.size w0 w8 := hb6'.trans ((hb7.trans (hb8.mono hb7.size)).mono hb6'.size)
  have hDa8 := Lib.hid (hDa6.out.below (hb7.trans (hb8.mono hb7.size)))
  have hRz : w0.heap.size ≤ R1 := by have := hb1.size; omega
  clear hb1 hb2 hb2' hb3 hb3' hb4' hb5' hb6' hb7 hb8 hc4 hc5 hc6 hDa hDb hDa3 hDb4 hDa4 hDa5 hDb5 hDa6 hDb6 hr7 hr8 S1 S2 S3 HV
  go_wp2
  rw [hpk]
  go_loopw [127] (fun v127 wr => ∃ (i : Nat) (es : List Int), i ≤ M ∧ v127 = .int .i64 (i : Int) ∧ DW wr B1 R1 d es ∧ NumD es y i ∧ Below w0.heap.size w0 wr) (fun v127 _ => M - (intOf v127).toNat)
  case atStart => exact ⟨0, _, Nat.zero_le _, rfl, hDa8.out, fun j hj => by simp at hj, hB8⟩
  case round =>
    obtain ⟨i, es, hi, rfl, hD, hN, hB⟩ := hrel
    have HD := Lib.hid hD
    have HN := Lib.hid hN
    have hlen := Lib.hid hD.len
    clear hD hN
    by_cases hlt : i < M
    · have hlt' : (i : Int) < (M : Int) := by omega
      go_wp2_with (go_at_call 47; refine (S4.out _ B1 R1 es i hlt HD.out).mono ?_; rintro e w9 ⟨rfl, h9, hc9⟩; replace h9 := Lib.hid h9)
      have hroom := Lib.hid (show i * y + y ≤ es.length by rw [hlen.out, ← HMY.out]; calc i * y + y = (i + 1) * y := by rw [Nat.add_mul, Nat.one_mul]
        _ ≤ M * y := Nat.mul_le_mul_right _ hlt)
      go_roundw
      case rel => exact ⟨i + 1, _, by omega, by go_num, h9.out, numD_next (by have := hyh.out; omega) HN.out hroom.out, hB.trans (hc9.below hB.size (fun b hb e => by omega))⟩
      case measure => simp [intOf]; omega
    · obtain rfl : i = M := by omega
      have hLI := Lib.hid (LIa.out wr B1 R1 es HD.out)
      have hel := Lib.hid (HD.out.pos)
      have hle : es.length ≤ 32 := hel.out.2
      go_wp2_with (go_at_call 48; refine hLI.out.mono ?_; rintro e w9 ⟨a9, c9, rfl, hr, hb9⟩; have hr9 := Lib.hid (readsInts_gives hr); clear hr)
      go_loop [145] (fun v145 => ∃ j : Nat, j ≤ es.length ∧ v145 = .int .i64 (j : Int)) (fun v145 => es.length - (intOf v145).toNat)
      case atStart => exact ⟨0, Nat.zero_le _, rfl⟩
      case round =>
        obtain ⟨j, hj, rfl⟩ := hrel
        by_cases hlt : j < es.length
        · obtain ⟨-, hx⟩ := hr9.out.opened
          obtain ⟨b, off, rfl, hcx⟩ := hx (fun e => by rw [e] at hlt; simp at hlt)
          have hcell := hcx j hlt
          have hge := HN.out j (by rw [HMY.out, ← hlen.out]; exact hlt)
          rw [List.getD_eq_getElem?_getD, List.getElem?_eq_getElem hlt, Option.getD_some] at hge
          rw [hge] at hcell
          have hq := QR.out j
          have hzj : j / y ≤ j := Nat.div_le_self _ _
          generalize j / y = z at *
          have hee : ((100 : Int) + (z : Int) != (100 : Int) + (z : Int)) = false := by simp
          have hsub : (d : Int) - (k : Int) = ((d - k : Nat) : Int) := by omega
          clear hx hcx hge
          go_wp2
          go_round
          case rel => exact ⟨j + 1, by omega, by go_num⟩
          case measure => simp [intOf]; omega
        · obtain rfl : j = es.length := by omega
          go_wp2
          go_ret
          exact ⟨rfl, hB.trans (hb9.mono hB.size)⟩
theorem dirHalves_any (depth prefix' deep : Int) (E : Nat → Addr) (w0 : World) (he : EC w0 E [1]) :
    Calls Tryd.prog 9 #[.int .i64 depth, .int .i64 prefix', .int .i64 deep] w0 fun e w' => e = .returned (.bool true) ∧ Below w0.heap.size w0 w' := by
  by_cases hd : depth < 0 ∨ 5 < depth
  · exact dirHalves_bad depth prefix' deep hd E w0 he
  obtain ⟨d, rfl⟩ : ∃ d : Nat, depth = (d : Int) := ⟨depth.toNat, by omega⟩
  by_cases q1 : deep < 0
  · exact dirHalves_early d (by omega) prefix' deep (.inl q1) E w0 he
  by_cases q2 : (d : Int) ≤ deep
  · exact dirHalves_early d (by omega) prefix' deep (.inr (.inl q2)) E w0 he
  by_cases q3 : prefix' < 0
  · exact dirHalves_early d (by omega) prefix' deep (.inr (.inr (.inl q3))) E w0 he
  obtain ⟨k, rfl⟩ : ∃ k : Nat, deep = (k : Int) := ⟨deep.toNat, by omega⟩
  obtain ⟨p, rfl⟩ : ∃ p : Nat, prefix' = (p : Int) := ⟨prefix'.toNat, by omega⟩
  by_cases q4 : 2 ^ k ≤ p
  · exact dirHalves_early d (by omega) _ _ (.inr (.inr (.inr ⟨k, rfl, by omega, Int.ofNat_le.2 q4⟩))) E w0 he
  · exact dirHalves_main d k p (by omega) (by omega) (by omega) E w0 he
end Go.Proofs.YtaegjdkmnkjggaaDoor
