/- Texts joined: TableActs. No condition but those that stand within. -/
import Derived.Test.YtannohinhlefaaaGreatDoorPkSwar
import Derived.Test.YtannohinhlefaaaGreatDoorPkMeter
import Derived.Test.YtannohinhlefaaaGreatDoorPkErrs
import Derived.Test.YtannohinhlefaaaGreatDoorPkGroup
import Derived.Test.YtannohinhlefaaaGreatDoorPkTab
import Derived.Test.YtannohinhlefaaaGreatDoorPkTab2
import Derived.Test.YtannohinhlefaaaGreatDoorPkTab3
import Derived.Test.YtannohinhlefaaaGreatDoorPkTake
import Derived.Test.YtannohinhlefaaaGreatDoorPkTabM
import Derived.Test.YtannohinhlefaaaGreatDoorPkEvac
import Derived.Test.YtannohinhlefaaaGreatDoorPkSound
import Derived.Test.YtannohinhlefaaaGreatDoorPkRef09
import Derived.Test.YtannohinhlefaaaGreatDoorPkEvac2
import Derived.Test.YtannohinhlefaaaGreatDoorPkEvac3
import Derived.Test.YtannohinhlefaaaGreatDoorPkSound2
import Derived.Test.YtannohinhlefaaaGreatDoorPkSound3
import Derived.Test.YtannohinhlefaaaGreatDoorPkActs
set_option linter.unusedVariables false
set_option linter.unusedSimpArgs false
namespace Go.Proofs.YtannohinhlefaaaGreatDoor
open Go.RowKit Go.Proofs
attribute [local go_sem] neq_nilG eql_nilG nilT
theorem AW.made {w w0 : World} {p : PB} {M : Nat} {T : TabS} {L : Int} {E : Nat → Addr} (h : PR w p T T L E w0) (hM : Blk w M 38 MeterS.zero.cells) (hm : p.hi ≤ M) : AW w p M T T 0 L E w0 := by
  have hb := h.b
  have ho := h.o
  exact ⟨TMW.meter h.t hM (by omega) (by omega) (by omega), h.d, hb, ⟨ho.1, ho.2, hm⟩, hM.lt⟩
theorem pmS_cnt : ∀ k : Nat, k ≤ 1000000 → (pmS k).a0 = (k : Int) ∧ (pmS k).a1 = 0 ∧ (pmS k).a2 = 0
  | 0, _ => ⟨rfl, rfl, rfl⟩
  | k + 1, h => by
    obtain ⟨h0, h1, h2⟩ := pmS_cnt k (by omega)
    refine ⟨?_, ?_, ?_⟩
    · show sumZ (pmS k).a0 1 = _
      rw [h0, sumZ_add (by omega) (by decide) (by omega)]; omega
    · show sumZ (pmS k).a1 0 = _
      rw [h1]; rfl
    · show sumZ (pmS k).a2 0 = _
      rw [h2]; rfl
section
variable {w w' w0 : World} {p : PB} {M : Nat} {T : TabS} {k : Nat} {L : Int} {E : Nat → Addr}
theorem AW.len (h : AW w p M T T k L E w0) : Calls Tryz.prog 12 #[.pointer (some ⟨p.B, 0, none⟩)] w fun e w' => e = .returned (.int .i64 T.lv) ∧ w = w' := h.t.len
theorem AW.tombs (h : AW w p M T T k L E w0) : Calls Tryz.prog 14 #[.pointer (some ⟨p.B, 0, none⟩)] w fun e w' => e = .returned (.int .i64 T.tb) ∧ w = w' := h.t.tombs
theorem AW.groups (h : AW w p M T T k L E w0) : Calls Tryz.prog 17 #[.pointer (some ⟨p.B, 0, none⟩)] w fun e w' => e = .returned (.int .i64 (T.n : Int)) ∧ w = w' := h.t.groups
theorem AW.left (h : AW w p M T T k L E w0) : Calls Tryz.prog 15 #[.pointer (some ⟨p.B, 0, none⟩)] w fun e w' => e = .returned (.int .i64 T.left) ∧ Below w.heap.size w w' := h.t.left
theorem AW.left2 (h : AW w p M T T k L E w0) : Calls Tryz.prog 16 #[.pointer (some ⟨p.D, 0, none⟩)] w fun e w' => e = .returned (.int .i64 T.left) ∧ Below w.heap.size w w' := by
  obtain ⟨P, cap, GB, hd⟩ := h.d
  exact dtleft_any hd
theorem AW.cnt3 (h : AW w p M T T k L E w0) : Calls Tryz.prog 13 #[.pointer (some ⟨p.D, 0, none⟩), .int .i64 3] w fun e w' => e = .returned (.int .i64 T.lv) ∧ Below w.heap.size w w' := by
  obtain ⟨P, cap, GB, hd⟩ := h.d
  have := dtcount_any hd 3
  rw [← h.t.good.lv] at this
  exact this
theorem AW.cnt2 (h : AW w p M T T k L E w0) : Calls Tryz.prog 13 #[.pointer (some ⟨p.D, 0, none⟩), .int .i64 2] w fun e w' => e = .returned (.int .i64 T.tb) ∧ Below w.heap.size w w' := by
  obtain ⟨P, cap, GB, hd⟩ := h.d
  have := dtcount_any hd 2
  rw [← h.t.good.tb] at this
  exact this
theorem AW.all (h : AW w p M T T k L E w0) (hk : k ≤ 1000000) : Calls Tryz.prog 18 #[.pointer (some ⟨M, 0, none⟩)] w fun e w' => e = .returned (.agg #[.int .i64 (k : Int), .int .i64 0, .int .i64 0]) ∧ Below w.heap.size w w' := by
  have := meterAll_any (pmS k) M _ w (h.t.m M rfl)
  rw [(pmS_cnt k hk).1, (pmS_cnt k hk).2.1, (pmS_cnt k hk).2.2] at this
  exact this
theorem AW.text (h : AW w p M T T k L E w0) : Calls Tryz.prog 20 #[.pointer (some ⟨p.B, 0, none⟩)] w fun e w' => ∃ v, e = .returned v ∧ ReadsTexts w' v T.texts ∧ Below w.heap.size w w' := h.t.text
theorem AW.text2 (h : AW w p M T T k L E w0) : Calls Tryz.prog 21 #[.pointer (some ⟨p.D, 0, none⟩)] w fun e w' => ∃ v, e = .returned v ∧ ReadsTexts w' v T.texts ∧ Below w.heap.size w w' := h.d.text
theorem AW.looks (h : AW w p M T T k L E w0) : w.cell? ⟨p.D, 1, none⟩ = some (.int .i64 L) ∧ p.D < w.heap.size := by
  obtain ⟨P, cap, GB, hd⟩ := h.d
  exact ⟨(dcells hd).2.1, (dcells hd).2.2.1⟩
end
set_option maxRecDepth 100000 in
set_option maxHeartbeats 16000000 in
theorem tableActs_long (n : Int) (a1 a2 : Option Addr) (n1 n2 cap1 cap2 : Nat) (E : Nat → Addr) (w0 : World) (he : ErrsAre w0 E) (hT : Tab64 w0) (m1 : n1 ≤ maxLen) (m2 : n2 ≤ maxLen)
    (hg : n1 < 1 ∨ 100 < n1 ∨ 150 < n2 ∨ 16 < n ∧ n ≤ 64) :
    Calls Tryz.prog 3 #[.int .i64 n, .slice a1 n1 cap1, .slice a2 n2 cap2] w0 fun e w' => e = .returned (.bool true) ∧ Below w0.heap.size w0 w' := by
  unfold maxLen at m1 m2
  have AL := Lib.hid (alive09_any E w0 he hT)
  clear he hT
  by_cases g1 : n1 < 1
  · have d1 : decide ((n1 : Int) < 1) = true := by rw [decide_eq_true_iff]; omega
    have d1' : (n1 : Int) < 1 := by omega
    clear hg g1
    go_enter Tryz.func3, Tryz.ntmps3
    go_wp2_with (go_at_call 5; (with_reducible refine AL.out.mono ?_); rintro e w1 ⟨rfl, hb1⟩)
    go_ret
    exact ⟨rfl, hb1⟩
  have d1 : decide ((n1 : Int) < 1) = false := by rw [decide_eq_false_iff_not]; omega
  have d1' : ¬ (n1 : Int) < 1 := by omega
  by_cases g2 : 100 < n1
  · have d2 : decide ((n1 : Int) > 100) = true := by rw [decide_eq_true_iff]; omega
    have d2' : (100 : Int) < (n1 : Int) := by omega
    clear hg g1 g2
    go_enter Tryz.func3, Tryz.ntmps3
    go_wp2_with (go_at_call 5; (with_reducible refine AL.out.mono ?_); rintro e w1 ⟨rfl, hb1⟩)
    go_ret
    exact ⟨rfl, hb1⟩
  have d2 : decide ((n1 : Int) > 100) = false := by rw [decide_eq_false_iff_not]; omega
  have d2' : ¬ (100 : Int) < (n1 : Int) := by omega
  by_cases g3 : 150 < n2
  · have d3 : decide ((n2 : Int) > 150) = true := by rw [decide_eq_true_iff]; omega
    have d3' : (150 : Int) < (n2 : Int) := by omega
    clear hg g1 g2 g3
    go_enter Tryz.func3, Tryz.ntmps3
    go_wp2_with (go_at_call 5; (with_reducible refine AL.out.mono ?_); rintro e w1 ⟨rfl, hb1⟩)
    go_ret
    exact ⟨rfl, hb1⟩
  have d3 : decide ((n2 : Int) > 150) = false := by rw [decide_eq_false_iff_not]; omega
  have d3' : ¬ (150 : Int) < (n2 : Int) := by omega
  have g4 : 16 < n ∧ n ≤ 64 := by omega
  have d4 : decide (n > 16) = true := decide_eq_true g4.1
  have d5 : decide (n ≤ 64) = true := decide_eq_true g4.2
  have d4' := g4.1
  have d5' := g4.2
  clear hg g1 g2 g3 g4
  go_enter Tryz.func3, Tryz.ntmps3
  go_wp2_with (go_at_call 5; (with_reducible refine AL.out.mono ?_); rintro e w1 ⟨rfl, hb1⟩)
  go_ret
  exact ⟨rfl, hb1⟩
set_option maxRecDepth 100000 in
set_option maxHeartbeats 16000000 in
theorem tableActs_bad (n : Int) (a1 a2 : Option Addr) (n1 n2 cap1 cap2 : Nat) (E : Nat → Addr) (w0 : World) (he : ErrsAre w0 E) (hT : Tab64 w0)
    (hg : ¬ (n1 < 1 ∨ 100 < n1 ∨ 150 < n2 ∨ 16 < n ∧ n ≤ 64)) (hr : rightB n = false) :
    Calls Tryz.prog 3 #[.int .i64 n, .slice a1 n1 cap1, .slice a2 n2 cap2] w0 fun e w' => e = .returned (.bool true) ∧ Below w0.heap.size w0 w' := by
  have AL := Lib.hid (alive09_any E w0 he hT)
  have HE := Lib.hid he
  have TN := Lib.hid (fun (w' : World) (h' : EC w' E [1]) => show Calls Tryz.prog 6 #[.int .i64 n] w' fun e w'' => e = .returned (.tuple #[.pointer none, errN E 1]) ∧ Below w'.heap.size w' w'' from tnew_bad n hr E w' h')
  have DN := Lib.hid (fun (w' : World) => dtnew_bad n hr w')
  have NU := Lib.hid (fun (w' : World) (h' : ErrsAre w' E) => num_any E 1 (by decide) w' h')
  have d1 : decide ((n1 : Int) < 1) = false := by rw [decide_eq_false_iff_not]; omega
  have d1' : ¬ (n1 : Int) < 1 := by omega
  have d2 : decide ((n1 : Int) > 100) = false := by rw [decide_eq_false_iff_not]; omega
  have d2' : ¬ (100 : Int) < (n1 : Int) := by omega
  have d3 : decide ((n2 : Int) > 150) = false := by rw [decide_eq_false_iff_not]; omega
  have d3' : ¬ (150 : Int) < (n2 : Int) := by omega
  have hg4 : ¬ (16 < n ∧ n ≤ 64) := by omega
  clear he hT hg hr
  by_cases g4 : n > 16
  · have d4 : decide (n > 16) = true := decide_eq_true g4
    have d5 : decide (n ≤ 64) = false := by rw [decide_eq_false_iff_not]; omega
    have d5' : ¬ n ≤ 64 := by omega
    have d4' : 16 < n := g4
    clear hg4 g4
    go_enter Tryz.func3, Tryz.ntmps3
    go_wp2_with (first
      | (go_at_call 5; (with_reducible refine AL.out.mono ?_); rintro e w1 ⟨rfl, hb1⟩; have E1 := Lib.hid (HE.out.below hb1))
      | (go_at_call 6; (with_reducible refine (TN.out _ (E1.out.ec.sub (by decide))).mono ?_); rintro e w2 ⟨rfl, hb2⟩; have E2 := Lib.hid (E1.out.below hb2))
      | (go_at_call 7; (with_reducible refine (DN.out _).mono ?_); rintro e w3 ⟨rfl, rfl⟩)
      | (go_at_call 8; (with_reducible refine (NU.out _ E2.out).mono ?_); rintro e w4 ⟨rfl, hb4⟩))
    go_ret
    exact ⟨rfl, (hb1.trans (hb2.mono hb1.size)).trans (hb4.mono (Nat.le_trans hb1.size hb2.size))⟩
  · have d4 : decide (n > 16) = false := decide_eq_false g4
    have d4' : ¬ 16 < n := g4
    clear hg4 g4
    go_enter Tryz.func3, Tryz.ntmps3
    go_wp2_with (first
      | (go_at_call 5; (with_reducible refine AL.out.mono ?_); rintro e w1 ⟨rfl, hb1⟩; have E1 := Lib.hid (HE.out.below hb1))
      | (go_at_call 6; (with_reducible refine (TN.out _ (E1.out.ec.sub (by decide))).mono ?_); rintro e w2 ⟨rfl, hb2⟩; have E2 := Lib.hid (E1.out.below hb2))
      | (go_at_call 7; (with_reducible refine (DN.out _).mono ?_); rintro e w3 ⟨rfl, rfl⟩)
      | (go_at_call 8; (with_reducible refine (NU.out _ E2.out).mono ?_); rintro e w4 ⟨rfl, hb4⟩))
    go_ret
    exact ⟨rfl, (hb1.trans (hb2.mono hb1.size)).trans (hb4.mono (Nat.le_trans hb1.size hb2.size))⟩
set_option maxRecDepth 100000 in
set_option maxHeartbeats 16000000 in
theorem tableActs_main (n : Nat) (a2 : Option Addr) (b1 o1 n1 n2 cap1 cap2 : Nat) (G : Nat → Nat) (f2 : Nat → Nat → Int) (E : Nat → Addr) (w0 : World) (he : ErrsAre w0 E) (hT : Tab64 w0)
    (hb1z : b1 < w0.heap.size) (hG : ∀ i, i < n1 → G i < 18446744073709551616) (hc1 : ∀ w', Below w0.heap.size w0 w' → ∀ i, i < n1 → w'.cell? ⟨b1, o1 + i, none⟩ = some (.int .u64 (G i : Int)))
    (hx2 : n2 ≠ 0 → ∃ b off, a2 = some ⟨b, off, none⟩ ∧ b < w0.heap.size ∧ ∀ w', Below w0.heap.size w0 w' → ∀ i, i < n2 → ∀ j, j < 3 → w'.cell? ⟨b, off + (i * 3 + j), none⟩ = some (.int .i64 (f2 i j)))
    (hg : ¬ (n1 < 1 ∨ 100 < n1 ∨ 150 < n2 ∨ 16 < (n : Int) ∧ (n : Int) ≤ 64)) (hr : rightB (n : Int) = true) :
    Calls Tryz.prog 3 #[.int .i64 (n : Int), .slice (some ⟨b1, o1, none⟩) n1 cap1, .slice a2 n2 cap2] w0 fun e w' => e = .returned (.bool true) ∧ Below w0.heap.size w0 w' := by
  have AL := Lib.hid (alive09_any E w0 he hT)
  have HE := Lib.hid he
  have HT := Lib.hid hT
  have HR := Lib.hid hr
  have HC := Lib.hid hc1
  have HX2 := Lib.hid hx2
  have HG := Lib.hid hG
  have TN := Lib.hid (fun (w' : World) => tnew_ok n hr w')
  have DN := Lib.hid (fun (w' : World) => dtnew_ok n hr w')
  have NU := Lib.hid num_nil
  have d1 : decide ((n1 : Int) < 1) = false := by rw [decide_eq_false_iff_not]; omega
  have d1' : ¬ (n1 : Int) < 1 := by omega
  have d2 : decide ((n1 : Int) > 100) = false := by rw [decide_eq_false_iff_not]; omega
  have d2' : ¬ (100 : Int) < (n1 : Int) := by omega
  have d3 : decide ((n2 : Int) > 150) = false := by rw [decide_eq_false_iff_not]; omega
  have d3' : ¬ (150 : Int) < (n2 : Int) := by omega
  have hbd := right_bd hr
  have hn16 : n ≤ 16 := by omega
  have hn2 : n2 ≤ 150 := by omega
  have d4 : decide ((n : Int) > 16) = false := by rw [decide_eq_false_iff_not]; omega
  have d4' : ¬ (16 : Int) < (n : Int) := by omega
  clear he hT hg hr hbd hc1 hx2 hG
  go_enter Tryz.func3, Tryz.ntmps3
  go_upto_region 12 with (first
    | (go_at_call 5; (with_reducible refine AL.out.mono ?_); rintro e w1 ⟨rfl, hb1⟩; have B1 := Lib.hid hb1)
    | (go_at_call 6; (with_reducible refine (TN.out _).mono ?_); rintro e w2 ⟨B, Q, rfl, hB, hQ, ht2, hb2⟩; have T2 := Lib.hid ht2; have B2 := Lib.hid hb2; clear ht2)
    | (go_at_call 7; (with_reducible refine (DN.out _).mono ?_); rintro e w3 ⟨D, P, cap, GB, rfl, hd3, hb3⟩; have P3 := Lib.hid (PR.new HR.out (HE.out.ec.sub (by decide)) HT.out B1.out T2.out B2.out hB hQ hd3 hb3); have B3 := Lib.hid (B1.out.trans ((B2.out.trans (hb3.mono B2.out.size)).mono B1.out.size)); clear hd3)
    | (go_at_call 8; (with_reducible refine (NU.out _).mono ?_); rintro e w4 ⟨rfl, rfl⟩))
  refine wp_at (fun w5 hw5 => ?_)
  obtain ⟨M, hM⟩ : ∃ M, M = w3.heap.size := ⟨_, rfl⟩
  have hb5 : Below w3.heap.size w3 w5 := by rw [hw5]; go_grown
  have M5 := Lib.hid (show Blk w5 M 38 MeterS.zero.cells by rw [hw5, hM]; simp only [MeterS.zero, MeterS.cells]; exact Blk.new _ _ _)
  have A5 := Lib.hid (AW.made (P3.out.later hb5) M5.out (Nat.le_of_eq hM.symm))
  rw [← hM]
  replace hM := Lib.hid hM
  replace hw5 := Lib.hid hw5
  clear hb5 M5 hb1 hb2 hb3 T2 B2 P3 B3 TN DN NU AL B1
  obtain ⟨p, hp⟩ : ∃ p : PB, p = ⟨w1.heap.size, w2.heap.size, w3.heap.size, B, Q, D⟩ := ⟨_, rfl⟩
  rw [show B = p.B by rw [hp], show D = p.D by rw [hp]]
  rw [← hp] at A5
  clear hp hB hQ
  go_wp2
  go_loopw [64] (fun v64 wr => ∃ (j kk : Nat) (T : TabS), j ≤ n2 ∧ v64 = .int .i64 (j : Int) ∧ T.n = n ∧ kk ≤ 64 * j ∧ AW wr p M T T kk (0 + (kk : Int)) E w0) (fun v64 _ => n2 - (intOf v64).toNat)
  case atStart => exact ⟨0, 0, _, Nat.zero_le _, rfl, rfl, by omega, by simpa using A5.out⟩
  case round =>
    clear A5
    obtain ⟨j, kk, T, hj, rfl, hTn, hkk, hA⟩ := hrel
    have KA := Lib.hid hA
    clear hA
    have hbd := right_bd HR.out
    have hn64 : n ≤ 64 := hbd.2
    by_cases hlt : j < n2
    · obtain ⟨b, off, rfl, hbz, hcells⟩ := HX2.out (by omega)
      have bel := KA.out.t.bel
      have a0 : wr.cell? ⟨b, off + j * 3, none⟩ = some (.int .i64 (f2 j 0)) := by simpa using hcells wr bel j hlt 0 (by decide)
      have a1 : wr.cell? ⟨b, off + j * 3 + 1, none⟩ = some (.int .i64 (f2 j 1)) := by simpa [Nat.add_assoc] using hcells wr bel j hlt 1 (by decide)
      have a2 : wr.cell? ⟨b, off + j * 3 + 2, none⟩ = some (.int .i64 (f2 j 2)) := by simpa [Nat.add_assoc] using hcells wr bel j hlt 2 (by decide)
      have hltI : (j : Int) < (n2 : Int) := by omega
      have hzb : b < wr.heap.size := Nat.lt_of_lt_of_le hbz bel.size
      clear hcells bel hbd
      generalize f2 j 0 = q at a0
      generalize f2 j 1 = ky at a1
      generalize f2 j 2 = vN at a2
      have hx := keyI_lt ky n1 (by omega)
      have KE := Lib.hid (fun (w' : World) (hw : Below w0.heap.size w0 w') => keyEntry_any b1 o1 n1 cap1 (by omega) (by omega) (fun i => (G i : Int)) q ky vN w' (Nat.lt_of_lt_of_le hb1z hw.size) (HC.out w' hw))
      generalize keyI ky n1 = x at *
      generalize valI vN = vv at *
      have hGx := HG.out x hx
      obtain ⟨h, hh⟩ : ∃ h, h = G x := ⟨_, rfl⟩
      rw [← hh] at KE hGx
      replace hh := Lib.hid hh
      have NP := Lib.hid (fun (w' : World) => probing_any (some ⟨M, 0, none⟩) w')
      have DO := Lib.hid (fun (w' : World) (h' : AW w' p M T T kk (0 + (kk : Int)) E w0) (hE' : ErrsAre w0 E) => do_any h' ⟨by omega, by omega⟩ hE' q (x : Int) vv h hGx ky vN)
      go_upto_region 15 with (fail)
      refine wp_at (fun w5 hw5 => ?_)
      obtain ⟨A, hA⟩ : ∃ A, A = wr.heap.size := ⟨_, rfl⟩
      have hb5 : Below wr.heap.size wr w5 := by rw [hw5]; go_grown
      have K5 := Lib.hid (KA.out.later hb5)
      have X5 := Lib.hid (show Blk w5 A 40 #[.int .i64 q, .int .i64 ky, .int .i64 vN] by rw [hw5, hA]; exact Blk.new _ _ _)
      rw [← hA]
      replace hA := Lib.hid hA
      replace hw5 := Lib.hid hw5
      clear hb5 KA
      obtain ⟨c0, c1, c2⟩ := cells3 X5.out
      have zA := X5.out.lt
      refine wp_region_seq (fun _ => False) #[⟨0, 0, 295147905179352825856, 128, 0⟩, ⟨0, 0, 590295810358705651712, 512, 0⟩, ⟨0, 0, 1180591620717411303424, 2048, 0⟩, ⟨4, 4, 2361183241434822606848, 1180591620717411303424, 2⟩, ⟨0, 0, 4722366482869645213696, 2, 0⟩, ⟨0, 0, 9444732965739290427392, 8192, 1⟩, ⟨56, 60, 18889465931478580854784, 14167099448608935641088, 2⟩, ⟨0, 0, 37778931862957161709568, 8192, 1⟩, ⟨203, 255, 75557863725914323419136, 59915024751408623648768, 3⟩, ⟨256, 511, 151115727451828646838272, 75557863725914323419136, 0⟩] 160 [(0, 0), (1, 0), (2, 0), (4, 0), (5, 1), (7, 1), (3, 2), (6, 2), (8, 3), (9, 0)] (by kernel_rfl) (by kernel_rfl) (by kernel_rfl) (by kernel_rfl) (by kernel_rfl) (by kernel_rfl) (fun c a d v w h => by cases d <;> exact h) ?_
      refine seq_calcA (h := ?_)
      try simp only [Act.put, List.setIfInBounds_toArray, List.set_cons_zero, List.set_cons_succ]
      refine seq_calcA (h := ?_)
      try simp only [Act.put, List.setIfInBounds_toArray, List.set_cons_zero, List.set_cons_succ]
      refine seq_calcA (h := ?_)
      try simp only [Act.put, List.setIfInBounds_toArray, List.set_cons_zero, List.set_cons_succ]
      refine seq_calcA (h := ?_)
      try simp only [Act.put, List.setIfInBounds_toArray, List.set_cons_zero, List.set_cons_succ]
      refine seq_loadsA [_, _, _] (hu := Tryz.underlying40) (h := ?_)
      try simp only [Act.put, List.setIfInBounds_toArray, List.set_cons_zero, List.set_cons_succ]
      refine seq_loadsA [_, _, _] (hu := Tryz.underlying40) (h := ?_)
      try simp only [Act.put, List.setIfInBounds_toArray, List.set_cons_zero, List.set_cons_succ]
      refine seq_doA (h := fun K hK => ?_); go_wp2_with (first | (go_at_call 10; (with_reducible refine (NP.out _).mono ?_); rintro e w6 ⟨rfl, hb6⟩; have K6 := Lib.hid ((K5.out.later (Below.refl _ _).drew).later hb6); have X6 := Lib.hid (X5.out.drew.below hb6 X5.out.drew.lt); have q6 := cells3 X6.out; have q60 := q6.1; have q61 := q6.2.1; have q62 := q6.2.2; have z6 := X6.out.lt; clear q6 c0 c1 c2 zA) | (go_at_call 11; (with_reducible refine (KE.out _ K6.out.t.bel).mono ?_); rintro e w7 ⟨rfl, hb7⟩; have K7 := Lib.hid (K6.out.later hb7); have X7 := Lib.hid (X6.out.below hb7 X6.out.lt); have q7 := cells3 X7.out; have q70 := q7.1; have q71 := q7.2.1; have q72 := q7.2.2; have z7 := X7.out.lt; clear q7 q60 q61 q62 z6) | (go_at_call 9; (with_reducible refine (DO.out _ K7.out HE.out).mono ?_); rintro e w8 ⟨rfl, hD8⟩; have D8 := Lib.hid hD8; clear hD8 q70 q71 q72 z7)); refine hkA hK (h := ?_); clear hK K
      try simp only [Act.put, List.setIfInBounds_toArray, List.set_cons_zero, List.set_cons_succ]
      refine seq_doA (h := fun K hK => ?_); go_wp2_with (first | (go_at_call 10; (with_reducible refine (NP.out _).mono ?_); rintro e w6 ⟨rfl, hb6⟩; have K6 := Lib.hid ((K5.out.later (Below.refl _ _).drew).later hb6); have X6 := Lib.hid (X5.out.drew.below hb6 X5.out.drew.lt); have q6 := cells3 X6.out; have q60 := q6.1; have q61 := q6.2.1; have q62 := q6.2.2; have z6 := X6.out.lt; clear q6 c0 c1 c2 zA) | (go_at_call 11; (with_reducible refine (KE.out _ K6.out.t.bel).mono ?_); rintro e w7 ⟨rfl, hb7⟩; have K7 := Lib.hid (K6.out.later hb7); have X7 := Lib.hid (X6.out.below hb7 X6.out.lt); have q7 := cells3 X7.out; have q70 := q7.1; have q71 := q7.2.1; have q72 := q7.2.2; have z7 := X7.out.lt; clear q7 q60 q61 q62 z6) | (go_at_call 9; (with_reducible refine (DO.out _ K7.out HE.out).mono ?_); rintro e w8 ⟨rfl, hD8⟩; have D8 := Lib.hid hD8; clear hD8 q70 q71 q72 z7)); refine hkA hK (h := ?_); clear hK K
      try simp only [Act.put, List.setIfInBounds_toArray, List.set_cons_zero, List.set_cons_succ]
      refine seq_lastA (h := fun K hK => ?_); go_wp2_with (first | (go_at_call 10; (with_reducible refine (NP.out _).mono ?_); rintro e w6 ⟨rfl, hb6⟩; have K6 := Lib.hid ((K5.out.later (Below.refl _ _).drew).later hb6); have X6 := Lib.hid (X5.out.drew.below hb6 X5.out.drew.lt); have q6 := cells3 X6.out; have q60 := q6.1; have q61 := q6.2.1; have q62 := q6.2.2; have z6 := X6.out.lt; clear q6 c0 c1 c2 zA) | (go_at_call 11; (with_reducible refine (KE.out _ K6.out.t.bel).mono ?_); rintro e w7 ⟨rfl, hb7⟩; have K7 := Lib.hid (K6.out.later hb7); have X7 := Lib.hid (X6.out.below hb7 X6.out.lt); have q7 := cells3 X7.out; have q70 := q7.1; have q71 := q7.2.1; have q72 := q7.2.2; have z7 := X7.out.lt; clear q7 q60 q61 q62 z6) | (go_at_call 9; (with_reducible refine (DO.out _ K7.out HE.out).mono ?_); rintro e w8 ⟨rfl, hD8⟩; have D8 := Lib.hid hD8; clear hD8 q70 q71 q72 z7)); refine hK.out _ _ ?_; clear hK K
      try simp only [Act.put, List.setIfInBounds_toArray, List.set_cons_zero, List.set_cons_succ]
      refine seq_calcA (h := ?_)
      try simp only [Act.put, List.setIfInBounds_toArray, List.set_cons_zero, List.set_cons_succ]
      refine seq_nil ?_
      go_wp2
      obtain ⟨T', k', hn', hk', hA'⟩ := D8.out
      have e8 : (0 : Int) + (kk : Int) + (k' : Int) = 0 + ((kk + k' : Nat) : Int) := by omega
      rw [e8] at hA'
      have A8 := Lib.hid hA'
      clear e8
      clear hA' D8 K5 X5 DO KE NP hw5
      have hTn' : T'.n = n := by omega
      have hkk' : kk + k' ≤ 64 * (j + 1) := by omega
      obtain ⟨c, hc⟩ : ∃ c, c = kk + k' := ⟨_, rfl⟩
      rw [← hc] at A8 hkk'
      replace hc := Lib.hid hc
      have L1 := Lib.hid (fun (w' : World) (h' : AW w' p M T' T' c (0 + (c : Int)) E w0) => h'.len)
      have L2 := Lib.hid (fun (w' : World) (h' : AW w' p M T' T' c (0 + (c : Int)) E w0) => h'.cnt3)
      have L3 := Lib.hid (fun (w' : World) (h' : AW w' p M T' T' c (0 + (c : Int)) E w0) => h'.tombs)
      have L4 := Lib.hid (fun (w' : World) (h' : AW w' p M T' T' c (0 + (c : Int)) E w0) => h'.cnt2)
      have L5 := Lib.hid (fun (w' : World) (h' : AW w' p M T' T' c (0 + (c : Int)) E w0) => h'.left)
      have L6 := Lib.hid (fun (w' : World) (h' : AW w' p M T' T' c (0 + (c : Int)) E w0) => h'.left2)
      have L7 := Lib.hid (fun (w' : World) (h' : AW w' p M T' T' c (0 + (c : Int)) E w0) => h'.groups)
      have L8 := Lib.hid (fun (w' : World) (h' : AW w' p M T' T' c (0 + (c : Int)) E w0) => h'.all (by omega))
      rw [hTn'] at L7
      generalize T'.lv = lv at *
      generalize T'.tb = tb at *
      generalize T'.left = lf at *
      have cc : (0 : Int) + (c : Int) = (c : Int) := by omega
      refine wp_region_seq (fun _ => False) #[⟨0, 0, 302231454903657293676544, 128, 0⟩, ⟨1, 1, 604462909807314587353088, 302231454903657293676544, 2⟩, ⟨0, 0, 1208925819614629174706176, 512, 0⟩, ⟨6, 7, 2417851639229258349412352, 1208925819614629174706176, 2⟩, ⟨10, 15, 4835703278458516698824704, 3022314549036572936765440, 0⟩, ⟨24, 31, 9671406556917033397649408, 4835703278458516698824704, 0⟩, ⟨32, 63, 19342813113834066795298816, 9671406556917033397649536, 0⟩, ⟨96, 127, 38685626227668133590597632, 29014219670751100192948224, 2⟩, ⟨32, 63, 77371252455336267181195264, 9671406556917033397649920, 0⟩, ⟨416, 511, 154742504910672534362390528, 87042659012253300578844672, 2⟩, ⟨672, 1023, 309485009821345068724781056, 203099537695257701350637568, 0⟩, ⟨1056, 2047, 618970019642690137449562112, 319156416378262102122430464, 0⟩, ⟨2560, 4095, 1237940039285380274899124224, 618970019642690137449562112, 0⟩, ⟨4096, 8191, 2475880078570760549798248448, 1237940039285380274899124352, 0⟩, ⟨12288, 16383, 4951760157141521099596496896, 3713820117856140824697372672, 2⟩, ⟨4096, 8191, 9903520314283042199192993792, 1237940039285380274899124736, 0⟩, ⟨53248, 65535, 19807040628566084398385987584, 11141460353568422474092118016, 2⟩, ⟨86016, 131071, 39614081257132168796771975168, 25996740824992985772881608704, 0⟩, ⟨135168, 262143, 79228162514264337593543950336, 40852021296417549071671099392, 0⟩, ⟨327680, 524287, 158456325028528675187087900672, 79228162514264337593543950336, 0⟩, ⟨524288, 1048575, 316912650057057350374175801344, 158456325028528675187087900800, 0⟩, ⟨1572864, 2097151, 633825300114114700748351602688, 475368975085586025561263702016, 2⟩, ⟨524288, 1048575, 1267650600228229401496703205376, 158456325028528675187087900673, 0⟩, ⟨6815744, 8388607, 2535301200456458802993406410752, 2059932225370872777432142708736, 0⟩, ⟨8912896, 16777215, 5070602400912917605986812821504, 2693757525484987478180494311424, 0⟩, ⟨18874368, 33554431, 10141204801825835211973625643008, 5070602400912917605986812821504, 0⟩, ⟨33554432, 67108863, 20282409603651670423947251286016, 10141204801825835211973625645056, 0⟩, ⟨100663296, 134217727, 40564819207303340847894502572032, 30423614405477505635920876929024, 2⟩, ⟨33554432, 67108863, 81129638414606681695789005144064, 10141204801825835211973625643520, 0⟩, ⟨301989888, 335544319, 162259276829213363391578010288128, 91270843216432516907762630787072, 0⟩, ⟨570425344, 872415231, 324518553658426726783156020576256, 172400481631039198603551635931136, 0⟩, ⟨1107296256, 1946157055, 649037107316853453566312041152512, 334659758460252561995129646219264, 1⟩, ⟨2181038080, 4093640703, 1298074214633706907132624082305024, 659178312118679288778285666795520, 0⟩, ⟨4462739456, 8589934591, 2596148429267413814265248164610048, 1348780238642836083192492210520064, 0⟩, ⟨8623489024, 17179869183, 5192296858534827628530496329220096, 2606289634069239649477221790253056, 0⟩] 2147483648 [(0, 0), (2, 0), (1, 2), (3, 2), (4, 0), (5, 0), (6, 0), (8, 0), (7, 2), (9, 2), (10, 0), (11, 0), (12, 0), (13, 0), (15, 0), (14, 2), (16, 2), (17, 0), (18, 0), (19, 0), (20, 0), (22, 0), (21, 2), (23, 0), (24, 0), (25, 0), (26, 0), (28, 0), (29, 0), (30, 0), (31, 1), (32, 0), (27, 2), (33, 0), (34, 0)] (by kernel_rfl) (by kernel_rfl) (by kernel_rfl) (by kernel_rfl) (by kernel_rfl) (by kernel_rfl) (fun c a d v w h => by cases d <;> exact h) ?_
      refine seq_calcA (h := ?_)
      try simp only [Act.put, List.setIfInBounds_toArray, List.set_cons_zero, List.set_cons_succ]
      refine seq_calcA (h := ?_)
      try simp only [Act.put, List.setIfInBounds_toArray, List.set_cons_zero, List.set_cons_succ]
      refine seq_doA (h := fun K hK => ?_); go_wp2_with (first | (go_at_call 12; (with_reducible refine (L1.out _ (A8.out.later (Below.refl _ _).drew)).mono ?_); rintro e w9 ⟨rfl, rfl⟩) | (go_at_call 13; (with_reducible refine (L2.out _ (A8.out.later (Below.refl _ _).drew)).mono ?_); rintro e w10 ⟨rfl, hb10⟩; have A10 := Lib.hid ((A8.out.later (Below.refl _ _).drew).later hb10)) | (go_at_call 14; (with_reducible refine (L3.out _ A10.out).mono ?_); rintro e w11 ⟨rfl, rfl⟩) | (go_at_call 13; (with_reducible refine (L4.out _ A10.out).mono ?_); rintro e w12 ⟨rfl, hb12⟩; have A12 := Lib.hid (A10.out.later hb12)) | (go_at_call 15; (with_reducible refine (L5.out _ A12.out).mono ?_); rintro e w13 ⟨rfl, hb13⟩; have A13 := Lib.hid (A12.out.later hb13)) | (go_at_call 16; (with_reducible refine (L6.out _ A13.out).mono ?_); rintro e w14 ⟨rfl, hb14⟩; have A14 := Lib.hid (A13.out.later hb14); obtain ⟨l14, z14⟩ := A14.out.looks; rw [cc] at l14) | (go_at_call 17; (with_reducible refine (L7.out _ A14.out).mono ?_); rintro e w15 ⟨rfl, rfl⟩) | (go_at_call 18; (with_reducible refine (L8.out _ A14.out).mono ?_); rintro e w16 ⟨rfl, hb16⟩; have A16 := Lib.hid (A14.out.later hb16))); refine hkA hK (h := ?_); clear hK K
      try simp only [Act.put, List.setIfInBounds_toArray, List.set_cons_zero, List.set_cons_succ]
      refine seq_doA (h := fun K hK => ?_); go_wp2_with (first | (go_at_call 12; (with_reducible refine (L1.out _ (A8.out.later (Below.refl _ _).drew)).mono ?_); rintro e w9 ⟨rfl, rfl⟩) | (go_at_call 13; (with_reducible refine (L2.out _ (A8.out.later (Below.refl _ _).drew)).mono ?_); rintro e w10 ⟨rfl, hb10⟩; have A10 := Lib.hid ((A8.out.later (Below.refl _ _).drew).later hb10)) | (go_at_call 14; (with_reducible refine (L3.out _ A10.out).mono ?_); rintro e w11 ⟨rfl, rfl⟩) | (go_at_call 13; (with_reducible refine (L4.out _ A10.out).mono ?_); rintro e w12 ⟨rfl, hb12⟩; have A12 := Lib.hid (A10.out.later hb12)) | (go_at_call 15; (with_reducible refine (L5.out _ A12.out).mono ?_); rintro e w13 ⟨rfl, hb13⟩; have A13 := Lib.hid (A12.out.later hb13)) | (go_at_call 16; (with_reducible refine (L6.out _ A13.out).mono ?_); rintro e w14 ⟨rfl, hb14⟩; have A14 := Lib.hid (A13.out.later hb14); obtain ⟨l14, z14⟩ := A14.out.looks; rw [cc] at l14) | (go_at_call 17; (with_reducible refine (L7.out _ A14.out).mono ?_); rintro e w15 ⟨rfl, rfl⟩) | (go_at_call 18; (with_reducible refine (L8.out _ A14.out).mono ?_); rintro e w16 ⟨rfl, hb16⟩; have A16 := Lib.hid (A14.out.later hb16))); refine hkA hK (h := ?_); clear hK K
      try simp only [Act.put, List.setIfInBounds_toArray, List.set_cons_zero, List.set_cons_succ]
      refine seq_calcA (h := ?_)
      try simp only [Act.put, List.setIfInBounds_toArray, List.set_cons_zero, List.set_cons_succ]
      refine seq_calcA (h := ?_)
      try simp only [Act.put, List.setIfInBounds_toArray, List.set_cons_zero, List.set_cons_succ]
      first
        | (refine seq_skipA (h := ?_))
        | (refine seq_calcA (h := ?_))
      try simp only [Act.put, List.setIfInBounds_toArray, List.set_cons_zero, List.set_cons_succ]
      first
        | (refine seq_skipA (h := ?_))
        | (refine seq_calcA (h := ?_))
      try simp only [Act.put, List.setIfInBounds_toArray, List.set_cons_zero, List.set_cons_succ]
      first
        | (refine seq_skipA (h := ?_))
        | (refine seq_doA (h := fun K hK => ?_); go_wp2_with (first | (go_at_call 12; (with_reducible refine (L1.out _ (A8.out.later (Below.refl _ _).drew)).mono ?_); rintro e w9 ⟨rfl, rfl⟩) | (go_at_call 13; (with_reducible refine (L2.out _ (A8.out.later (Below.refl _ _).drew)).mono ?_); rintro e w10 ⟨rfl, hb10⟩; have A10 := Lib.hid ((A8.out.later (Below.refl _ _).drew).later hb10)) | (go_at_call 14; (with_reducible refine (L3.out _ A10.out).mono ?_); rintro e w11 ⟨rfl, rfl⟩) | (go_at_call 13; (with_reducible refine (L4.out _ A10.out).mono ?_); rintro e w12 ⟨rfl, hb12⟩; have A12 := Lib.hid (A10.out.later hb12)) | (go_at_call 15; (with_reducible refine (L5.out _ A12.out).mono ?_); rintro e w13 ⟨rfl, hb13⟩; have A13 := Lib.hid (A12.out.later hb13)) | (go_at_call 16; (with_reducible refine (L6.out _ A13.out).mono ?_); rintro e w14 ⟨rfl, hb14⟩; have A14 := Lib.hid (A13.out.later hb14); obtain ⟨l14, z14⟩ := A14.out.looks; rw [cc] at l14) | (go_at_call 17; (with_reducible refine (L7.out _ A14.out).mono ?_); rintro e w15 ⟨rfl, rfl⟩) | (go_at_call 18; (with_reducible refine (L8.out _ A14.out).mono ?_); rintro e w16 ⟨rfl, hb16⟩; have A16 := Lib.hid (A14.out.later hb16))); refine hkA hK (h := ?_); clear hK K)
      try simp only [Act.put, List.setIfInBounds_toArray, List.set_cons_zero, List.set_cons_succ]
      first
        | (refine seq_skipA (h := ?_))
        | (refine seq_doA (h := fun K hK => ?_); go_wp2_with (first | (go_at_call 12; (with_reducible refine (L1.out _ (A8.out.later (Below.refl _ _).drew)).mono ?_); rintro e w9 ⟨rfl, rfl⟩) | (go_at_call 13; (with_reducible refine (L2.out _ (A8.out.later (Below.refl _ _).drew)).mono ?_); rintro e w10 ⟨rfl, hb10⟩; have A10 := Lib.hid ((A8.out.later (Below.refl _ _).drew).later hb10)) | (go_at_call 14; (with_reducible refine (L3.out _ A10.out).mono ?_); rintro e w11 ⟨rfl, rfl⟩) | (go_at_call 13; (with_reducible refine (L4.out _ A10.out).mono ?_); rintro e w12 ⟨rfl, hb12⟩; have A12 := Lib.hid (A10.out.later hb12)) | (go_at_call 15; (with_reducible refine (L5.out _ A12.out).mono ?_); rintro e w13 ⟨rfl, hb13⟩; have A13 := Lib.hid (A12.out.later hb13)) | (go_at_call 16; (with_reducible refine (L6.out _ A13.out).mono ?_); rintro e w14 ⟨rfl, hb14⟩; have A14 := Lib.hid (A13.out.later hb14); obtain ⟨l14, z14⟩ := A14.out.looks; rw [cc] at l14) | (go_at_call 17; (with_reducible refine (L7.out _ A14.out).mono ?_); rintro e w15 ⟨rfl, rfl⟩) | (go_at_call 18; (with_reducible refine (L8.out _ A14.out).mono ?_); rintro e w16 ⟨rfl, hb16⟩; have A16 := Lib.hid (A14.out.later hb16))); refine hkA hK (h := ?_); clear hK K)
      try simp only [Act.put, List.setIfInBounds_toArray, List.set_cons_zero, List.set_cons_succ]
      first
        | (refine seq_skipA (h := ?_))
        | (refine seq_calcA (h := ?_))
      try simp only [Act.put, List.setIfInBounds_toArray, List.set_cons_zero, List.set_cons_succ]
      refine seq_calcA (h := ?_)
      try simp only [Act.put, List.setIfInBounds_toArray, List.set_cons_zero, List.set_cons_succ]
      refine seq_calcA (h := ?_)
      try simp only [Act.put, List.setIfInBounds_toArray, List.set_cons_zero, List.set_cons_succ]
      first
        | (refine seq_skipA (h := ?_))
        | (refine seq_calcA (h := ?_))
      try simp only [Act.put, List.setIfInBounds_toArray, List.set_cons_zero, List.set_cons_succ]
      first
        | (refine seq_skipA (h := ?_))
        | (refine seq_calcA (h := ?_))
      try simp only [Act.put, List.setIfInBounds_toArray, List.set_cons_zero, List.set_cons_succ]
      first
        | (refine seq_skipA (h := ?_))
        | (refine seq_doA (h := fun K hK => ?_); go_wp2_with (first | (go_at_call 12; (with_reducible refine (L1.out _ (A8.out.later (Below.refl _ _).drew)).mono ?_); rintro e w9 ⟨rfl, rfl⟩) | (go_at_call 13; (with_reducible refine (L2.out _ (A8.out.later (Below.refl _ _).drew)).mono ?_); rintro e w10 ⟨rfl, hb10⟩; have A10 := Lib.hid ((A8.out.later (Below.refl _ _).drew).later hb10)) | (go_at_call 14; (with_reducible refine (L3.out _ A10.out).mono ?_); rintro e w11 ⟨rfl, rfl⟩) | (go_at_call 13; (with_reducible refine (L4.out _ A10.out).mono ?_); rintro e w12 ⟨rfl, hb12⟩; have A12 := Lib.hid (A10.out.later hb12)) | (go_at_call 15; (with_reducible refine (L5.out _ A12.out).mono ?_); rintro e w13 ⟨rfl, hb13⟩; have A13 := Lib.hid (A12.out.later hb13)) | (go_at_call 16; (with_reducible refine (L6.out _ A13.out).mono ?_); rintro e w14 ⟨rfl, hb14⟩; have A14 := Lib.hid (A13.out.later hb14); obtain ⟨l14, z14⟩ := A14.out.looks; rw [cc] at l14) | (go_at_call 17; (with_reducible refine (L7.out _ A14.out).mono ?_); rintro e w15 ⟨rfl, rfl⟩) | (go_at_call 18; (with_reducible refine (L8.out _ A14.out).mono ?_); rintro e w16 ⟨rfl, hb16⟩; have A16 := Lib.hid (A14.out.later hb16))); refine hkA hK (h := ?_); clear hK K)
      try simp only [Act.put, List.setIfInBounds_toArray, List.set_cons_zero, List.set_cons_succ]
      first
        | (refine seq_skipA (h := ?_))
        | (refine seq_doA (h := fun K hK => ?_); go_wp2_with (first | (go_at_call 12; (with_reducible refine (L1.out _ (A8.out.later (Below.refl _ _).drew)).mono ?_); rintro e w9 ⟨rfl, rfl⟩) | (go_at_call 13; (with_reducible refine (L2.out _ (A8.out.later (Below.refl _ _).drew)).mono ?_); rintro e w10 ⟨rfl, hb10⟩; have A10 := Lib.hid ((A8.out.later (Below.refl _ _).drew).later hb10)) | (go_at_call 14; (with_reducible refine (L3.out _ A10.out).mono ?_); rintro e w11 ⟨rfl, rfl⟩) | (go_at_call 13; (with_reducible refine (L4.out _ A10.out).mono ?_); rintro e w12 ⟨rfl, hb12⟩; have A12 := Lib.hid (A10.out.later hb12)) | (go_at_call 15; (with_reducible refine (L5.out _ A12.out).mono ?_); rintro e w13 ⟨rfl, hb13⟩; have A13 := Lib.hid (A12.out.later hb13)) | (go_at_call 16; (with_reducible refine (L6.out _ A13.out).mono ?_); rintro e w14 ⟨rfl, hb14⟩; have A14 := Lib.hid (A13.out.later hb14); obtain ⟨l14, z14⟩ := A14.out.looks; rw [cc] at l14) | (go_at_call 17; (with_reducible refine (L7.out _ A14.out).mono ?_); rintro e w15 ⟨rfl, rfl⟩) | (go_at_call 18; (with_reducible refine (L8.out _ A14.out).mono ?_); rintro e w16 ⟨rfl, hb16⟩; have A16 := Lib.hid (A14.out.later hb16))); refine hkA hK (h := ?_); clear hK K)
      try simp only [Act.put, List.setIfInBounds_toArray, List.set_cons_zero, List.set_cons_succ]
      first
        | (refine seq_skipA (h := ?_))
        | (refine seq_calcA (h := ?_))
      try simp only [Act.put, List.setIfInBounds_toArray, List.set_cons_zero, List.set_cons_succ]
      refine seq_calcA (h := ?_)
      try simp only [Act.put, List.setIfInBounds_toArray, List.set_cons_zero, List.set_cons_succ]
      refine seq_calcA (h := ?_)
      try simp only [Act.put, List.setIfInBounds_toArray, List.set_cons_zero, List.set_cons_succ]
      first
        | (refine seq_skipA (h := ?_))
        | (refine seq_calcA (h := ?_))
      try simp only [Act.put, List.setIfInBounds_toArray, List.set_cons_zero, List.set_cons_succ]
      first
        | (refine seq_skipA (h := ?_))
        | (refine seq_calcA (h := ?_))
      try simp only [Act.put, List.setIfInBounds_toArray, List.set_cons_zero, List.set_cons_succ]
      first
        | (refine seq_skipA (h := ?_))
        | (refine seq_doA (h := fun K hK => ?_); go_wp2_with (first | (go_at_call 12; (with_reducible refine (L1.out _ (A8.out.later (Below.refl _ _).drew)).mono ?_); rintro e w9 ⟨rfl, rfl⟩) | (go_at_call 13; (with_reducible refine (L2.out _ (A8.out.later (Below.refl _ _).drew)).mono ?_); rintro e w10 ⟨rfl, hb10⟩; have A10 := Lib.hid ((A8.out.later (Below.refl _ _).drew).later hb10)) | (go_at_call 14; (with_reducible refine (L3.out _ A10.out).mono ?_); rintro e w11 ⟨rfl, rfl⟩) | (go_at_call 13; (with_reducible refine (L4.out _ A10.out).mono ?_); rintro e w12 ⟨rfl, hb12⟩; have A12 := Lib.hid (A10.out.later hb12)) | (go_at_call 15; (with_reducible refine (L5.out _ A12.out).mono ?_); rintro e w13 ⟨rfl, hb13⟩; have A13 := Lib.hid (A12.out.later hb13)) | (go_at_call 16; (with_reducible refine (L6.out _ A13.out).mono ?_); rintro e w14 ⟨rfl, hb14⟩; have A14 := Lib.hid (A13.out.later hb14); obtain ⟨l14, z14⟩ := A14.out.looks; rw [cc] at l14) | (go_at_call 17; (with_reducible refine (L7.out _ A14.out).mono ?_); rintro e w15 ⟨rfl, rfl⟩) | (go_at_call 18; (with_reducible refine (L8.out _ A14.out).mono ?_); rintro e w16 ⟨rfl, hb16⟩; have A16 := Lib.hid (A14.out.later hb16))); refine hkA hK (h := ?_); clear hK K)
      try simp only [Act.put, List.setIfInBounds_toArray, List.set_cons_zero, List.set_cons_succ]
      first
        | (refine seq_skipA (h := ?_))
        | (refine seq_calcA (h := ?_))
      try simp only [Act.put, List.setIfInBounds_toArray, List.set_cons_zero, List.set_cons_succ]
      refine seq_calcA (h := ?_)
      try simp only [Act.put, List.setIfInBounds_toArray, List.set_cons_zero, List.set_cons_succ]
      refine seq_calcA (h := ?_)
      try simp only [Act.put, List.setIfInBounds_toArray, List.set_cons_zero, List.set_cons_succ]
      first
        | (refine seq_skipA (h := ?_))
        | (refine seq_calcA (h := ?_))
      try simp only [Act.put, List.setIfInBounds_toArray, List.set_cons_zero, List.set_cons_succ]
      first
        | (refine seq_skipA (h := ?_))
        | (refine seq_calcA (h := ?_))
      try simp only [Act.put, List.setIfInBounds_toArray, List.set_cons_zero, List.set_cons_succ]
      first
        | (refine seq_skipA (h := ?_))
        | (refine seq_calcA (h := ?_))
      try simp only [Act.put, List.setIfInBounds_toArray, List.set_cons_zero, List.set_cons_succ]
      first
        | (refine seq_skipA (h := ?_))
        | (refine seq_calcA (h := ?_))
      try simp only [Act.put, List.setIfInBounds_toArray, List.set_cons_zero, List.set_cons_succ]
      first
        | (refine seq_skipA (h := ?_))
        | (refine seq_load1A (hu := Tryz.underlying3) (h := ?_))
      try simp only [Act.put, List.setIfInBounds_toArray, List.set_cons_zero, List.set_cons_succ]
      first
        | (refine seq_skipA (h := ?_))
        | (refine seq_calcA (h := ?_))
      try simp only [Act.put, List.setIfInBounds_toArray, List.set_cons_zero, List.set_cons_succ]
      first
        | (refine seq_skipA (h := ?_))
        | (refine seq_doA (h := fun K hK => ?_); go_wp2_with (first | (go_at_call 12; (with_reducible refine (L1.out _ (A8.out.later (Below.refl _ _).drew)).mono ?_); rintro e w9 ⟨rfl, rfl⟩) | (go_at_call 13; (with_reducible refine (L2.out _ (A8.out.later (Below.refl _ _).drew)).mono ?_); rintro e w10 ⟨rfl, hb10⟩; have A10 := Lib.hid ((A8.out.later (Below.refl _ _).drew).later hb10)) | (go_at_call 14; (with_reducible refine (L3.out _ A10.out).mono ?_); rintro e w11 ⟨rfl, rfl⟩) | (go_at_call 13; (with_reducible refine (L4.out _ A10.out).mono ?_); rintro e w12 ⟨rfl, hb12⟩; have A12 := Lib.hid (A10.out.later hb12)) | (go_at_call 15; (with_reducible refine (L5.out _ A12.out).mono ?_); rintro e w13 ⟨rfl, hb13⟩; have A13 := Lib.hid (A12.out.later hb13)) | (go_at_call 16; (with_reducible refine (L6.out _ A13.out).mono ?_); rintro e w14 ⟨rfl, hb14⟩; have A14 := Lib.hid (A13.out.later hb14); obtain ⟨l14, z14⟩ := A14.out.looks; rw [cc] at l14) | (go_at_call 17; (with_reducible refine (L7.out _ A14.out).mono ?_); rintro e w15 ⟨rfl, rfl⟩) | (go_at_call 18; (with_reducible refine (L8.out _ A14.out).mono ?_); rintro e w16 ⟨rfl, hb16⟩; have A16 := Lib.hid (A14.out.later hb16))); refine hkA hK (h := ?_); clear hK K)
      try simp only [Act.put, List.setIfInBounds_toArray, List.set_cons_zero, List.set_cons_succ]
      first
        | (refine seq_skipA (h := ?_))
        | (refine seq_calcA (h := ?_))
      try simp only [Act.put, List.setIfInBounds_toArray, List.set_cons_zero, List.set_cons_succ]
      refine seq_calcA (h := ?_)
      try simp only [Act.put, List.setIfInBounds_toArray, List.set_cons_zero, List.set_cons_succ]
      refine seq_nil ?_
      go_wp2
      go_roundw
      case rel => exact ⟨j + 1, c, T', by omega, by go_num, hTn', hkk', A16.out⟩
      case measure => simp [intOf]; omega
    · obtain rfl : j = n2 := by omega
      have X1 := Lib.hid (fun (w' : World) (h' : AW w' p M T T kk (0 + (kk : Int)) E w0) => h'.text)
      have X2 := Lib.hid (fun (w' : World) (h' : AW w' p M T T kk (0 + (kk : Int)) E w0) => h'.text2)
      have XL : T.texts.length < 9223372036854775807 := by rw [TabS.texts_len]; omega
      generalize T.texts = tx at *
      go_wp2_with (first
        | (go_at_call 20; (with_reducible refine (X1.out _ KA.out).mono ?_); rintro e w6 ⟨v6, rfl, hr6, hb6⟩; have K6 := Lib.hid (KA.out.later hb6); have R6 := Lib.hid hr6; clear hr6)
        | (go_at_call 21; (with_reducible refine (X2.out _ K6.out).mono ?_); rintro e w7 ⟨v7, rfl, hr7, hb7⟩; have K7 := Lib.hid (K6.out.later hb7); have R7 := Lib.hid hr7; clear hr7)
        | (go_at_call 19; (with_reducible refine (sameTexts_any v6 v7 tx _ (R6.out.later hb7) R7.out XL).mono ?_); rintro e w8 ⟨rfl, rfl⟩))
      go_ret
      exact ⟨rfl, K7.out.t.bel⟩
theorem tableActs_any (n : Int) (v1 v2 : Value) (n1 n2 : Nat) (f1 f2 : Nat → Nat → Int) (E : Nat → Addr) (w0 : World) (he : ErrsAre w0 E) (hT : Tab64 w0) (h1 : RowsAt w0 v1 n1 1 .u64 f1) (h2 : RowsAt w0 v2 n2 3 .i64 f2) :
    Calls Tryz.prog 3 #[.int .i64 n, v1, v2] w0 fun e w' => e = .returned (.bool true) ∧ Below w0.heap.size w0 w' := by
  obtain ⟨a1, cap1, hv1, -⟩ := h1.cellAt (by decide)
  obtain ⟨a2, cap2, rfl, hx2⟩ := h2.cellAt (by decide)
  by_cases hg : n1 < 1 ∨ 100 < n1 ∨ 150 < n2 ∨ 16 < n ∧ n ≤ 64
  · rw [hv1]; exact tableActs_long n a1 a2 n1 n2 cap1 cap2 E w0 he hT h1.2.2 h2.2.2 hg
  · cases hr : rightB n with
    | false => rw [hv1]; exact tableActs_bad n a1 a2 n1 n2 cap1 cap2 E w0 he hT hg hr
    | true =>
      obtain ⟨g, rfl⟩ := Int.eq_ofNat_of_zero_le (show 0 ≤ n by rw [rightB_iff] at hr; omega)
      obtain ⟨b1, o1, c1, G, rfl, hb1z, hG, hc1⟩ := hashes_of h1 (by omega)
      exact tableActs_main g a2 b1 o1 n1 n2 c1 cap2 G f2 E w0 he hT hb1z hG hc1 hx2 hg hr
end Go.Proofs.YtannohinhlefaaaGreatDoor
