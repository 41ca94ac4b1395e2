/- Texts joined: SchedAlone. No condition but those that stand within. -/
import Derived.Lib.MinMax
import Derived.Test.YtolhmibejhldkaaDoorPkSwar
import Derived.Test.YtolhmibejhldkaaDoorPkMeter
import Derived.Test.YtolhmibejhldkaaDoorPkErrs
import Derived.Test.YtolhmibejhldkaaDoorPkGroup
import Derived.Test.YtolhmibejhldkaaDoorPkTab
import Derived.Test.YtolhmibejhldkaaDoorPkQueue
import Derived.Test.YtolhmibejhldkaaDoorPkSched
set_option linter.unusedVariables false
set_option linter.unusedSimpArgs false
namespace Go.Proofs.YtolhmibejhldkaaDoor
open Go.RowKit Go.Proofs
attribute [local go_sem] neq_nilG eql_nilG nil_ahead_left method_left
def aJ (L : Nat) : List (Int × Nat) := if L = 0 then [] else [(3, L)]
theorem oth_one : ∀ (c : Nat) (x : Int) (l : Nat), oth c [(x, l)] = if l < c then ([], [x], l) else ([(x, l - c)], [], c)
  | 0, x, l => by rw [oth_zero]; simp
  | c + 1, x, 0 => by rw [oth_end _ (by omega), oth_nil]; simp
  | c + 1, x, l + 1 => by
    rw [oth_step, oth_one c x l]
    by_cases h : l < c
    · rw [if_pos h, if_pos (by omega)]
    · rw [if_neg h, if_neg (by omega)]
      simp
theorem alone_step (k L : Nat) (hk : 1 ≤ k) : sJobs k (aJ L) 3 = aJ (L - 9 * k) ∧ (sEnd k (aJ L) 3).length = (if 1 ≤ L ∧ L ≤ 9 * k then 1 else 0) ∧ sSpent k (aJ L) 3 = min L (9 * k) := by
  by_cases hL : L = 0
  · subst hL
    have h0 : aJ 0 = [] := rfl
    have h1 : sOwn k [] 3 = 0 := by simp [sOwn, jGet]
    have h2 : sMid k [] 3 = [] := rfl
    unfold sJobs sEnd sSpent
    rw [h0, h1, h2, oth_nil]
    refine ⟨by rw [Nat.zero_sub]; rfl, rfl, by simp⟩
  · have h0 : aJ L = [(3, L)] := if_neg hL
    have h1 : sOwn k [(3, L)] 3 = min L (8 * k) := by simp [sOwn, jGet]
    obtain ⟨l, hl⟩ : ∃ l, l = L - min L (8 * k) := ⟨_, rfl⟩
    have h2 : sMid k [(3, L)] 3 = [(3, l)] := by unfold sMid; rw [h1, hl]; rfl
    unfold sJobs sEnd sSpent
    rw [h0, h1, h2, oth_one]
    by_cases hlk : l < k
    · rw [if_pos hlk]
      refine ⟨?_, ?_, ?_⟩
      · have : L - 9 * k = 0 := by omega
        rw [this]; rfl
      · rw [if_pos (by omega)]; rfl
      · show min L (8 * k) + l = _; omega
    · rw [if_neg hlk]
      by_cases h3 : l - k = 0
      · refine ⟨?_, ?_, ?_⟩
        · have : L - 9 * k = 0 := by omega
          rw [this]; simp [aJ, h3]
        · rw [if_pos (by omega)]; simp [jIds, h3]
        · show min L (8 * k) + k = _; omega
      · refine ⟨?_, ?_, ?_⟩
        · unfold aJ
          rw [if_neg (by omega)]
          have : L - 9 * k = l - k := by omega
          rw [this]
          simp; omega
        · rw [if_neg (by omega)]; simp [jIds, h3]
        · show min L (8 * k) + k = _; omega
theorem aJ_sum (L : Nat) : jSum (aJ L) = L := by
  unfold aJ; split
  · rename_i h; rw [h]; rfl
  · simp [jSum]
theorem aJ_mem (L : Nat) : decide ((3 : Int) ∈ jIds (aJ L)) = decide (0 < L) := by
  unfold aJ; split
  · rename_i h; subst h; rfl
  · rename_i h; simp [jIds]; omega
theorem mUp_a2 : ∀ n : Nat, n ≤ 1000000 → (mUp MeterS.zero n).a2 = (n : Int)
  | 0, _ => rfl
  | n + 1, h => by
    show sumZ (sumZ (mUp MeterS.zero n).a2 0) 1 = _
    rw [mUp_a2 n (by omega), show sumZ (n : Int) 0 = (n : Int) by rw [sumZ_add (by omega) (by omega) (by omega)]; omega, sumZ_add (by omega) (by omega) (by omega)]
    omega
theorem field_unitsS (a b c : Value) (w : World) : (Instr.field 33 (.agg #[a, b, c]) 2).run Tryd.prog w = .ok c w := by kernel_rfl
attribute [local go_sem high] field_unitsS
set_option maxRecDepth 100000 in
set_option maxHeartbeats 8000000 in
theorem schedAlone_any (k long : Int) (E : Nat → Addr) (w0 : World) (he : EC w0 E [1, 2, 4, 16]) :
    Calls Tryd.prog 3 #[.int .i64 k, .int .i64 long] w0 fun e w' => e = .returned (.bool true) ∧ Below w0.heap.size w0 w' := by
  have HE := Lib.hid he
  have hz : 0 < w0.heap.size := by have := World.block_lt_of_cell? _ _ (he 1 (by decide)); omega
  have AL := Lib.hid (alive20_any E w0 he)
  by_cases hk : ¬ (1 ≤ k ∧ k ≤ 64)
  · have NB := Lib.hid (fun (w' : World) (hb : Below w0.heap.size w0 w') => snew_bad k hk E w' ((he.below hb) 1 (by decide)))
    unfold errAt at NB
    clear he hk
    go_enter Tryd.func3, Tryd.ntmps3
    go_wp2_with (first
      | (go_at_call 6; (with_reducible refine AL.out.mono ?_); rintro e w1 ⟨rfl, hb1⟩)
      | (go_at_call 7; (with_reducible refine (NB.out _ hb1).mono ?_); rintro e w2 ⟨rfl, hb2⟩))
    go_ret
    exact ⟨rfl, hb1.trans (hb2.mono hb1.size)⟩
  have hk := Classical.not_not.1 hk
  obtain ⟨kn, rfl⟩ := Int.eq_ofNat_of_zero_le (show 0 ≤ k by omega)
  have hkn : 1 ≤ kn ∧ kn ≤ 64 := by omega
  have NW := Lib.hid (fun (w' : World) => snew_ok (kn : Int) hk (fun _ => ⟨0, 0, 0, 0⟩) w')
  have JA := Lib.hid (fun (w' : World) => job_any long w')
  obtain ⟨L0, hL0⟩ : ∃ L0, L0 = jobN long := ⟨_, rfl⟩
  have hL0b : 1 ≤ L0 ∧ L0 ≤ 64 := by rw [hL0]; exact jobN_bd long
  rw [← hL0] at JA
  have hp1 : pushN 40 (jIds []) 3 = 0 := by decide
  have ha1 : addJ [] 3 L0 = aJ L0 := by unfold aJ; rw [if_neg (by omega)]; rfl
  have HP1 := Lib.hid hp1
  have HA1 := Lib.hid ha1
  clear he hL0 hp1 ha1
  go_enter Tryd.func3, Tryd.ntmps3
  go_wp2_with (first
    | (go_at_call 6; (with_reducible refine AL.out.mono ?_); rintro e wa ⟨rfl, hba⟩; have BA := Lib.hid hba; have za := hba.size; clear hba)
    | (go_at_call 7; ((with_reducible refine (NW.out _).mono ?_); rintro e w1 ⟨Sb, QB, QR, mb, rfl, hs, y1, y2, y3, y4, hb1⟩; have S1 := Lib.hid (hs 0 (.inl (by omega))); have B1 := Lib.hid (BA.out.trans (hb1.mono BA.out.size)); have z1 := hb1.size; clear hs hb1))
    | (go_at_call 8; (with_reducible refine (JA.out _).mono ?_); rintro e w2 ⟨p, rfl, pn, pD, pB, pQ, hp, hb2⟩; have P2 := Lib.hid hp; have PN := Lib.hid pn; have B2 := Lib.hid (B1.out.trans (hb2.mono B1.out.size)); have S2 := Lib.hid (S1.out.later hb2); have z2 := hb2.size; have HS := Lib.hid S1.out.lt; have LP := Lib.hid (fun b (h : JX p b) => (by rcases h with e | e | e <;> omega : w1.heap.size ≤ b)); clear hp pn hb2)
    | (go_at_call 9; ((with_reducible refine (S2.out.addC ((HE.out.below B2.out).sub (by decide)) p P2.out (fun b hb => ⟨fun e => by have := LP.out b hb; have := HS.out b e; omega, by have := LP.out b hb; omega⟩) (by decide) 3 (by decide)).mono ?_); simp only [PN.out, HP1.out, HA1.out, errN_0]; rintro e w3 ⟨rfl, nm3, g3, n3, hs3, hc3, hx3, hg3⟩; have G3 := Lib.hid (hg3 trivial).1; have S3 := Lib.hid hs3; have X3 := Lib.hid hx3; have z3 := hc3.size; have B3 := Lib.hid (B2.out.trans (hc3.below B2.out.size (fun b hb e => by omega))); clear hs3 hc3 hx3 hg3 S2)))
  have S4 := Lib.hid (show SS w0 (w3.alloc (.cells MeterS.zero.cells 35)) Sb QB QR mb nm3 kn (aJ L0) g3 0 w3.heap.size (mUp MeterS.zero 0) E from
    ⟨⟨0, (S3.out.setM (M' := w3.heap.size) (Nat.le_refl _)).later ((Below.refl _ _).alloc (Nat.le_refl _) _)⟩, Blk.new w3 _ _, rfl, B3.out.alloc B3.out.size _, HE.out, fun b hb => by
      rcases X3.out b hb with e | e
      · rcases e with e | e | e | e | ⟨x, hx, -⟩
        · omega
        · omega
        · omega
        · omega
        · cases hx
      · have := LP.out b e; omega, by omega⟩)
  have HD := Lib.hid (show p.D = (g3 3).D from by rw [G3.out])
  obtain ⟨M, hM⟩ : ∃ M, M = w3.heap.size := ⟨_, rfl⟩
  simp only [MeterS.cells, MeterS.zero] at S4
  simp only [← hM] at S4 ⊢
  clear hM S3 X3 B3 z3
  have hL0n : jGet (aJ L0) 3 = L0 := by unfold aJ; rw [if_neg (by omega)]; rfl
  have hL3 : (3 : Int) ∈ jIds (aJ L0) := by unfold aJ; rw [if_neg (by omega)]; exact List.mem_cons_self
  have HL0n := Lib.hid hL0n
  have HL3 := Lib.hid hL3
  clear hL0n hL3
  go_wp2_with (go_at_call 10; (obtain ⟨bal4, h4⟩ := S4.out.s; (with_reducible refine (h4.left (x := 3) (l := L0) HL3.out HD.out HL0n.out).mono ?_); rintro e w5 ⟨rfl, hb5⟩; have S5 := Lib.hid (S4.out.later hb5); clear hb5 h4))
  go_loopg [9] L0 (fun gk v9 wr => ∃ (sp : Nat), v9 = .int .i64 (gk : Int) ∧ gk + sp = L0 ∧ SS w0 wr Sb QB QR mb nm3 kn (aJ gk) g3 sp M (mUp MeterS.zero sp) E)
  case atStart => exact ⟨0, rfl, by omega, S5.out⟩
  case round =>
    obtain ⟨sp, rfl, hsp, hS⟩ := hrel
    clear S5 S4
    have S := Lib.hid hS
    obtain ⟨q1, q2, q3⟩ := alone_step kn gk hkn.1
    have SV := hS.serveC hkn 3 (by decide) (by omega)
    rw [q1, q3, mUp_add] at SV
    have HE2 := Lib.hid q2
    obtain ⟨L, hL⟩ : ∃ L, L = gk - 9 * kn := ⟨_, rfl⟩
    rw [← hL] at SV
    obtain ⟨nE, hnE⟩ : ∃ nE, nE = (sEnd kn (aJ gk) 3).length := ⟨_, rfl⟩
    rw [← hnE] at SV q2
    have SV := Lib.hid SV
    clear hS q1 q3 hnE
    by_cases hg : gk = 0
    · subst hg
      obtain rfl : L = 0 := by omega
      rw [if_neg (by omega)] at q2
      subst q2
      obtain rfl : sp = L0 := by omega
      have hz0 : sp + min 0 (9 * kn) = sp := by omega
      rw [hz0] at SV
      clear hz0 hL HE2 hsp
      have h00 : ((0 : Nat) : Int) = 0 := rfl
      have hA2 := mUp_a2 sp (by omega)
      go_wp2_with (first
        | (go_at_call 11; ((with_reducible refine SV.out.mono ?_); rintro e w6 ⟨v, rfl, hr6, hs6, hc6⟩; have S6 := Lib.hid hs6; obtain ⟨a6, cap6, rfl⟩ := ownsRow_slice hr6; clear hr6 hs6 hc6))
        | (go_at_call 14; ((with_reducible refine S6.out.idsC.mono ?_); rintro e w7 ⟨v, rfl, hr7, hs7, hb7⟩; have S7 := Lib.hid hs7; obtain ⟨a7, cap7, rfl⟩ := ownsRow_slice hr7; clear hr7 hs7 hb7))
        | (go_at_call 15; (with_reducible refine (meterAll_any _ _ 35 _ S7.out.m).mono ?_); rintro e w8 ⟨rfl, hb8⟩; have S8 := Lib.hid (S7.out.later hb8); clear hb8)
        | (go_at_call 16; (with_reducible refine S8.out.spentC.mono ?_); rintro e w9 ⟨rfl, rfl⟩))
      go_ret
      exact ⟨rfl, S8.out.b⟩
    · have hgI : 0 < (gk : Int) := by omega
      have hg64 : gk ≤ 64 := by omega
      have e1 : IntKind.i64.wrap (9 * (kn : Int)) = 9 * (kn : Int) := by rw [IntKind.wrap_i64]; omega
      have e2 : IntKind.i64.wrap ((gk : Int) - 9 * (kn : Int)) = (gk : Int) - 9 * (kn : Int) := by rw [IntKind.wrap_i64]; omega
      have e3 : max ((gk : Int) - 9 * (kn : Int)) 0 = (L : Int) := by omega
      have hm := aJ_mem L
      obtain ⟨sp2, hsp2⟩ : ∃ sp2, sp2 = sp + min gk (9 * kn) := ⟨_, rfl⟩
      rw [← hsp2] at SV
      have hsp3 : L + sp2 = L0 := by omega
      have HGL := Lib.hid (show L < gk by omega)
      have HS3 := Lib.hid hsp3
      have LC := Lib.hid (fun (w' : World) (h : SS w0 w' Sb QB QR mb nm3 kn (aJ L) g3 sp2 M (mUp MeterS.zero sp2) E) => h.leftC)
      rw [aJ_sum] at LC
      have HC := Lib.hid (fun (w' : World) (h : SS w0 w' Sb QB QR mb nm3 kn (aJ L) g3 sp2 M (mUp MeterS.zero sp2) E) => h.hasC 3)
      rw [hm] at HC
      clear hsp2 hm
      by_cases hL9 : gk ≤ 9 * kn
      · obtain rfl : L = 0 := by omega
        rw [if_pos (by omega)] at q2
        subst q2
        have h00 : ((0 : Nat) : Int) = 0 := rfl
        have h01 : ((1 : Nat) : Int) = 1 := rfl
        have h02 : decide ((0 : Nat) < 0) = false := rfl
        rw [h02] at HC
        clear hL h02 hsp3 hL9
        go_wp2_with (first
          | (go_at_call 11; ((with_reducible refine SV.out.mono ?_); rintro e w6 ⟨v, rfl, hr6, hs6, hc6⟩; have S6 := Lib.hid hs6; obtain ⟨a6, cap6, rfl⟩ := ownsRow_slice hr6; clear hr6 hs6 hc6))
          | (go_at_call 12; ((with_reducible refine (LC.out _ S6.out).mono ?_); rintro e w7 ⟨rfl, hs7, hb7⟩; have S7 := Lib.hid hs7; clear hs7 hb7))
          | (go_at_call 13; ((with_reducible refine (HC.out _ S7.out).mono ?_); rintro e w8 ⟨rfl, hs8, hb8⟩; have S8 := Lib.hid hs8; clear hs8 hb8)))
        go_roundg 0
        case measure => exact HGL.out
        case rel => exact ⟨sp2, rfl, HS3.out, S8.out⟩
      · have hLp : 0 < L := by omega
        have hLI : ¬ (L : Int) = 0 := by omega
        have hLJ : 0 < (L : Int) := by omega
        rw [if_neg (by omega)] at q2
        subst q2
        have h00 : ((0 : Nat) : Int) = 0 := rfl
        rw [decide_eq_true hLp] at HC
        clear hL hsp3 hL9
        go_wp2_with (first
          | (go_at_call 11; ((with_reducible refine SV.out.mono ?_); rintro e w6 ⟨v, rfl, hr6, hs6, hc6⟩; have S6 := Lib.hid hs6; obtain ⟨a6, cap6, rfl⟩ := ownsRow_slice hr6; clear hr6 hs6 hc6))
          | (go_at_call 12; ((with_reducible refine (LC.out _ S6.out).mono ?_); rintro e w7 ⟨rfl, hs7, hb7⟩; have S7 := Lib.hid hs7; clear hs7 hb7))
          | (go_at_call 13; ((with_reducible refine (HC.out _ S7.out).mono ?_); rintro e w8 ⟨rfl, hs8, hb8⟩; have S8 := Lib.hid hs8; clear hs8 hb8)))
        go_roundg L
        case measure => exact HGL.out
        case rel => exact ⟨sp2, rfl, HS3.out, S8.out⟩
end Go.Proofs.YtolhmibejhldkaaDoor
