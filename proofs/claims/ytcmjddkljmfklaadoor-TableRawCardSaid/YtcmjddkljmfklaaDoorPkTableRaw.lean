/- Texts joined: TableRaw. No condition but those that stand within. -/
import Derived.Test.YtcmjddkljmfklaaDoorPkSwar
import Derived.Test.YtcmjddkljmfklaaDoorPkMeter
import Derived.Test.YtcmjddkljmfklaaDoorPkErrs
import Derived.Test.YtcmjddkljmfklaaDoorPkGroup
import Derived.Test.YtcmjddkljmfklaaDoorPkTab
namespace Go.Proofs.YtcmjddkljmfklaaDoor
set_option linter.unusedVariables false
set_option linter.unusedSimpArgs false
open Go.RowKit Go.Proofs
attribute [local go_sem] neq_nilG eql_nilG

/-- a table of which so many groups are prepared -/
def rawT (n k : Nat) : TabS := ⟨n, fun i => if i < k then rep 128 else 0, fun _ _ => EntS.zero, 0, 0⟩
theorem rawT_clr (n k : Nat) : (rawT n k).clr k = rawT n (k + 1) := by
  unfold TabS.clr rawT
  simp only [TabS.mk.injEq, true_and, and_true]
  refine ⟨?_, ?_⟩
  · funext i
    unfold upd
    by_cases e : i = k
    · subst e; simp
    · by_cases c : i < k
      · rw [if_neg e]; simp only [if_pos c, if_pos (show i < k + 1 by omega)]
      · rw [if_neg e]; simp only [if_neg c, if_neg (show ¬ i < k + 1 by omega)]
  · funext i; unfold upd; split <;> rfl
/-- the meter behind k visits and p probes -/
def mtPV (p k : Nat) : MeterS := ⟨p, k, 0, p, k, 0, false, 0⟩
theorem mtPV_visit (p k : Nat) (hp : p ≤ 1000) (hk : k ≤ 1000) : (mtPV p k).add 0 1 0 = mtPV p (k + 1) := by
  have h0 : sumZ 0 0 = 0 := by decide
  have h1 : sumZ (k : Int) 1 = ((k + 1 : Nat) : Int) := by rw [sumZ_add (by omega) (by decide) (by omega)]; omega
  have h2 : sumZ (p : Int) 0 = (p : Int) := by rw [sumZ_add (by omega) (by decide) (by omega)]; omega
  unfold mtPV MeterS.add
  simp only [h0, h1, h2]
theorem mtPV_probe (p k : Nat) (hp : p ≤ 1000) (hk : k ≤ 1000) : (mtPV p k).add 1 0 0 = mtPV (p + 1) k := by
  have h0 : sumZ 0 0 = 0 := by decide
  have h1 : sumZ (p : Int) 1 = ((p + 1 : Nat) : Int) := by rw [sumZ_add (by omega) (by decide) (by omega)]; omega
  have h2 : sumZ (k : Int) 0 = (k : Int) := by rw [sumZ_add (by omega) (by decide) (by omega)]; omega
  unfold mtPV MeterS.add
  simp only [h0, h1, h2]
/-- a search in an empty table -/
theorem new_hit (n : Nat) (key : Int) (h g : Nat) : (TabS.new n).hit key h g = -1 := by
  unfold TabS.hit TabS.new
  dsimp only
  rcases find_cases (fun _ => EntS.zero) key (equalB (rep 128) (h % 128)) with ⟨e, -⟩ | ⟨k, -, hk, hf, -⟩
  · exact e
  · unfold equalB at hf
    rw [ln_rep 128 k (by decide) hk] at hf
    have : h % 128 < 128 := Nat.mod_lt _ (by decide)
    simp at hf; omega
theorem new_looks (n : Nat) (hn : 1 ≤ n) (key : Int) (h : Nat) : (TabS.new n).looks key h = 1 := by
  unfold TabS.looks
  refine lookN_is (Nat.le_refl _) hn (fun j hj => by omega) (fun _ => ?_)
  show (decide (0 ≤ (TabS.new n).hit key h ((TabS.new n).wk h 0)) || openB (rep 128)) = true
  rw [show openB (rep 128) = true by decide]; simp
theorem new_has (n : Nat) (key : Int) (h : Nat) : (TabS.new n).has key h = false := by
  unfold TabS.has TabS.atZ
  rw [new_hit]; decide
theorem new_ent (n : Nat) (key : Int) (h : Nat) : (TabS.new n).ent key h = EntS.zero := by
  unfold TabS.ent TabS.atZ
  rw [new_hit, if_neg (by decide)]
theorem rawT_all {w : World} {B Q n : Nat} (h : TS w B Q (rawT n n)) : TS w B Q (TabS.new n) :=
  ⟨h.head, h.ne, fun i hi => by
    have := h.at' i hi
    rwa [show (rawT n n).M i = rep 128 from if_pos hi] at this, h.lt⟩
set_option maxRecDepth 100000 in
set_option maxHeartbeats 8000000 in
theorem tableRaw_any (n : Int) (h : Nat) (hh : h < 18446744073709551616) (E : Nat → Addr) (w0 : World) (he : ErrsAre w0 E) (hT : Tab64 w0) :
    Calls Tryd.prog 9 #[.int .i64 n, .int .u64 (h : Int)] w0 fun e w' => e = .returned (.bool true) ∧ Below w0.heap.size w0 w' := by
  have HE := Lib.hid he
  have HEC := Lib.hid (show EC w0 E [1, 2, 4, 5, 14, 16] from he.ec.sub (by decide))
  have HT := Lib.hid hT
  have AL := Lib.hid (alive09_any E w0 he hT)
  have NU := Lib.hid (fun (w' : World) hb' => num_any E 1 (by decide) w' hb')
  clear he hT
  by_cases hr : rightB n = true
  · obtain ⟨g, rfl⟩ := Int.eq_ofNat_of_zero_le (show 0 ≤ n by rw [rightB_iff] at hr; omega)
    have hn := right_bd hr
    have RA := Lib.hid (fun (w' : World) => traw_ok g hr w')
    have NW := Lib.hid (fun (w' : World) => tnew_ok g hr w')
    have HR := Lib.hid hr
    clear hr
    have e0 : ((g : Int) != (g : Int)) = false := by simp
    rw [errN_nz E 1 (by decide)] at NU
    unfold errAt at NU
    go_enter Tryd.func9, Tryd.ntmps9
    go_wp2_with (first
      | (go_at_call 57; refine AL.out.mono ?_; rintro e w1 ⟨rfl, hb1⟩; have hz1 := hb1.size)
      | (go_at_call 66; refine (RA.out _).mono ?_; rintro e w2 ⟨B, Q, rfl, hB, hQ, ht, hb2⟩; have hz2 := hb2.size; have T2 := Lib.hid ht; have hlB := ht.head.lt; have hlQ := ht.lt; have hBQ := ht.ne; clear ht)
      | (go_at_call 58; refine (NW.out _).mono ?_; rintro e w3 ⟨C, R, rfl, hC, hR, ht, hb3⟩; have hz3 := hb3.size; have U3 := Lib.hid (TMW.new (w0 := w0) HR.out HEC.out HT.out (hb1.trans (hb2.mono hz1)) ht hb3 hC hR); have T3 := Lib.hid (T2.out.later hb3); have U4 := Lib.hid (U3.out.alloc (.cells (mtPV 0 0).cells 45)); have T4 := Lib.hid (T3.out.later ((Below.refl _ _).alloc (Nat.le_refl _) (.cells (mtPV 0 0).cells 45))); have M4 := Lib.hid (Blk.new w3 45 (mtPV 0 0).cells); have hlC := U3.out.ltB; have hlR := U3.out.ltQ; have hCR := U3.out.ne; have h40 := T4.out.head; simp only [MeterS.cells, mtPV] at h40 U4 T4 M4; clear ht U3 T3 T2)
      | (go_at_call 65; refine (tlen_any _ _ _ _ _ h40).mono ?_; rintro e w' ⟨rfl, rfl⟩)
      | (go_at_call 67; refine (ttombs_any _ _ _ _ _ h40).mono ?_; rintro e w' ⟨rfl, rfl⟩)
      | (go_at_call 68; refine (tgroups_any _ _ _ _ _ _ h40).mono ?_; rintro e w' ⟨rfl, rfl⟩))
    obtain ⟨M, hM⟩ : ∃ M, M = w3.heap.size := ⟨_, rfl⟩
    rw [← hM] at M4
    simp only [← hM]
    have hs : M ≠ B ∧ M ≠ Q ∧ M ≠ C ∧ M ≠ R ∧ B ≠ C ∧ B ≠ R ∧ Q ≠ C ∧ Q ≠ R ∧ w0.heap.size ≤ M ∧ w0.heap.size ≤ B ∧ w0.heap.size ≤ Q := by omega
    obtain ⟨hMB, hMQ, hMC, hMR, hBC, hBR, hQC, hQR, hM0, hB0, hQ0⟩ := hs
    have hr0 : Hid (TS (w3.alloc (.cells #[.int .i64 0, .int .i64 0, .int .i64 0, .int .i64 0, .int .i64 0, .int .i64 0, .bool false, .int .i64 0] 45)) B Q (rawT g 0)) := Lib.hid (by unfold TS rawT; simpa using T4.out)
    have hm0 : Hid (Blk (w3.alloc (.cells #[.int .i64 0, .int .i64 0, .int .i64 0, .int .i64 0, .int .i64 0, .int .i64 0, .bool false, .int .i64 0] 45)) M 45 (mtPV 0 0).cells) := M4
    have hU0 : Hid (TMW (w3.alloc (.cells #[.int .i64 0, .int .i64 0, .int .i64 0, .int .i64 0, .int .i64 0, .int .i64 0, .bool false, .int .i64 0] 45)) C R none (TabS.new g) MeterS.zero E w0) := U4
    clear hM T4 U4 M4 hlB hlQ hlC hlR hz1 hz2 hz3 hb1 hb2 hb3 h40 hB hQ hC hR AL RA NW
    go_loopw [72] (fun v72 wr => ∃ k : Nat, k ≤ g ∧ v72 = .int .i64 (k : Int) ∧ TS wr B Q (rawT g k) ∧ Blk wr M 45 (mtPV 0 k).cells ∧ TMW wr C R none (TabS.new g) MeterS.zero E w0) (fun v72 _ => g - (intOf v72).toNat)
    case atStart => exact ⟨0, Nat.zero_le _, rfl, hr0.out, hm0.out, hU0.out⟩
    case round =>
      clear hr0 hm0 hU0
      obtain ⟨k, hk, rfl, ht, hm, hU⟩ := hrel
      have KT := Lib.hid ht
      have KM := Lib.hid hm
      have KU := Lib.hid hU
      clear ht hm hU
      by_cases hlt : k < g
      · have hltI : (k : Int) < (g : Int) := by omega
        have hv := mtPV_visit 0 k (by omega) (by omega)
        have PR := Lib.hid (fun (w' : World) hW' hL' hlp' => tprepare_ok B Q (rawT g k) (show g ≤ 64 from hn.2) k hlt _ (some M) (LensAt.m M) (mtPV 0 k) 0 1 0 w' hW' hL' hlp')
        rw [rawT_clr, hv] at PR
        clear hv
        go_wp2_with (first
          | (go_at_call 45; refine (working_any _ _).mono ?_; rintro e w5 ⟨rfl, hb5⟩; have KT5 := Lib.hid (KT.out.later hb5); have KM5 := Lib.hid (KM.out.below hb5 KM.out.lt); have KU5 := Lib.hid (KU.out.later hb5))
          | (go_at_call 69; refine (PR.out _ KT5.out (fun M' e => by cases e; exact KM5.out) (fun b e => by cases e; exact ⟨KM5.out.lt, hMB, hMQ⟩)).mono ?_; rintro e w6 ⟨rfl, ht6, hl6, hc6⟩; have KT6 := Lib.hid ht6; have KM6 := Lib.hid (hl6 M rfl); have KU6 := Lib.hid (KU5.out.chg hc6 (by rintro b (e | e); cases e; exact hM0; omega) (by rintro (e | e); cases e; exact hMC rfl; omega) (by rintro (e | e); cases e; exact hMR rfl; omega) (fun b e => by cases e)); clear ht6 hl6 hc6))
        go_roundw
        case rel => exact ⟨k + 1, by omega, by go_num, KT6.out, KM6.out, KU6.out⟩
        case measure => simp [intOf]; omega
      · obtain rfl : k = g := by omega
        have KS := Lib.hid (show TMW wr B Q (some M) (TabS.new k) (mtPV 0 k) E w0 from ⟨rawT_all KT.out, TGood.new HR.out, (fun M' e => by cases e; exact KM.out), KU.out.low, KU.out.bel, hB0, hQ0, (fun b e => by cases e; exact ⟨hMB, hMQ, hM0⟩)⟩)
        have FI := Lib.hid (fun (w' : World) hs' => TMW.find (w := w') (w0 := w0) (B := B) (Q := Q) (lp := some M) (T := TabS.new k) (mt := mtPV 0 k) (E := E) hs' 1 h hh _ (LensAt.m M) 1 0 0)
        rw [new_has, new_ent, new_looks k hn.1 1 h, show addN (mtPV 0 k) 1 0 0 1 = mtPV 1 k from mtPV_probe 0 k (by omega) (by omega)] at FI
        simp only [EntS.zero] at FI
        have AM := Lib.hid (fun (w' : World) hM' => meterAll_any (mtPV 1 k) M 45 w' hM')
        simp only [mtPV] at AM
        have ST := Lib.hid (fun (v1 v2 : Value) (w' : World) h1 h2 => sameTexts_any v1 v2 (TabS.new k).texts w' h1 h2 (by rw [TabS.texts_len]; show k < _; omega))
        have PB := Lib.hid (fun (i : Int) hi (w' : World) hW' he' => tprepare_bad B Q (TabS.new k) (show k ≤ 64 from hn.2) i hi 0 1 0 (some ⟨M, 0, none⟩) E w' hW' he')
        unfold errAt at PB
        clear KT KM
        go_wp2_with (first
          | (go_at_call 38; refine (probing_any _ _).mono ?_; rintro e w5 ⟨rfl, hb5⟩; have KS5 := Lib.hid (KS.out.later hb5); have KU5 := Lib.hid (KU.out.later hb5); clear KS KU)
          | (go_at_call 64; refine (FI.out _ KS5.out).mono ?_; rintro e w6 ⟨rfl, hs6, hc6⟩; have KS6 := Lib.hid (hs6.alloc (.cells #[.int .u64 0, .int .u64 0, .int .u64 0] 62)); have KU6 := Lib.hid ((KU5.out.chg hc6 (by rintro b e; cases e; exact hM0) (by rintro e; cases e; exact hMC rfl) (by rintro e; cases e; exact hMR rfl) (fun b e => by cases e)).alloc (.cells #[.int .u64 0, .int .u64 0, .int .u64 0] 62)); clear hs6 hc6 KS5 KU5)
          | (go_at_call 27; refine (AM.out _ (KS6.out.m M rfl)).mono ?_; rintro e w7 ⟨rfl, hb7⟩; have KS7 := Lib.hid (KS6.out.later hb7); have KU7 := Lib.hid (KU6.out.later hb7); clear KS6 KU6)
          | (go_at_call 71; refine (TMW.text KS7.out).mono ?_; rintro e w8 ⟨tv1, rfl, hr8, hb8⟩; have KR8 := Lib.hid hr8; have KS8 := Lib.hid (KS7.out.later hb8); have KU8 := Lib.hid (KU7.out.later hb8); clear hr8 KS7 KU7)
          | (go_at_call 71; refine (TMW.text KU8.out).mono ?_; rintro e w9 ⟨tv2, rfl, hr9, hb9⟩; have KR9 := Lib.hid hr9; have KQ9 := Lib.hid (KR8.out.later hb9); have KS9 := Lib.hid (KS8.out.later hb9); clear hr9 KS8 KR8)
          | (go_at_call 70; refine (ST.out _ _ _ KQ9.out KR9.out).mono ?_; rintro e w' ⟨rfl, rfl⟩)
          | (go_at_call 45; refine (working_any _ _).mono ?_; rintro e w10 ⟨rfl, hb10⟩; have KS10 := Lib.hid (KS9.out.later hb10); clear KS9)
          | (go_at_call 69; refine (PB.out _ (.inr (Int.le_refl _)) _ KS10.out.t (KS10.out.low.e.sub (by decide))).mono ?_; rintro e w11 ⟨rfl, hb11⟩; have KS11 := Lib.hid (KS10.out.later hb11); clear KS10)
          | (go_at_call 16; refine (NU.out _ (HE.out.below KS11.out.bel)).mono ?_; rintro e w12 ⟨rfl, hb12⟩; have KS12 := Lib.hid (KS11.out.later hb12); clear KS11)
          | (go_at_call 45; refine (working_any _ _).mono ?_; rintro e w13 ⟨rfl, hb13⟩; have KS13 := Lib.hid (KS12.out.later hb13); clear KS12)
          | (go_at_call 69; refine (PB.out _ (.inl (by decide)) _ KS13.out.t (KS13.out.low.e.sub (by decide))).mono ?_; rintro e w14 ⟨rfl, hb14⟩; have KS14 := Lib.hid (KS13.out.later hb14); clear KS13)
          | (go_at_call 16; refine (NU.out _ (HE.out.below KS14.out.bel)).mono ?_; rintro e w15 ⟨rfl, hb15⟩; have KS15 := Lib.hid (KS14.out.later hb15)))
        go_ret
        exact ⟨rfl, KS15.out.bel⟩
  · replace hr : rightB n = false := by simpa using hr
    have RA := Lib.hid (fun (w' : World) he' => traw_bad n hr E w' he')
    have NW := Lib.hid (fun (w' : World) he' => tnew_bad n hr E w' he')
    rw [errN_nz E 1 (by decide)] at NU
    unfold errAt at *
    clear hr
    go_enter Tryd.func9, Tryd.ntmps9
    go_wp2_with (first
      | (go_at_call 57; refine AL.out.mono ?_; rintro e w1 ⟨rfl, hb1⟩)
      | (go_at_call 66; refine (RA.out _ ((HEC.out.sub (by decide)).below hb1)).mono ?_; rintro e w2 ⟨rfl, hb2⟩; have hB2 := hb1.trans (hb2.mono hb1.size))
      | (go_at_call 58; refine (NW.out _ ((HEC.out.sub (by decide)).below hB2)).mono ?_; rintro e w3 ⟨rfl, hb3⟩; have hB3 := hB2.trans (hb3.mono hB2.size))
      | (go_at_call 16; refine (NU.out _ (HE.out.below hB3)).mono ?_; rintro e w4 ⟨rfl, hb4⟩; have hB4 := hB3.trans (hb4.mono hB3.size))
      | (go_at_call 16; refine (NU.out _ (HE.out.below hB4)).mono ?_; rintro e w5 ⟨rfl, hb5⟩; have hB5 := hB4.trans (hb5.mono hB4.size)))
    go_ret
    exact ⟨rfl, hB5⟩
end Go.Proofs.YtcmjddkljmfklaaDoor
