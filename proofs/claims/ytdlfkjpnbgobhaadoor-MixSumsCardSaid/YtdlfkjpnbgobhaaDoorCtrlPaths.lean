/- The walk of CtrlPaths. Condition: the errors. -/
import Derived.Test.YtdlfkjpnbgobhaaDoorCtrlSets
import Derived.Test.YtdlfkjpnbgobhaaDoorRows2
namespace Go.Proofs.YtdlfkjpnbgobhaaDoor
set_option linter.unusedVariables false
set_option linter.unusedSimpArgs false
open Go.RowKit Go.Proofs

/-- bytes that are control bytes -/
def Good (l : Nat → Nat) : Prop := ∀ j, j < 8 → l j < 256 ∧ ctrlB (l j) = true
theorem Good.set {l : Nat → Nat} (h : Good l) (i b : Nat) (hb : b < 256) (hc : ctrlB b = true) : Good (fun j => if j = i then b else l j) := fun j hj => by
  dsimp only
  split
  · exact ⟨hb, hc⟩
  · exact h j hj
theorem setL_ofL (l : Nat → Nat) (i b : Nat) (hl : ∀ j, j < 8 → l j < 256) : setL (ofL l) i b = ofL (fun j => if j = i then b else l j) := by
  unfold setL
  refine ofL_congr fun k hk => ?_
  rw [ln_ofL l hl k hk]
theorem textW_ofL (l : Nat → Nat) (hl : ∀ j, j < 8 → l j < 256) (i : Nat) (hi : i < 8) (h : i < (textW (ofL l)).size) : ((textW (ofL l))[i]'h).toNat = sgn (l i) := by
  have hd : (textW (ofL l)).data = ((List.range 8).map fun i => signK (kindN (ln (ofL l) i))).toArray := rfl
  have : (textW (ofL l))[i]'h = signK (kindN (ln (ofL l) i)) := by
    show (textW (ofL l)).data[i]'h = _
    simp [hd]
  rw [this, ln_ofL l hl i hi]
  rfl
theorem RowsAt.cell1 {w : World} {v : Value} {n : Nat} {kd : IntKind} {f : Nat → Nat → Int} (h : RowsAt w v n 1 kd f) : ∃ a cap, v = .slice a n cap ∧ (n ≠ 0 → ∃ b off, a = some ⟨b, off, none⟩ ∧ b < w.heap.size ∧ ∀ w', Below w.heap.size w w' → ∀ i, i < n → w'.cell? ⟨b, off + i, none⟩ = some (.int kd (f i 0))) := by
  obtain ⟨⟨a, cap, rfl, hx⟩, hwf, hm⟩ := h
  refine ⟨a, cap, rfl, fun hn => ?_⟩
  obtain ⟨b, off, rfl, hc⟩ := hx hn
  exact ⟨b, off, rfl, World.block_lt_of_cell? _ _ (hc 0 (by omega) 0 (by omega)), fun w' hb i hi => by
    have := hc i hi 0 (by decide)
    rw [Nat.mul_one, Nat.add_zero] at this
    exact (hb.cell (World.block_lt_of_cell? _ _ this)).trans this⟩
set_option maxRecDepth 100000 in
set_option maxHeartbeats 8000000 in
theorem ctrlPaths_any (v1 v2 : Value) (n1 n2 : Nat) (f g : Nat → Nat → Int) (E : Nat → Addr) (w0 : World) (he : ErrsAre w0 E) (h1 : RowsAt w0 v1 n1 1 .i64 f) (h2 : RowsAt w0 v2 n2 1 .u8 g) :
    Calls Tryd.prog 10 #[v1, v2] w0 fun e w' => e = .returned (.bool true) ∧ Below w0.heap.size w0 w' := by
  have m1 := h1.2.2
  have m2 := h2.2.2
  have hwf := h2.2.1
  obtain ⟨a1, cap1, rfl, hx1⟩ := h1.cell1
  obtain ⟨a2, cap2, rfl, hx2⟩ := h2.cell1
  unfold maxLen at m1 m2
  have HE := Lib.hid he
  have HX1 := Lib.hid hx1
  have HX2 := Lib.hid hx2
  have HW := Lib.hid (show ∀ i, i < n2 → ∃ c : Nat, c < 256 ∧ g i 0 = (c : Int) from fun i hi => by
    have := hwf i hi 0 (by decide)
    have h' : 0 ≤ g i 0 ∧ g i 0 ≤ 255 := by simpa [Lit.wf, IntKind.has, IntKind.min, IntKind.max, IntKind.signed, IntKind.bits] using this
    exact ⟨(g i 0).toNat, by omega, by omega⟩)
  have HE3 := Lib.hid (show EC w0 E [1, 3] from he.ec.sub (by decide))
  have AL := Lib.hid alive02_any
  have NW := Lib.hid (fun w => cnew_any w)
  clear h1 h2 hx1 hx2 he hwf
  by_cases g1 : 40 < n1
  · have g1' : decide ((n1 : Int) > 40) = true := by simp; omega
    have g1'' : (40 : Int) < (n1 : Int) := by omega
    go_enter Tryd.func10, Tryd.ntmps10
    go_wp2_with (go_at_call 15; refine (AL.out _).mono ?_; rintro e w1 ⟨rfl, hb1⟩)
    go_ret
    exact ⟨rfl, hb1⟩
  have g1' : decide ((40 : Int) < (n1 : Int)) = false := by simp; omega
  by_cases g2 : n2 < n1
  · have g2' : (n2 : Int) < (n1 : Int) := by omega
    have g3' : decide (n2 < n1) = true := by simpa using g2
    go_enter Tryd.func10, Tryd.ntmps10
    go_wp2_with (go_at_call 15; refine (AL.out _).mono ?_; rintro e w1 ⟨rfl, hb1⟩)
    go_ret
    exact ⟨rfl, hb1⟩
  have g3' : decide (n2 < n1) = false := by simp; omega
  have hr : rep 128 = ofL (fun _ => 128) := rep_ofL 128
  rw [hr] at NW
  clear hr
  go_enter Tryd.func10, Tryd.ntmps10
  go_wp2_with (first
    | (go_at_call 15; refine (AL.out _).mono ?_; rintro e w1 ⟨rfl, hb1⟩)
    | (go_at_call 53; refine (NW.out _).mono ?_; rintro e w' ⟨rfl, rfl⟩))
  obtain ⟨L, hL⟩ : ∃ L, L = w1.heap.size := ⟨_, rfl⟩
  rw [← hL]
  refine wp_at (fun wa hwa => ?_)
  have hBa := Lib.hid (show Below w0.heap.size w0 wa by rw [hwa]; exact hb1.alloc hb1.size _)
  have hQa := Lib.hid (show Blk wa L 28 (byteL (fun _ => 128)).toArray by rw [hwa, hL]; exact Blk.new _ _ _)
  have hL0 : w0.heap.size ≤ L := by rw [hL]; exact hb1.size
  clear hwa hL hb1
  go_loopw [5, 7, 8, 9, 10, 31] (fun v5 _ _ _ _ v31 wr => ∃ (k : Nat) (l : Nat → Nat), k ≤ n1 ∧ v31 = .int .i64 (k : Int) ∧ Good l ∧ v5 = .int .u64 ((ofL l : Nat) : Int) ∧ Blk wr L 28 (byteL l).toArray ∧ Below w0.heap.size w0 wr) (fun _ _ _ _ _ v31 _ => n1 - (intOf v31).toNat)
  case atStart => exact ⟨0, fun _ => 128, Nat.zero_le _, rfl, fun _ _ => ⟨show 128 < 256 by decide, show ctrlB 128 = true by decide⟩, rfl, hQa.out, hBa.out⟩
  case round =>
    clear hQa hBa
    obtain ⟨k, l, hk, rfl, hg, rfl, hQ, hB⟩ := hrel
    have HG := Lib.hid hg
    have hw := ofL_lt l (fun j hj => (hg j hj).1)
    have HO := Lib.hid (fun i b => setL_ofL l i b (fun j hj => (HG.out j hj).1))
    have HQ := Lib.hid hQ
    have HB := Lib.hid hB
    clear hg hQ hB
    by_cases hlt : k < n1
    · obtain ⟨b1, o1, rfl, -, hc1⟩ := HX1.out (by omega)
      obtain ⟨b2, o2, rfl, -, hc2⟩ := HX2.out (by omega)
      have c1 := hc1 wr HB.out k hlt
      have c2 := hc2 wr HB.out k (by omega)
      obtain ⟨b, hb, hgb⟩ := HW.out k (by omega)
      rw [hgb] at c2
      have hkn : (k : Int) < (n2 : Int) := by omega
      have HC2 := Lib.hid hc2
      replace hgb := Lib.hid hgb
      clear hc1 hc2
      generalize f k 0 = x at c1
      by_cases hx : x < 0 ∨ 8 ≤ x
      · have SE := Lib.hid (fun w' h => cset_range (ofL l) b x hx E w' h)
        have NU := Lib.hid (fun w' h => num_any E 1 (by decide) w' h)
        simp only [errN, errAt] at NU SE
        obtain ⟨m, hm0⟩ : ∃ m, m = ofL l := ⟨_, rfl⟩
        rw [← hm0] at SE hw ⊢
        have hm := Lib.hid (show Value.int .u64 (m : Int) = .int .u64 ((ofL l : Nat) : Int) by rw [hm0])
        clear hm0 HO
        by_cases hx0 : x < 0
        · have e1 : decide (x < 0) = true := by simpa using hx0
          clear hx hx0
          go_wp2_with (first
            | (go_at_call 51; refine (SE.out _ ((HE3.out.below HB.out).sub (by decide))).mono ?_; rintro e w2 ⟨rfl, hb2⟩; have hb3 := HB.out.trans (hb2.mono HB.out.size); have HQ2 := Lib.hid (HQ.out.below hb2 HQ.out.lt))
            | (go_at_call 40; refine (NU.out _ (HE.out.below hb3)).mono ?_; rintro e w4 ⟨rfl, hb4⟩; have hb5 := hb3.trans (hb4.mono hb3.size)))
          go_roundw
          case rel => exact ⟨k + 1, l, by omega, by go_num, HG.out, hm.out, HQ2.out.below hb4 HQ2.out.lt, hb5⟩
          case measure => simp [intOf]; omega
        · have e1 : decide (x < 0) = false := by simpa using hx0
          have e2 : decide (x > 7) = true := by simp; omega
          clear hx hx0
          go_wp2_with (first
            | (go_at_call 51; refine (SE.out _ ((HE3.out.below HB.out).sub (by decide))).mono ?_; rintro e w2 ⟨rfl, hb2⟩; have hb3 := HB.out.trans (hb2.mono HB.out.size); have HQ2 := Lib.hid (HQ.out.below hb2 HQ.out.lt))
            | (go_at_call 40; refine (NU.out _ (HE.out.below hb3)).mono ?_; rintro e w4 ⟨rfl, hb4⟩; have hb5 := hb3.trans (hb4.mono hb3.size)))
          go_roundw
          case rel => exact ⟨k + 1, l, by omega, by go_num, HG.out, hm.out, HQ2.out.below hb4 HQ2.out.lt, hb5⟩
          case measure => simp [intOf]; omega
      · obtain ⟨i, rfl⟩ : ∃ i : Nat, x = (i : Int) := ⟨x.toNat, by omega⟩
        have hi : i < 8 := by omega
        have e1 : decide ((i : Int) < 0) = false := by simp
        have e2 : decide ((i : Int) > 7) = false := by simp; omega
        by_cases hc : ctrlB b = true
        · have SE := cset_ok (ofL l) i b hw hi hb hc
          rw [HO.out i b] at SE
          have hg2 := Lib.hid (HG.out.set i b hb hc)
          have BS := Lib.hid (byteL_set l i b hi)
          have BG := Lib.hid (byteL_get l i hi)
          obtain ⟨l2, hl2⟩ : ∃ l2 : Nat → Nat, l2 = fun j => if j = i then b else l j := ⟨_, rfl⟩
          rw [← hl2] at SE hg2 BS
          obtain ⟨m2, hm20⟩ : ∃ m, m = ofL l2 := ⟨_, rfl⟩
          rw [← hm20] at SE
          have hm2 := Lib.hid (show Value.int .u64 (m2 : Int) = .int .u64 ((ofL l2 : Nat) : Int) by rw [hm20])
          replace SE := Lib.hid SE
          generalize ofL l = m at *
          clear hl2 hc hx HO hm20
          go_wp2_with (go_at_call 51; refine (SE.out _).mono ?_; rintro e w2 ⟨rfl, hb2⟩; have hb3 := HB.out.trans (hb2.mono HB.out.size); have c92 := HC2.out w2 hb3 k (by omega); rw [hgb.out] at c92; have q2 := HQ.out.below hb2 HQ.out.lt; have c82 := q2.cell i; rw [BG.out] at c82; have f82 := q2.frozen i; have q3 := q2.set i (.int .u8 (b : Int)); rw [BS.out] at q3; replace q3 := Lib.hid q3; clear q2)
          go_roundw
          case rel => exact ⟨k + 1, l2, by omega, by go_num, hg2.out, hm2.out, q3.out, hb3.setCell (p := ⟨L, i, none⟩) hL0 _⟩
          case measure => simp [intOf]; omega
        · have SE := Lib.hid (fun w' h => cset_form (ofL l) b i (by omega) (by omega) hb (by simpa using hc) E w' h)
          have NU := Lib.hid (fun w' h => num_any E 3 (by decide) w' h)
          simp only [errN, errAt] at NU SE
          obtain ⟨m, hm0⟩ : ∃ m, m = ofL l := ⟨_, rfl⟩
          rw [← hm0] at SE hw ⊢
          have hm := Lib.hid (show Value.int .u64 (m : Int) = .int .u64 ((ofL l : Nat) : Int) by rw [hm0])
          clear hm0 HO hx hc
          go_wp2_with (first
            | (go_at_call 51; refine (SE.out _ ((HE3.out.below HB.out).sub (by decide))).mono ?_; rintro e w2 ⟨rfl, hb2⟩; have hb3 := HB.out.trans (hb2.mono HB.out.size); have HQ2 := Lib.hid (HQ.out.below hb2 HQ.out.lt))
            | (go_at_call 40; refine (NU.out _ (HE.out.below hb3)).mono ?_; rintro e w4 ⟨rfl, hb4⟩; have hb5 := hb3.trans (hb4.mono hb3.size)))
          go_roundw
          case rel => exact ⟨k + 1, l, by omega, by go_num, HG.out, hm.out, HQ2.out.below hb4 HQ2.out.lt, hb5⟩
          case measure => simp [intOf]; omega
    · obtain rfl : k = n1 := by omega
      have TX := ctext_any (ofL l) hw
      have IT := textW_ofL l (fun j hj => (HG.out j hj).1)
      have hsz : (textW (ofL l)).size = 8 := textTo_size _ _
      have RT := cright_any (ofL l) hw
      rw [(rightB_iff (ofL l)).2 (fun i hi => by rw [ln_ofL l (fun j hj => (HG.out j hj).1) i hi]; exact (HG.out i hi).2)] at RT
      have GT := fun (j : Nat) (hj : j < 8) (w : World) => cget_in (ofL l) j hw hj w
      have LN := Lib.hid (ln_ofL l (fun j hj => (HG.out j hj).1))
      obtain ⟨tx, htx⟩ : ∃ t, t = textW (ofL l) := ⟨_, rfl⟩
      rw [← htx] at TX IT hsz
      replace GT := Lib.hid (show ∀ j : Nat, j < 8 → ∀ w : World, Calls Tryd.prog 30 #[.int .u64 ((ofL l : Nat) : Int), .int .i64 (j : Int)] w fun e w' => e = .returned (.int .u8 ((l j : Nat) : Int)) ∧ w = w' from fun j hj w => by have := GT j hj w; rw [LN.out j hj] at this; exact this)
      have IX := Lib.hid (ix_byte l)
      generalize ofL l = m at *
      replace TX := Lib.hid TX
      replace IT := Lib.hid IT
      replace RT := Lib.hid RT
      clear htx LN HO
      go_wp2_with (first
        | (go_at_call 28; refine (TX.out _).mono ?_; rintro e w2 ⟨rfl, hb2⟩; have hb3 := HB.out.trans (hb2.mono HB.out.size); have q2 := Lib.hid (HQ.out.below hb2 HQ.out.lt))
        | (go_at_call 26; refine (RT.out _).mono ?_; rintro e w' ⟨rfl, rfl⟩)
        | (refine wpList_value rfl (exec_loadAll (t := 28) rfl rfl Tryd.underlying28 rfl q2.out (Tryd.sizeOf28 _)) ?_))
      clear hb2
      go_loop [12, 13, 14, 77] (fun _ _ _ v77 => ∃ k : Nat, k ≤ 8 ∧ v77 = .int .i64 (k : Int)) (fun _ _ _ v77 => 8 - (intOf v77).toNat)
      case atStart => exact ⟨0, by omega, rfl⟩
      case round =>
        obtain ⟨j, hj, rfl⟩ := hrel
        by_cases hlt : j < 8
        · have ix := IX.out j hlt
          have it := IT.out j hlt (by omega)
          have gt := GT.out j hlt
          obtain ⟨hl1, hl2⟩ := HG.out j hlt
          generalize l j = c at *
          replace gt := Lib.hid gt
          have e0 : ((c : Int) != (c : Int)) = false := by simp
          by_cases h1 : c = 128
          · subst h1
            rw [show sgn 128 = 46 by rfl] at it
            clear hl2
            go_wp2_with (go_at_call 30; refine (gt.out _).mono ?_; rintro e w' ⟨rfl, rfl⟩)
            go_round
            case rel => exact ⟨j + 1, by omega, by go_num⟩
            case measure => simp [intOf]; omega
          by_cases h2 : c = 254
          · subst h2
            rw [show sgn 254 = 120 by rfl] at it
            clear hl2
            go_wp2_with (go_at_call 30; refine (gt.out _).mono ?_; rintro e w' ⟨rfl, rfl⟩)
            go_round
            case rel => exact ⟨j + 1, by omega, by go_num⟩
            case measure => simp [intOf]; omega
          · have hlt2 : c < 128 := by unfold ctrlB at hl2; simp at hl2; omega
            rw [show sgn c = 35 by unfold sgn kindN; rw [if_neg h1, if_neg h2, if_pos hlt2]; rfl] at it
            have e1 : ((c : Int) == 128) = false := by simp; omega
            have e2 : ((c : Int) == 254) = false := by simp; omega
            have e3 : (c == 128) = false := by simp; omega
            have e4 : (c == 254) = false := by simp; omega
            clear hl2 h1 h2
            go_wp2_with (go_at_call 30; refine (gt.out _).mono ?_; rintro e w' ⟨rfl, rfl⟩)
            go_round
            case rel => exact ⟨j + 1, by omega, by go_num⟩
            case measure => simp [intOf]; omega
        · obtain rfl : j = 8 := by omega
          go_wp2
          go_ret
          exact ⟨rfl, hb3⟩
end Go.Proofs.YtdlfkjpnbgobhaaDoor
