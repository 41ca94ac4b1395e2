/- The walk of QueueStays. Condition: the errors' cells. -/
import Derived.Test.YtaegjdkmnkjggaaDoorQueueL
import Derived.Test.YtaegjdkmnkjggaaDoorRows2
namespace Go.Proofs.YtaegjdkmnkjggaaDoor
set_option linter.unusedVariables false
set_option linter.unusedSimpArgs false
open Go.RowKit Go.Proofs

/-- a row of arguments as a list -/
theorem readsInts_rows {w : World} {v : Value} {n : Nat} {f : Nat → Int} (h : RowsAt w v n 1 .i64 (fun i _ => f i)) : ReadsInts w v ((List.range n).map f) := by
  obtain ⟨⟨a, cap, rfl, hx⟩, -, -⟩ := h
  refine ⟨a, cap, by simp, fun hne => ?_⟩
  have hn : n ≠ 0 := by intro e; subst e; exact hne rfl
  obtain ⟨b, off, rfl, hc⟩ := hx hn
  refine ⟨b, off, rfl, fun i hi => ?_⟩
  have hi' : i < n := by simpa using hi
  simpa using hc i hi' 0 (by decide)
theorem ReadsInts.cellsOf {w : World} {v : Value} {xs : List Int} (h : ReadsInts w v xs) : ∃ a cap, v = .slice a xs.length cap ∧ ∀ k (hk : k < xs.length), ∃ b off, a = some ⟨b, off, none⟩ ∧ ∀ w', Below w.heap.size w w' → w'.cell? ⟨b, off + k, none⟩ = some (.int .i64 xs[k]) := by
  obtain ⟨a, cap, rfl, hx⟩ := h
  refine ⟨a, cap, rfl, fun k hk => ?_⟩
  obtain ⟨b, off, rfl, hc⟩ := hx (fun e => by rw [e] at hk; simp at hk)
  exact ⟨b, off, rfl, fun w' hb => (hb.cell (World.block_lt_of_cell? _ _ (hc k hk))).trans (hc k hk)⟩
theorem ownsRow_chg {X : Nat → Prop} {w w' : World} {base : Nat} {e : TypeId} {size n : Nat} {v : Value} {xs : List Value} (h : w.ownsRow base e size v n xs) (hc : Chg X w w') (hX : ∀ b, base ≤ b → ¬ X b) : w'.ownsRow base e size v n xs := by
  refine ⟨h.1, ?_⟩
  rcases h.2 with h' | ⟨g, cap, cur, rfl, hb, hg, hr⟩
  · exact .inl h'
  · exact .inr ⟨g, cap, cur, rfl, hb, (hc.block g (Array.getElem?_eq_some_iff.1 hg).1 (hX g hb)).trans hg, hr⟩
theorem ownsRow_base {w : World} {base base' : Nat} {e : TypeId} {size n : Nat} {v : Value} {xs : List Value} (h : w.ownsRow base e size v n xs) (hb : base' ≤ base) : w.ownsRow base' e size v n xs := by
  refine ⟨h.1, ?_⟩
  rcases h.2 with h' | ⟨g, cap, cur, rfl, hb', hg, hr⟩
  · exact .inl h'
  · exact .inr ⟨g, cap, cur, rfl, Nat.le_trans hb hb', hg, hr⟩
theorem ownsRow_empty {w : World} {g : Nat} {e : TypeId} (h : Blk w g e #[]) : w.ownsRow g e 1 (.slice (some ⟨g, 0, none⟩) 0 0) 0 [] :=
  ⟨by simp, .inr ⟨g, 0, #[], rfl, Nat.le_refl _, h, by simp, by decide, rfl, by simp⟩⟩
/-- behind an append to a row beyond base -/
theorem below_append {w w1 : World} {base : Nat} {e : TypeId} {size n : Nat} {v : Value} {xs : List Value} {tmp : Obj} (h : w.ownsRow base e size v n xs) (hb : base ≤ w.heap.size) (hg : (w.alloc tmp).grownBy w1 v.ownBlock) : Below base w w1 :=
  ((Below.refl _ _).alloc hb _).grown hg (by simp; omega) (fun k ek => (h.lt k ek).1)
theorem cutL_len (xs : List Int) (x : Int) : decide ((cutL xs x).length < xs.length) = decide (x ∈ xs) := by
  rw [decide_eq_decide]
  unfold cutL
  constructor
  · intro h
    by_cases hx : x ∈ xs
    · exact hx
    · have := filter_miss hx; rw [this] at h; omega
  · intro hx
    have h1 := List.length_filter_le (fun y => decide (y ≠ x)) xs
    rcases Nat.lt_or_ge (xs.filter fun y => decide (y ≠ x)).length xs.length with h | h
    · exact h
    · have := (List.length_filter_eq_length_iff (p := fun y => decide (y ≠ x)) (l := xs)).1 (by omega) x hx
      simp at this
theorem cutL_take (xs : List Int) (x : Int) (j : Nat) (hj : j < xs.length) : cutL (xs.take (j + 1)) x = if xs[j] = x then cutL (xs.take j) x else cutL (xs.take j) x ++ [xs[j]] := by
  unfold cutL
  rw [List.take_succ_eq_append_getElem hj, List.filter_append]
  by_cases h : xs[j] = x <;> simp [h]
theorem cutL_le (xs : List Int) (x : Int) : (cutL xs x).length ≤ xs.length := List.length_filter_le _ _
theorem pushL_in {n : Nat} {xs : List Int} {x : Int} (h : x ∈ xs) : pushL n xs x = xs ∧ pushN n xs x = 16 := by
  have : pushN n xs x = 16 := by unfold pushN; rw [if_pos h]
  unfold pushL; rw [this]; exact ⟨rfl, rfl⟩
theorem pushL_new {n : Nat} {xs : List Int} {x : Int} (h : x ∉ xs) (hl : xs.length < n) : pushL n xs x = xs ++ [x] ∧ pushN n xs x = 0 := by
  have : pushN n xs x = 0 := by unfold pushN; rw [if_neg h, if_pos hl]
  unfold pushL; rw [this]; exact ⟨rfl, rfl⟩

set_option maxRecDepth 100000 in
set_option maxHeartbeats 8000000 in
theorem queueStays_any (v1 v2 : Value) (ids gone : List Int) (E : Nat → Addr) (w0 : World) (he : EC w0 E [1, 2, 16]) (h1 : ReadsInts w0 v1 ids) (h2 : ReadsInts w0 v2 gone) (m1 : ids.length ≤ maxLen) (m2 : gone.length ≤ maxLen) :
    Calls Tryd.prog 3 #[v1, v2] w0 fun e w' => e = .returned (.bool true) ∧ Below w0.heap.size w0 w' := by
  obtain ⟨a1, cap1, rfl, hc1⟩ := h1.cellsOf
  obtain ⟨a2, cap2, rfl, hc2⟩ := h2.cellsOf
  unfold maxLen at m1 m2
  have HE := Lib.hid he
  have HC1 := Lib.hid hc1
  have HC2 := Lib.hid hc2
  clear h1 h2 hc1 hc2 he
  obtain ⟨i0, hi, hz0, hz1, hz2⟩ := info_parts info3q
  have ha := Lib.hid (alive18_any E w0 HE.out)
  by_cases g1 : 40 < ids.length
  · have g1' : (40 : Int) < (ids.length : Int) := by omega
    go_enter Tryd.func3, Tryd.ntmps3
    go_wp2_with (go_at_call 14; refine ha.out.mono ?_; rintro e w1 ⟨rfl, hb1⟩)
    go_ret
    exact ⟨rfl, hb1⟩
  · by_cases g2 : 60 < gone.length
    · have g2' : (60 : Int) < (gone.length : Int) := by omega
      have g1' : decide ((ids.length : Int) > 40) = false := by simp; omega
      go_enter Tryd.func3, Tryd.ntmps3
      go_wp2_with (go_at_call 14; refine ha.out.mono ?_; rintro e w1 ⟨rfl, hb1⟩)
      go_ret
      exact ⟨rfl, hb1⟩
    · have g1' : decide ((ids.length : Int) > 40) = false := by simp; omega
      have g2' : decide ((gone.length : Int) > 60) = false := by simp; omega
      go_enter Tryd.func3, Tryd.ntmps3
      go_wp2_with (first
        | (go_at_call 14; refine ha.out.mono ?_; rintro e w1 ⟨rfl, hb1⟩)
        | (go_at_call 15; refine (new_any 40 (by decide) (by decide) _).mono ?_; rintro e w2 ⟨B, R, rfl, hq, hB, hR, hb2⟩; have hq2 := Lib.hid hq; clear hq))
      refine wp_at (fun wa hwa => ?_)
      obtain ⟨K, hK⟩ : ∃ K, K = w2.heap.size := ⟨_, rfl⟩
      have hBw : Below w0.heap.size w0 wa := by rw [hwa]; exact (hb1.trans (hb2.mono hb1.size)).alloc (by have := hb1.size; have := hb2.size; omega) _
      have hQa : QL wa B R 40 [] := by rw [hwa]; exact hq2.out.below ((Below.refl _ _).alloc (Nat.le_refl _) _)
      have hRow : wa.ownsRow K 3 1 (.slice (some ⟨K, 0, none⟩) 0 0) 0 [] := by rw [hwa, hK]; exact ownsRow_empty (Blk.new _ _ _)
      have hKz : K ≤ wa.heap.size := by rw [hwa, hK]; simp
      have hBK : B < K ∧ R < K := by rw [hK]; exact ⟨hq2.out.lt.1, hq2.out.lt.2.1⟩
      have hB0 : w0.heap.size ≤ B ∧ w0.heap.size ≤ R ∧ w0.heap.size ≤ K := by have := hb1.size; have := hb2.size; omega
      rw [← hK]
      replace hwa := Lib.hid hwa
      replace hK := Lib.hid hK
      obtain ⟨hBK1, hBK2⟩ := hBK
      obtain ⟨hB01, hB02, hB03⟩ := hB0
      go_loopw [7, 40] (fun v7 v40 wr => ∃ (k : Nat) (ws : List Int), k ≤ ids.length ∧ v40 = .int .i64 (k : Int) ∧ ws.Nodup ∧ ws.length ≤ k ∧ QL wr B R 40 ws ∧ wr.ownsRow K 3 1 v7 ws.length (ws.map (Value.int .i64)) ∧ Below w0.heap.size w0 wr ∧ K ≤ wr.heap.size) (fun _ v40 _ => ids.length - (intOf v40).toNat)
      case atStart => exact ⟨0, [], Nat.zero_le _, rfl, List.nodup_nil, Nat.zero_le _, hQa, hRow, hBw, hKz⟩
      case round =>
        obtain ⟨k, ws, hk, rfl, hnd, hwl, hQ, hrow, hB, hKr⟩ := hrel
        clear hQa hRow hBw hKz
        have HND := Lib.hid hnd
        have HQ := Lib.hid hQ
        have HROW := Lib.hid hrow
        clear hnd hQ
        by_cases hlt : k < ids.length
        · obtain ⟨b, off, rfl, hcw⟩ := HC1.out k hlt
          have hcell := hcw wr hB
          have hcw' := Lib.hid hcw
          clear hcw
          generalize ids[k] = x at hcell hcw'
          have hrd := Lib.hid (readsInts_own hrow)
          obtain ⟨av, cv, rfl⟩ := ownsRow_slice hrow
          clear hrow
          have HH := Lib.hid (fun (w' : World) (h' : Below wr.heap.size wr w') => numHas_any _ ws x w' (hrd.out.later h') (by omega))
          by_cases hx : x ∈ ws
          · rw [decide_eq_true hx] at HH
            have hpu := Lib.hid (fun (w' : World) h' he' => push_any B R 40 ws x E w' h' he')
            rw [(pushL_in (n := 40) hx).1, (pushL_in (n := 40) hx).2] at hpu
            replace hx := Lib.hid hx
            go_wp2_with (first
              | (go_at_call 16; refine (HH.out _ (by go_grown)).mono ?_; rintro e w' ⟨rfl, rfl⟩)
              | (go_at_call 17; refine (hpu.out _ HQ.out (HE.out.below hB)).mono ?_; rintro e w3 ⟨rfl, hq3, hc3⟩; replace hq3 := Lib.hid hq3))
            go_roundw
            case rel => exact ⟨k + 1, ws, by omega, by go_num, HND.out, by omega, hq3.out, ownsRow_chg HROW.out hc3 (fun b hb e => by omega), hB.trans (hc3.below hB.size (fun b hb e => by omega)), Nat.le_trans hKr hc3.size⟩
            case measure => simp [intOf]; omega
          · rw [decide_eq_false hx] at HH
            have hpu := Lib.hid (fun (w' : World) h' he' => push_any B R 40 ws x E w' h' he')
            rw [(pushL_new (n := 40) hx (by omega)).1, (pushL_new (n := 40) hx (by omega)).2] at hpu
            have hnd2 := Lib.hid (nodup_snoc HND.out hx)
            replace hx := Lib.hid hx
            go_wp2_with (first
              | (go_at_call 16; refine (HH.out _ (by go_grown)).mono ?_; rintro e w' ⟨rfl, rfl⟩)
              | (go_at_call 17; refine (hpu.out _ (HQ.out.below' hb4 hBK1 hBK2) (HE.out.below (hB.trans (hb4.mono hB03)))).mono ?_; rintro e w3 ⟨rfl, hq3, hc3⟩; replace hq3 := Lib.hid hq3)
              | (at_builtin; refine wpList_append_own _ rfl _ _ 22 rfl K 3 i0 (.int .i64 0) 1 8 Tryd.underlying22 hi hz0 hz1 hz2 rfl (by decide) _ _ _ rfl (HROW.out.alloc _) ⟨wr.heap.size, 0, none⟩ 1 1 [.int .i64 x] rfl rfl (cell_one_new _ _ _) (by simp [Value.oneCell']) (by unfold maxLen; omega) (by omega) (by simp; omega) ?_; intro v' w4 hown4 hgrow4 _; have hb4 := below_append HROW.out hKr hgrow4; clear hgrow4; replace hown4 := Lib.hid hown4))
            go_roundw
            case rel => exact ⟨k + 1, ws ++ [x], by omega, by go_num, hnd2.out, by simp; omega, hq3.out, by have := ownsRow_chg hown4.out hc3 (fun b hb e => by omega); simpa using this, (hB.trans (hb4.mono hB03)).trans (hc3.below (by have := hb4.size; have := hB.size; omega) (fun b hb e => by omega)), Nat.le_trans hKr (Nat.le_trans hb4.size hc3.size)⟩
            case measure => simp [intOf]; omega
        · obtain rfl : k = ids.length := by omega
          clear hrow
          go_wp2
          obtain ⟨wm, hwm⟩ : ∃ wm, wm = wr := ⟨_, rfl⟩
          rw [← hwm] at HQ HROW hB hKr ⊢
          replace hwm := Lib.hid hwm
          go_loopw [7, 12, 58] (fun v7 v12 v58 wr => ∃ (k : Nat) (ws : List Int), k ≤ gone.length ∧ v58 = .int .i64 (k : Int) ∧ ws.Nodup ∧ ws.length ≤ 40 ∧ QL wr B R 40 ws ∧ wr.ownsRow K 3 1 v7 ws.length (ws.map (Value.int .i64)) ∧ Below w0.heap.size w0 wr ∧ K ≤ wr.heap.size) (fun _ _ v58 _ => gone.length - (intOf v58).toNat)
          case atStart => exact ⟨0, ws, Nat.zero_le _, rfl, HND.out, by omega, HQ.out, HROW.out, hB, hKr⟩
          case round =>
            clear HQ HROW HND hB hKr hwm
            obtain ⟨k, ws, hk, rfl, hnd, hwl, hQ, hrow, hB, hKr⟩ := hrel
            have HND := Lib.hid hnd
            have HQ := Lib.hid hQ
            have HROW := Lib.hid hrow
            have hrd := Lib.hid (readsInts_own hrow)
            clear hnd hQ
            by_cases hlt : k < gone.length
            · obtain ⟨b, off, rfl, hcw⟩ := HC2.out k hlt
              have hcell := hcw wr hB
              clear hcw
              generalize gone[k] = x at hcell
              obtain ⟨av, cv, rfl⟩ := ownsRow_slice hrow
              clear hrow
              obtain ⟨wo, hwo⟩ : ∃ wo, wo = wr := ⟨_, rfl⟩
              rw [← hwo] at HQ HROW hrd hB hKr hcell ⊢
              replace hwo := Lib.hid hwo
              go_wp2
              have hb0 : Below wo.heap.size wo (wo.alloc (.cells #[] 3)) := (Below.refl _ _).alloc (Nat.le_refl _) _
              go_loopw [12, 14, 65] (fun v12 v14 v65 wr => ∃ (j : Nat), j ≤ ws.length ∧ v65 = .int .i64 (j : Int) ∧ wr.ownsRow wo.heap.size 3 1 v12 (cutL (ws.take j) x).length ((cutL (ws.take j) x).map (Value.int .i64)) ∧ Below wo.heap.size wo wr) (fun _ _ v65 _ => ws.length - (intOf v65).toNat)
              case atStart => exact ⟨0, Nat.zero_le _, rfl, by simpa [cutL] using ownsRow_empty (Blk.new wo _ _), hb0⟩
              case round =>
                obtain ⟨j, hj, rfl, hrow2, hbo⟩ := hrel
                clear hb0
                have HR2 := Lib.hid hrow2
                obtain ⟨a2', c2', rfl⟩ := ownsRow_slice hrow2
                have hzo := hbo.size
                have hle := cutL_le (ws.take j) x
                rw [List.length_take] at hle
                by_cases hlj : j < ws.length
                · obtain ⟨ra, rc, hra, hcr⟩ := hrd.out.cellsOf
                  obtain ⟨rb, ro, hrab, hcr2⟩ := hcr j hlj
                  simp only [Value.slice.injEq] at hra
                  obtain ⟨rfl, -, rfl⟩ := hra
                  subst hrab
                  have hcj := hcr2 wr hbo
                  have hct := Lib.hid (cutL_take ws x j hlj)
                  clear hcr hcr2 hrow2
                  generalize ws[j] = y at hcj hct
                  by_cases hyx : y = x
                  · have hct2 := Lib.hid (hct.out.trans (if_pos hyx))
                    have hyx' : (y != x) = false := by simp [hyx]
                    replace hyx := Lib.hid hyx
                    go_wp2
                    go_roundw
                    case rel => exact ⟨j + 1, by omega, by go_num, by rw [hct2.out]; exact HR2.out, hbo⟩
                    case measure => simp [intOf]; omega
                  · have hct2 := Lib.hid (hct.out.trans (if_neg hyx))
                    have hyx' : (y != x) = true := by simp [hyx]
                    replace hyx := Lib.hid hyx
                    go_wp2_with (at_builtin; refine wpList_append_own _ rfl _ _ 22 rfl wo.heap.size 3 i0 (.int .i64 0) 1 8 Tryd.underlying22 hi hz0 hz1 hz2 rfl (by decide) _ _ _ rfl (HR2.out.alloc _) ⟨wr.heap.size, 0, none⟩ 1 1 [.int .i64 y] rfl rfl (cell_one_new _ _ _) (by simp [Value.oneCell']) (by unfold maxLen; omega) (by omega) (by simp; omega) ?_; intro v' w4 hown4 hgrow4 _; have hb4 := below_append HR2.out hzo hgrow4; clear hgrow4; replace hown4 := Lib.hid hown4)
                    go_roundw
                    case rel => exact ⟨j + 1, by omega, by go_num, by rw [hct2.out]; simpa using hown4.out, hbo.trans hb4⟩
                    case measure => simp [intOf]; omega
                · obtain rfl : j = ws.length := by omega
                  rw [List.take_length] at HR2 hle
                  clear hrow2
                  have hre := Lib.hid (fun (w' : World) h' => remove_any B R 40 ws x HND.out w' h')
                  have hcn := Lib.hid (cutL_nodup HND.out x)
                  have hqo := Lib.hid (HQ.out.below hbo)
                  have hcl := cutL_len ws x
                  by_cases hx : x ∈ ws
                  · rw [decide_eq_true hx] at hre hcl
                    have hll : (cutL ws x).length < ws.length := by simpa using hcl
                    replace hx := Lib.hid hx
                    clear hcl
                    go_wp2_with (go_at_call 18; refine (hre.out _ hqo.out).mono ?_; rintro e w5 ⟨rfl, hq5, hc5⟩; replace hq5 := Lib.hid hq5)
                    go_roundw
                    case rel => exact ⟨k + 1, cutL ws x, by omega, by go_num, hcn.out, by omega, hq5.out, ownsRow_chg (ownsRow_base HR2.out hKr) hc5 (fun b hb e => by omega), (hB.trans (hbo.mono hB.size)).trans (hc5.below (by have := hB.size; omega) (fun b hb e => by omega)), Nat.le_trans hKr (Nat.le_trans hzo hc5.size)⟩
                    case measure => simp [intOf]; omega
                  · rw [decide_eq_false hx] at hre hcl
                    have hll : ws.length ≤ (cutL ws x).length := by simpa using hcl
                    replace hx := Lib.hid hx
                    clear hcl
                    go_wp2_with (go_at_call 18; refine (hre.out _ hqo.out).mono ?_; rintro e w5 ⟨rfl, hq5, hc5⟩; replace hq5 := Lib.hid hq5)
                    go_roundw
                    case rel => exact ⟨k + 1, cutL ws x, by omega, by go_num, hcn.out, by omega, hq5.out, ownsRow_chg (ownsRow_base HR2.out hKr) hc5 (fun b hb e => by omega), (hB.trans (hbo.mono hB.size)).trans (hc5.below (by have := hB.size; omega) (fun b hb e => by omega)), Nat.le_trans hKr (Nat.le_trans hzo hc5.size)⟩
                    case measure => simp [intOf]; omega
            · obtain rfl : k = gone.length := by omega
              clear hrow
              go_wp2_with (first
                | (go_at_call 19; refine (all_any18 B R 40 ws _ HQ.out).mono ?_; rintro e w5 ⟨v, rfl, hr, hb5⟩; replace hr := Lib.hid hr)
                | (go_at_call 20; refine (sameInts_any _ _ ws ws _ hr.out (hrd.out.later hb5) (by omega)).mono ?_; simp only [decide_true]; rintro e w' ⟨rfl, rfl⟩))
              go_ret
              exact ⟨rfl, hB.trans (hb5.mono hB.size)⟩
end Go.Proofs.YtaegjdkmnkjggaaDoor
