/- The walk of SwarBack. Condition: the table of math/bits. -/
import Derived.Test.YtfdeoblciichmaaDoorSwarRef2
import Derived.Test.YtfdeoblciichmaaDoorSwarCount
namespace Go.Proofs.YtfdeoblciichmaaDoor
set_option linter.unusedVariables false
set_option linter.unusedSimpArgs false
open Go.RowKit Go.Proofs
attribute [local go_sem] Oper.semAt_some wide_depth round_depth wide_fn round_fn

/-- the word whose first k lanes are l's, the rest 0 -/
def foldTo (l : Nat → Nat) (k : Nat) : Nat := ofL (fun j => if j < k then l j else 0)
theorem foldTo_bd (l : Nat → Nat) (hl : ∀ i, i < 8 → l i < 256) (k : Nat) : ∀ j, j < 8 → (if j < k then l j else 0) < 256 := fun j hj => by split <;> first | exact hl j hj | decide
theorem foldTo_lt (l : Nat → Nat) (hl : ∀ i, i < 8 → l i < 256) (k : Nat) : foldTo l k < 18446744073709551616 := ofL_lt _ (foldTo_bd l hl k)
theorem foldTo_succ (l : Nat → Nat) (hl : ∀ i, i < 8 → l i < 256) (k : Nat) (hk : k < 8) : setL (foldTo l k) k (l k) = foldTo l (k + 1) := by
  refine ln_ext (setL_lt _ _ _ (hl k hk)) (foldTo_lt l hl _) fun j hj => ?_
  rw [ln_setL _ _ _ _ (hl k hk) hj]
  unfold foldTo
  rw [ln_ofL _ (foldTo_bd l hl _) j hj, ln_ofL _ (foldTo_bd l hl _) j hj]
  by_cases h : j = k
  · subst h; simp
  · simp only [h, if_false, show (j < k + 1) = (j < k) from propext ⟨fun h => by omega, fun h => by omega⟩]
theorem foldTo_zero (l : Nat → Nat) : foldTo l 0 = 0 := by simp [foldTo, ofL]
theorem foldTo_all (l : Nat → Nat) : foldTo l 8 = ofL l := ofL_congr fun i hi => by simp [hi]

set_option maxHeartbeats 2000000 in
theorem fold_any (l : Nat → Nat) (hl : ∀ i, i < 8 → l i < 256) (w : World) :
    Calls Tryd.prog 24 #[.agg (byteL l).toArray] w fun e w' => e = .returned (.int .u64 ((ofL l : Nat) : Int)) ∧ Below w.heap.size w w' := by
  have IX := Lib.hid (ix_byte l)
  have HW := Lib.hid (fun k (hk : k < 8) => with_in (foldTo l k) k (l k) (foldTo_lt l hl k) hk (hl k hk))
  have HS := Lib.hid (foldTo_succ l hl)
  go_enter Tryd.func24, Tryd.ntmps24
  go_wp2_with (first | (refine wpList_value rfl (exec_box (t := 32) rfl rfl) ?_) | (refine wpList_value rfl (exec_loadAll (t := 32) rfl rfl Tryd.underlying32 rfl (Blk.new w 32 _) (Tryd.sizeOf32 _)) ?_))
  go_loopw [3, 7] (fun v3 v7 wr => ∃ k : Nat, k ≤ 8 ∧ v7 = .int .i64 (k : Int) ∧ v3 = .int .u64 ((foldTo l k : Nat) : Int) ∧ Below w.heap.size w wr) (fun _ v7 _ => 8 - (intOf v7).toNat)
  case atStart => exact ⟨0, by omega, rfl, by rw [foldTo_zero]; rfl, by go_grown⟩
  case round =>
    obtain ⟨k, hk, rfl, rfl, h3⟩ := hrel
    by_cases hlt : k < 8
    · have ix := IX.out k hlt
      have hw := HW.out k hlt
      rw [HS.out k hlt] at hw
      replace hw := Lib.hid hw
      go_wp2_with (go_at_call 8; refine (hw.out _).mono ?_; rintro e w' ⟨rfl, rfl⟩)
      go_roundw
      case rel => exact ⟨k + 1, by omega, by go_num, rfl, below_drewN h3 _⟩
      case measure => simp [intOf]; omega
    · obtain rfl : k = 8 := by omega
      have e := foldTo_all l
      go_wp2
      go_ret
      exact ⟨by first | rfl | (rw [e]; rfl), h3⟩

/-- the lanes that are below c -/
def belowB (w c : Nat) (i : Nat) : Bool := decide (ln w i < c)
theorem mask_or (f g : Nat → Bool) : maskB f ||| maskB g = maskB (fun i => f i || g i) := by
  refine eq_ofL (Nat.or_lt_two_pow (n := 64) (maskB_lt f) (maskB_lt g)) (maskB_bd _) fun i hi => ?_
  rw [ln_or, ln_maskB f i hi, ln_maskB g i hi]
  show _ = if (f i || g i) = true then 128 else 0
  cases f i <;> cases g i <;> rfl
theorem mask_and (f g : Nat → Bool) : maskB f &&& maskB g = maskB (fun i => f i && g i) := by
  refine eq_ofL (Nat.lt_of_le_of_lt Nat.and_le_left (maskB_lt f)) (maskB_bd _) fun i hi => ?_
  rw [ln_and, ln_maskB f i hi, ln_maskB g i hi]
  show _ = if (f i && g i) = true then 128 else 0
  cases f i <;> cases g i <;> rfl
theorem cnt_or (f g : Nat → Bool) (h : ∀ i, i < 8 → (f i && g i) = false) : (lanesL f).length + (lanesL g).length = (lanesL (fun i => f i || g i)).length := by
  rw [lanesL_cnt, lanesL_cnt, lanesL_cnt]
  have t : ∀ i, i < 8 → one (f i || g i) = one (f i) + one (g i) := fun i hi => by
    have := h i hi
    cases hf : f i <;> cases hg : g i <;> simp_all [one]
  simp only [cnt8, t 0 (by omega), t 1 (by omega), t 2 (by omega), t 3 (by omega), t 4 (by omega), t 5 (by omega), t 6 (by omega), t 7 (by omega)]
  omega
theorem below_next (w c : Nat) : (fun i => equalB w c i || belowB w c i) = belowB w (c + 1) := by
  funext i
  unfold equalB belowB
  rw [Bool.eq_iff_iff]; simp; omega
theorem below_apart (w c : Nat) : ∀ i, (equalB w c i && belowB w c i) = false := fun i => by
  unfold equalB belowB
  rw [Bool.eq_false_iff]; simp; omega
theorem below_facts (w c : Nat) : maskB (equalB w c) &&& maskB (belowB w c) = 0 ∧ maskB (belowB w c) ||| maskB (equalB w c) = maskB (belowB w (c + 1)) ∧
    (lanesL (belowB w c)).length + (lanesL (highB (maskB (equalB w c)))).length = (lanesL (belowB w (c + 1))).length := by
  refine ⟨?_, ?_, ?_⟩
  · rw [mask_and]; exact maskB_none fun i _ => below_apart w c i
  · rw [Nat.or_comm, mask_or, below_next]
  · rw [lanesL_congr (maskB_high (equalB w c)), Nat.add_comm, cnt_or _ _ (fun i _ => below_apart w c i), below_next]
theorem below_zero (w : Nat) : maskB (belowB w 0) = 0 ∧ (lanesL (belowB w 0)).length = 0 := by
  have h : ∀ i, i < 8 → belowB w 0 i = false := fun i _ => by simp [belowB]
  exact ⟨maskB_none h, by unfold lanesL; rw [List.length_eq_zero_iff, List.filter_eq_nil_iff]; intro a ha; simp [h a (by simpa using ha)]⟩
theorem below_all (w : Nat) : maskB (belowB w 256) = maskB (fun _ => true) ∧ (lanesL (belowB w 256)).length = 8 := by
  have h : ∀ i, i < 8 → belowB w 256 i = true := fun i _ => by simp [belowB, ln_lt]
  exact ⟨maskB_congr h, by rw [lanesL_congr h]; decide⟩
theorem all_high : maskB (highB (rep 255)) = maskB (fun _ => true) := by decide
theorem all_lanes : lanesL (highB (maskB (fun _ => true))) = [0, 1, 2, 3, 4, 5, 6, 7] := by decide

set_option maxRecDepth 100000 in
set_option maxHeartbeats 4000000 in
theorem swarBack_any (l : Nat → Nat) (hl : ∀ i, i < 8 → l i < 256) (most : Int) (w0 : World) (hT : Tab64 w0) :
    Calls Tryd.prog 6 #[.agg (byteL l).toArray, .int .i64 most] w0 fun e w' => e = .returned (.bool true) ∧ Below w0.heap.size w0 w' := by
  have HA := fun (w' : World) (h : Below w0.heap.size w0 w') => alive01_any w' (hT.below h)
  replace HA := Lib.hid HA
  have HT := Lib.hid hT
  have hF := fold_any l hl
  have hU := unfold_any (ofL l) (ofL_lt l hl)
  have hlu : byteL (ln (ofL l)) = byteL l := by simp only [byteL, ln_ofL l hl 0 (by omega), ln_ofL l hl 1 (by omega), ln_ofL l hl 2 (by omega), ln_ofL l hl 3 (by omega), ln_ofL l hl 4 (by omega), ln_ofL l hl 5 (by omega), ln_ofL l hl 6 (by omega), ln_ofL l hl 7 (by omega)]
  rw [hlu] at hU
  have HE := eq_bytes l l
  have hX := ofL_lt l hl
  generalize ofL l = X at *
  simp only [decide_true] at HE
  have hb8 : byteL l = [.int .u8 (l 0 : Int), .int .u8 (l 1 : Int), .int .u8 (l 2 : Int), .int .u8 (l 3 : Int), .int .u8 (l 4 : Int), .int .u8 (l 5 : Int), .int .u8 (l 6 : Int), .int .u8 (l 7 : Int)] := rfl
  simp only [byteL] at hF hU HE ⊢
  replace hF := Lib.hid hF
  replace hU := Lib.hid hU
  clear hT hlu hb8
  refine (callsIn_wide (n := 0)).1 ?_
  refine callsIn_of_wp_marks Tryd.func6 rfl trivial ?_
  simp only [Tryd.ntmps6, List.size_toArray, List.length_cons, List.length_nil, Nat.reduceAdd, Nat.reduceSub, Array.replicate_succ, Array.replicate_zero, List.push_toArray, List.append_toArray, List.nil_append, List.cons_append]
  refine wpIn_wide.2 ?_
  go_wp2_with (first
    | (go_at_call 7; refine (HA.out _ (by go_grown)).mono ?_; rintro e w' ⟨rfl, rfl⟩)
    | (go_at_call 24; refine (hF.out _).mono ?_; rintro e w1 ⟨rfl, hb1⟩))
  refine wp_at (fun w hw => ?_)
  subst hw
  have p2 : Blk w w0.heap.size 32 #[.int .u8 (l 0 : Int), .int .u8 (l 1 : Int), .int .u8 (l 2 : Int), .int .u8 (l 3 : Int), .int .u8 (l 4 : Int), .int .u8 (l 5 : Int), .int .u8 (l 6 : Int), .int .u8 (l 7 : Int)] := ((Blk.new w0 _ _).alloc _).below hb1 (by simp <;> omega)
  have p3 : Blk w (w0.heap.size + 1) 3 #[.int .i64 most] := (Blk.new_at (by simp)).below hb1 (by simp)
  have q1 : Below w0.heap.size w0 w := Below.trans (by go_grown) (hb1.mono (by simp <;> omega))
  clear hb1
  have hr2 : w.drew.rangeAt w0.heap.size 0 _ := Blk.whole (w := w.drew) p2
  have hr3 := fun (w' : World) (h : Below w.heap.size w w') => (p2.below h p2.lt).whole
  replace hr3 := Lib.hid hr3
  have l2 := p2.lt
  have l3 := p3.lt
  have P3 := Lib.hid p3
  have Q1 := Lib.hid q1
  clear p2 p3 q1
  refine wp_region_noPanic ?_
  refine wp_region_seq (fun _ => False) #[⟨0, 0, 32768, 32, 0⟩, ⟨1, 1, 65536, 32768, 2⟩, ⟨0, 0, 131072, 4, 1⟩, ⟨6, 7, 262144, 196608, 0⟩] 4 [(0, 0), (2, 1), (1, 2), (3, 0)] (by kernel_rfl) (by kernel_rfl) (by kernel_rfl) (by kernel_rfl) (by kernel_rfl) (by kernel_rfl) (fun c a d v w h => by cases d <;> exact h) ?_
  refine seq_calc (by simp only [List.getElem?_toArray, List.getElem?_cons_succ, List.getElem?_cons_zero]; rfl) (by rfl) (fun u => by go_simp <;> with_reducible rfl) ?_
  try simp only [Act.put, List.setIfInBounds_toArray, List.set_cons_zero, List.set_cons_succ]
  refine seq_loads [_, _, _, _, _, _, _, _] (by simp only [List.getElem?_toArray, List.getElem?_cons_succ, List.getElem?_cons_zero]; rfl) (by rfl) rfl rfl Tryd.underlying32 rfl (by kernel_rfl) (by first | (with_reducible assumption) | (refine cellsAre_range ?_; simp only [cellsAre]; (repeat' (first | exact True.intro | apply And.intro)); all_goals (go_simp <;> with_reducible rfl))) (by first | exact id | assumption | (simp; done) | (simp; omega)) ?_
  try simp only [Act.put, List.setIfInBounds_toArray, List.set_cons_zero, List.set_cons_succ]
  refine seq_do (by simp only [List.getElem?_toArray, List.getElem?_cons_succ, List.getElem?_cons_zero]; rfl) (by rfl) (fun K hK => ?_); go_wp2_with (go_at_call 14; refine (hU.out _).mono ?_; rintro e w1 ⟨rfl, hb1⟩; have hB1 : Below w.heap.size w w1 := Below.trans ((Below.refl _ w).drew) (hb1.mono (Nat.le_refl _)); have hr2 := hr3.out _ hB1); refine hK.out _ _ (by first | (with_reducible exact Chg.refl _ _) | (with_reducible assumption) | (refine Chg.of_below ?_; with_reducible assumption) | (with_reducible exact (Chg.refl _ _).alloc _) | (with_reducible exact (Chg.refl _ _).drewN _) | (with_reducible exact (Chg.refl _ _).drew) | exact ⟨rfl, rfl, rfl, Nat.le_refl _, fun _ _ _ => rfl⟩) ?_; clear hK K
  try simp only [Act.put, List.setIfInBounds_toArray, List.set_cons_zero, List.set_cons_succ]
  refine seq_calc (by simp only [List.getElem?_toArray, List.getElem?_cons_succ, List.getElem?_cons_zero]; rfl) (by rfl) (fun u => by go_simp <;> with_reducible rfl) ?_
  try simp only [Act.put, List.setIfInBounds_toArray, List.set_cons_zero, List.set_cons_succ]
  refine seq_nil ?_
  refine NoPanic.normal ?_
  go_wp2
  have HB0 := below_zero X
  have HBF := Lib.hid (below_facts X)
  have HBA := Lib.hid (below_all X)
  have EQ := Lib.hid (fun c (hc : c < 256) => equal_any X c hX hc)
  have CO := Lib.hid (fun m hm => count_any m hm)
  have hwq := Q1.out.trans (hB1.mono Q1.out.size)
  go_loop [6, 7, 8] (fun v6 v7 v8 => ∃ c : Nat, c ≤ 256 ∧ v8 = .int .i64 (c : Int) ∧ v7 = .int .u64 ((maskB (belowB X c) : Nat) : Int) ∧ v6 = .int .i64 ((lanesL (belowB X c)).length : Int)) (fun _ _ v8 => 256 - (intOf v8).toNat)
  case atStart => exact ⟨0, by omega, rfl, by rw [HB0.1]; rfl, by rw [HB0.2]; rfl⟩
  case round =>
    obtain ⟨c, hc, rfl, rfl, rfl⟩ := hrel
    by_cases hlt : c < 256
    · obtain ⟨f1, f2, f3⟩ := HBF.out c
      have e1 := EQ.out c hlt
      have e2 := CO.out _ (maskB_lt (equalB X c))
      have m1 := maskB_lt (equalB X c)
      have m2 := maskB_lt (belowB X c)
      have n1 := lanesL_len (belowB X c)
      have n2 := lanesL_len (highB (maskB (equalB X c)))
      have b1 := bits_and_u64_nat _ _ m1 m2
      have b2 := bits_or_u64_nat _ _ m2 m1
      rw [f1] at b1
      rw [f2] at b2
      have hconv : IntKind.u8.wrap (c : Int) = c := IntWalk.u8_in _ (by omega)
      have hsum : ((lanesL (belowB X c)).length : Int) + ((lanesL (highB (maskB (equalB X c)))).length : Int) = ((lanesL (belowB X (c + 1))).length : Int) := by omega
      clear f1 f2 f3 m1 m2
      replace e1 := Lib.hid e1; replace e2 := Lib.hid e2; replace hlt := Lib.hid hlt
      have hlt' : (c : Int) < 256 := by have := hlt.out; omega
      go_wp2_with (first | (go_at_call 10; refine (e1.out _).mono ?_; rintro e w' ⟨rfl, rfl⟩) | (go_at_call 22; refine (e2.out _).mono ?_; rintro e w' ⟨rfl, rfl⟩))
      go_round
      case rel => exact ⟨c + 1, by have := hlt.out; omega, by go_num, rfl, rfl⟩
      case measure => have := hlt.out; simp [intOf]; omega
    · obtain rfl : c = 256 := by omega
      have a1 := HBA.out.1
      have a2 := HBA.out.2
      rw [a1, a2]
      have R := Lib.hid (repeat_any 255 (by decide))
      have G := high_any (rep 255) (by decide)
      rw [all_high] at G
      have hN8 : (lanesL (highB (maskB (fun _ => true)))).length = 8 := by rw [all_lanes]; rfl
      have hgv := fun (B : Nat) (w : World) => lanes_gives (maskB (fun _ => true)) (maskB_lt _) B w
      rw [hN8] at hgv
      have hMlt := maskB_lt (fun _ => true)
      generalize maskB (fun _ => true) = M at *
      have hT1 : Tab64 w1 := HT.out.below hwq
      have hgE : 0 < w1.heap.size := World.block_lt_of_cell? _ _ (hT1 0 (by decide))
      have p3 : Blk w1 (w0.heap.size + 1) 3 #[.int .i64 most] := P3.out.below hB1 l3
      have l3' := p3.lt
      have P31 := Lib.hid p3
      have HT1 := Lib.hid hT1
      replace hgv := Lib.hid hgv
      replace G := Lib.hid G
      have HQ := Lib.hid hwq
      have hq0 := hwq.size
      clear p3 hT1 hr2 hwq a1 a2 hN8 hB1 hb1
      go_wp2_with (first | (go_at_call 13; refine (R.out _).mono ?_; rintro e w' ⟨rfl, rfl⟩) | (go_at_call 20; refine (G.out _).mono ?_; rintro e w' ⟨rfl, rfl⟩) | (go_at_call 17; refine (lanes_any _ _).mono ?_; rintro e w' ⟨rfl, rfl⟩))
      obtain ⟨wL, hwL⟩ : ∃ W, W = (w1.alloc (.cells #[.int .i64 0] 3)).alloc (.cells #[.int .u64 (M : Int)] 22) := ⟨_, rfl⟩
      have HE : Below w1.heap.size w1 wL := by rw [hwL]; exact ((Below.refl _ _).alloc (Nat.le_refl _) _).alloc (by simp) _
      have hzL : wL.heap.size = w1.heap.size + 2 := by rw [hwL]; simp
      have pc : Blk wL (w1.heap.size + 1) 22 #[.int .u64 (M : Int)] := by rw [hwL]; exact Blk.new_at (by simp)
      have pn : Blk wL w1.heap.size 3 #[.int .i64 0] := by rw [hwL]; exact (Blk.new w1 _ _).alloc _
      have hgl := hgv.out (w1.heap.size + 1) wL pc.boxed.cell (HT1.out.below HE)
      rw [← hwL]
      clear hwL
      refine (wpIn_wide (n := 0)).1 ?_
      refine wp_rangeAt rfl enters_lanes hgl (fun b hb => by rcases hb with rfl | rfl <;> omega) (fun _ => rfl)
        (fun i W => (Blk W w1.heap.size 3 #[.int .i64 (i : Int)] ∧ Blk W (w1.heap.size + 1) 22 #[.int .u64 (M : Int)] ∧ (most < 0 ∨ (i : Int) ≤ most)) ∧ Below w1.heap.size w1 W)
        (fun c W => (c = .exit 2 ∧ 0 ≤ most ∧ most < 8 ∧ Blk W w1.heap.size 3 #[.int .i64 most]) ∧ Below w1.heap.size w1 W)
        (OwnFrom.and (Own.from (own_and (blk_own _ _ _) (own_and (blk_own _ _ _) (own_pure _))) _) (ownFrom_below (Nat.le_refl _) (by omega)))
        (OwnFrom.and (Own.from (own_and (own_pure _) (own_and (own_pure _) (own_and (own_pure _) (blk_own _ _ _)))) _) (ownFrom_below (Nat.le_refl _) (by omega)))
        ⟨⟨pn, pc, by omega⟩, HE⟩
        (fun T i a _ => a = { tmps := T.setIfInBounds 48 (.int .i64 ((laneAt (highB M) i : Nat) : Int)), defers := [] })
        ?assign (fun _ _ _ _ hs _ _ => hs) ?body ?done ?stop
      case assign =>
        intro l i W K hi hlt _ hK
        gi_wp2
        exact hK _ _ (KeepsFrom.refl _ _) (Same.refl _ _) hi rfl
      case body =>
        rintro l i a₁ W ⟨⟨h1, h2, h3⟩, hB⟩ hlt hsz rfl
        have c1 := h1.boxed.cell
        have f1 := h1.boxed.frozen
        have c3 := (P31.out.below hB l3').boxed.cell
        have H1 := Lib.hid h1
        have H2 := Lib.hid h2
        clear h1 h2
        simp only [List.setIfInBounds_toArray, List.set_cons_succ, List.set_cons_zero]
        by_cases hm : (i : Int) = most
        · have ht : ((i : Int) == most) = true := by simpa using hm
          subst hm
          gi_wp2
          exact ⟨KeepsFrom.refl _ _, ⟨rfl, by omega, by omega, H1.out⟩, hB⟩
        · have ht : ((i : Int) == most) = false := by simpa using hm
          gi_wp2
          refine ⟨(KeepsOthers.setCell _ _ _).from _, ?_, ⟨?_, H2.out.other (by omega) _ _, by omega⟩, hB.setCell (Nat.le_refl _) _⟩
          · rintro b (rfl | rfl)
            · exact Below.heap_setCell _ _ _ _ (by simp)
            · exact Below.heap_setCell _ _ _ _ (by simp; omega)
          · exact H1.out.set 0 (.int .i64 ((i : Int) + 1))
      case done =>
        rintro D W hD ⟨⟨h1, h2, h3⟩, hB⟩ hK
        have c1 : W.cell? ⟨w1.heap.size, 0, none⟩ = some (.int .i64 8) := h1.boxed.cell
        have c3 := (P31.out.below hB l3').boxed.cell
        have hk := Lib.hid hK
        clear hK h1 h2
        have hEnd := Lib.hid (HQ.out.trans (hB.mono hq0))
        by_cases h0 : most < 0
        · go_wp2
          refine end_mark (v := .bool true) hk.out (results_tmp (t := 4) rfl _ _ _) ⟨rfl, ?_⟩ _ (.inl rfl)
          exact hEnd.out.trans (below_putObj _ (by omega) hk.out)
        · by_cases h8 : most = 8
          · subst h8
            go_wp2
            refine end_mark (v := .bool true) hk.out (results_tmp (t := 4) rfl _ _ _) ⟨rfl, ?_⟩ _ (.inl rfl)
            exact hEnd.out.trans (below_putObj _ (by omega) hk.out)
          · have h9 : 8 < most := by omega
            have h10 : decide (most < 0) = false := by simp; omega
            go_wp2
            refine end_mark (v := .bool true) hk.out (results_tmp (t := 4) rfl _ _ _) ⟨rfl, ?_⟩ _ (.inl rfl)
            exact hEnd.out.trans (below_putObj _ (by omega) hk.out)
      case stop =>
        rintro D c W hD ⟨⟨rfl, h1, h2, h4⟩, hB⟩ hK
        have c1 := h4.boxed.cell
        have c3 := (P31.out.below hB l3').boxed.cell
        have hk := Lib.hid hK
        clear hK h4
        have hEnd := Lib.hid (HQ.out.trans (hB.mono hq0))
        have h10 : decide (most < 0) = false := by simp; omega
        have h11 : ¬ 8 < most := by omega
        refine (wpIn_wide (n := 0)).2 ?_
        go_wp2
        refine end_mark (v := .bool true) hk.out (results_tmp (t := 4) rfl _ _ _) ⟨rfl, ?_⟩ _ (.inl rfl)
        exact hEnd.out.trans (below_putObj _ (by omega) hk.out)
end Go.Proofs.YtfdeoblciichmaaDoor
