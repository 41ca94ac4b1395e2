/- Package group: Entries. Condition: the table of package bits. -/
import Derived.Test.YtcmjddkljmfklaaDoorGroupPlain
import Derived.Test.YtcmjddkljmfklaaDoorEnt
namespace Go.Proofs.YtcmjddkljmfklaaDoor
set_option linter.unusedVariables false
set_option linter.unusedSimpArgs false
open Go.RowKit Go.Proofs
attribute [local go_sem] Oper.semAt_some wide_depth round_depth wide_fn round_fn

theorem takeEnts (f : Nat → Bool) (s : Nat → EntS) (i : Nat) : entV ((List.range (i + 1)).map (fun j => s (laneAt f j))) = entV ((List.range i).map (fun j => s (laneAt f j))) ++ [.int .u64 (s (laneAt f i)).key, .int .u64 (s (laneAt f i)).val, .int .u64 (s (laneAt f i)).hash] := by
  rw [List.range_succ, List.map_append, entV_append]; rfl
theorem allEnts (f : Nat → Bool) (s : Nat → EntS) : (List.range (lanesL f).length).map (fun j => s (laneAt f j)) = (lanesL f).map s := by
  apply List.ext_getElem
  · simp
  · intro i h1 h2
    simp only [List.length_map, List.length_range] at h1
    simp only [List.getElem_map, List.getElem_range]
    unfold laneAt
    rw [List.getD_eq_getElem?_getD, List.getElem?_eq_getElem h1]; rfl
set_option maxRecDepth 100000 in
set_option maxHeartbeats 4000000 in
theorem gentries_any (G o m : Nat) (s : Nat → EntS) (hm : m < 18446744073709551616) (w : World) (hg : GW w G o m s) (hT : Tab64 w) :
    Calls Tryd.prog 35 #[.agg #[.pointer (some ⟨G, o, none⟩)]] w fun e w' => ∃ v, e = .returned v ∧ w'.ownsRow w.heap.size 62 3 v (entsL m s).length (entV (entsL m s)) ∧ Below w.heap.size w w' := by
  obtain ⟨i0, hi, hz0, hz1, hz2⟩ := info_parts infoE
  have HG := Lib.hid hg
  have HT := Lib.hid hT
  have hl := hg.lt
  have hl1 : G < w.heap.size + 1 := by omega
  have c0 := hg.word
  have FU := Lib.hid (cfulls_any m hm)
  have HQ := Lib.hid (maskB_lt (fullB m))
  have HF := Lib.hid (maskB_high (fullB m))
  unfold entsL
  obtain ⟨f, hf⟩ : ∃ f, f = fullB m := ⟨_, rfl⟩
  rw [← hf] at FU HQ HF ⊢
  generalize hQ : maskB f = Q at *
  refine (callsIn_wide (n := 0)).1 ?_
  refine callsIn_of_wp_marks Tryd.func35 rfl trivial ?_
  simp only [Tryd.ntmps35, List.size_toArray, List.length_cons, List.length_nil, Nat.reduceAdd, Nat.reduceSub, Array.replicate_succ, Array.replicate_zero, List.push_toArray, List.append_toArray, List.nil_append, List.cons_append]
  refine wpIn_wide.2 ?_
  clear hg hT hf hQ
  go_wp2_with (first | (go_at_call 92; refine (FU.out _).mono ?_; rintro e w' ⟨rfl, rfl⟩) | (go_at_call 91; refine (lanes_any _ _).mono ?_; rintro e w' ⟨rfl, rfl⟩))
  refine wp_at (fun wL hwL => ?_)
  have q0 : Blk wL w.heap.size 67 #[.pointer (some ⟨G, o, none⟩)] := by rw [hwL]; exact ((Blk.new w _ _).alloc _).alloc _
  have q1 : Blk wL (w.heap.size + 1) 60 #[.slice none 0 0] := by rw [hwL]; exact (Blk.new_at (by simp)).alloc _
  have q3 : Blk wL (w.heap.size + 1 + 1) 22 #[.int .u64 (Q : Int)] := by rw [hwL]; exact Blk.new_at (by simp)
  have qB : Below w.heap.size w wL := by rw [hwL]; go_grown
  have qz : wL.heap.size = w.heap.size + 1 + 1 + 1 := by rw [hwL]; simp
  have hgv := lanes_gives Q HQ.out (w.heap.size + 1 + 1) wL (q3.cell 0) (HT.out.below qB)
  have hgl : 16 < w.heap.size := World.block_lt_of_cell? _ _ (HT.out 0 (by decide))
  have hL : lanesL (highB Q) = lanesL f := lanesL_congr HF.out
  have hLa : ∀ i, laneAt (highB Q) i = laneAt f i := fun i => by unfold laneAt; rw [hL]
  simp only [hL, hLa] at hgv
  have HGV := Lib.hid hgv
  have hN := lanesL_len f
  have HS := Lib.hid (takeEnts f s)
  have HAE := Lib.hid (allEnts f s)
  clear hwL hgv hL hLa
  refine (wpIn_wide (n := 0)).1 ?_
  refine wp_rangeAt rfl enters_lanes HGV.out (fun b hb => by rcases hb with rfl | rfl <;> omega) (fun _ => rfl)
    (fun i W => (∃ v, Boxed W (w.heap.size + 1) 60 v ∧ W.ownsRow wL.heap.size 62 3 v i (entV ((List.range i).map (fun j => s (laneAt f j)))) ∧ True) ∧ Blk W w.heap.size 67 #[.pointer (some ⟨G, o, none⟩)] ∧ Blk W (w.heap.size + 1 + 1) 22 #[.int .u64 (Q : Int)] ∧ Below w.heap.size w W)
    (fun _ _ => False)
    (OwnFrom.and (Own.from (holdsRow_own wL.heap.size (w.heap.size + 1) 60 62 3 (fun i => i) (fun i => entV ((List.range i).map (fun j => s (laneAt f j)))) (fun _ _ => True)) _) (OwnFrom.and (Own.from (blk_own _ _ _) _) (OwnFrom.and (Own.from (blk_own _ _ _) _) (ownFrom_below (Nat.le_refl _) (by omega)))))
    (fun _ _ _ _ hs _ _ => hs)
    ⟨⟨_, q1, ⟨rfl, .inl ⟨rfl, rfl⟩⟩, trivial⟩, q0, q3, qB⟩
    (fun T i a _ => a = { tmps := (T.setIfInBounds 12 (.int .i64 ((laneAt f i : Nat) : Int))).setIfInBounds 4 (.int .i64 ((laneAt f i : Nat) : Int)), defers := [] })
    ?assign (fun _ _ _ _ hs _ _ => hs) ?body ?done ?stop
  case assign =>
    intro l i W K hi hlt _ hK
    gi_wp2
    exact hK _ _ (KeepsFrom.refl _ _) (Same.refl _ _) hi rfl
  case body =>
    rintro l i a₁ W ⟨⟨v, hv, hrow, -⟩, p0, p3, hB⟩ hlt hsz rfl
    simp only [List.setIfInBounds_toArray, List.set_cons_succ, List.set_cons_zero]
    have hx8 : laneAt f i < 8 := by
      have hla : laneAt f i = (lanesL f)[i] := by unfold laneAt; rw [List.getD_eq_getElem?_getD, List.getElem?_eq_getElem hlt]; rfl
      rw [hla]; exact (lanesL_mem.1 (List.getElem_mem hlt)).1
    obtain ⟨s0, s1, s2⟩ := (HG.out.below hB hl).slot (laneAt f i) hx8
    have e0 := p0.boxed.cell
    obtain ⟨av, cv, rfl⟩ := ownsRow_slice hrow
    have hc := hv.cell
    have hx9 : ((laneAt f i : Nat) : Int) < 8 := by omega
    have hz := hB.size
    have HV := Lib.hid hv
    have HR := Lib.hid hrow
    have H0 := Lib.hid p0
    have H3 := Lib.hid p3
    clear hv hrow p0 p3
    gi_wp2
    refine wp_region_seqIn (fun _ => False) #[⟨0, 0, 8192, 8, 1⟩, ⟨0, 0, 16384, 2, 0⟩, ⟨2, 2, 32768, 16384, 1⟩, ⟨0, 0, 65536, 16, 0⟩, ⟨4, 6, 131072, 32768, 0⟩, ⟨16, 22, 262144, 131072, 0⟩, ⟨40, 62, 524288, 327680, 0⟩, ⟨64, 126, 1048576, 524288, 1⟩, ⟨128, 254, 2097152, 1048576, 2⟩, ⟨257, 511, 4194304, 2105344, 3⟩, ⟨1023, 1023, 0, 4194312, 3⟩] 133 [(0, 1), (1, 0), (2, 1), (3, 0), (4, 0), (5, 0), (6, 0), (7, 1), (8, 2), (9, 3), (10, 3)] (by kernel_rfl) (by kernel_rfl) (by kernel_rfl) (by kernel_rfl) (by kernel_rfl) (by kernel_rfl) (fun c a d v w h => by cases d <;> exact h) (by kernel_rfl) (by rintro ⟨a, w, h⟩; exact h) ?_
    refine seq_load1 (by simp only [List.getElem?_toArray, List.getElem?_cons_succ, List.getElem?_cons_zero]; rfl) (by rfl) rfl rfl Tryd.underlying60 rfl (by go_simp <;> with_reducible rfl) (by first | exact id | assumption | (simp; done) | (simp; omega)) ?_
    try simp only [Act.put, List.setIfInBounds_toArray, List.set_cons_zero, List.set_cons_succ]
    refine seq_calc (by simp only [List.getElem?_toArray, List.getElem?_cons_succ, List.getElem?_cons_zero]; rfl) (by rfl) (fun u => by go_simp <;> with_reducible rfl) ?_
    try simp only [Act.put, List.setIfInBounds_toArray, List.set_cons_zero, List.set_cons_succ]
    refine seq_load1 (by simp only [List.getElem?_toArray, List.getElem?_cons_succ, List.getElem?_cons_zero]; rfl) (by rfl) rfl rfl Tryd.underlying63 rfl (by go_simp <;> with_reducible rfl) (by first | exact id | assumption | (simp; done) | (simp; omega)) ?_
    try simp only [Act.put, List.setIfInBounds_toArray, List.set_cons_zero, List.set_cons_succ]
    refine seq_calc (by simp only [List.getElem?_toArray, List.getElem?_cons_succ, List.getElem?_cons_zero]; rfl) (by rfl) (fun u => by go_simp <;> with_reducible rfl) ?_
    try simp only [Act.put, List.setIfInBounds_toArray, List.set_cons_zero, List.set_cons_succ]
    refine seq_calc (by simp only [List.getElem?_toArray, List.getElem?_cons_succ, List.getElem?_cons_zero]; rfl) (by rfl) (fun u => by go_simp <;> with_reducible rfl) ?_
    try simp only [Act.put, List.setIfInBounds_toArray, List.set_cons_zero, List.set_cons_succ]
    refine seq_calc (by simp only [List.getElem?_toArray, List.getElem?_cons_succ, List.getElem?_cons_zero]; rfl) (by rfl) (fun u => by go_simp <;> with_reducible rfl) ?_
    try simp only [Act.put, List.setIfInBounds_toArray, List.set_cons_zero, List.set_cons_succ]
    refine seq_calc (by simp only [List.getElem?_toArray, List.getElem?_cons_succ, List.getElem?_cons_zero]; rfl) (by rfl) (fun u => by go_simp <;> with_reducible rfl) ?_
    try simp only [Act.put, List.setIfInBounds_toArray, List.set_cons_zero, List.set_cons_succ]
    refine seq_loads [_, _, _] (by simp only [List.getElem?_toArray, List.getElem?_cons_succ, List.getElem?_cons_zero]; rfl) (by rfl) rfl rfl Tryd.underlying62 rfl (by kernel_rfl) (by first | (with_reducible assumption) | (refine cellsAre_range ?_; simp only [cellsAre]; (repeat' (first | exact True.intro | apply And.intro)); all_goals (go_simp <;> with_reducible rfl))) (by first | exact id | assumption | (simp; done) | (simp; omega)) ?_
    try simp only [Act.put, List.setIfInBounds_toArray, List.set_cons_zero, List.set_cons_succ]
    refine seq_do (by simp only [List.getElem?_toArray, List.getElem?_cons_succ, List.getElem?_cons_zero]; rfl) (by rfl) (fun K hK => ?_); go_wp2_with (fail); refine hK.out _ _ (by first | exact Chg.drewAlloc _ _ _ | (with_reducible exact Chg.refl _ _) | (with_reducible assumption) | (refine Chg.of_below ?_; with_reducible assumption) | (with_reducible exact (Chg.refl _ _).alloc _) | (with_reducible exact (Chg.refl _ _).drewN _) | (with_reducible exact (Chg.refl _ _).drew) | exact ⟨rfl, rfl, rfl, Nat.le_refl _, fun _ _ _ => rfl⟩) ?_; clear hK K
    try simp only [Act.put, List.setIfInBounds_toArray, List.set_cons_zero, List.set_cons_succ]
    refine seq_last (by simp only [List.getElem?_toArray, List.getElem?_cons_succ, List.getElem?_cons_zero]; rfl) (by rfl) (fun K hK => ?_); (refine wp_append_own2 _ _ 60 rfl wL.heap.size 62 i0 (.agg #[.int .u64 0, .int .u64 0, .int .u64 0]) 3 24 Tryd.underlying60 hi hz0 hz1 hz2 rfl (by decide) _ _ _ rfl (show (World.drew (W.alloc _)).ownsRow _ _ _ _ _ _ from HR.out.alloc _) ⟨W.heap.size, 0, none⟩ 1 1 [.int .u64 (s (laneAt f i)).key, .int .u64 (s (laneAt f i)).val, .int .u64 (s (laneAt f i)).hash] rfl rfl (cell3_new W _ _ _ _) (by simp [Value.oneCell']) (by unfold maxLen; omega) (by omega) (by simp; omega) (by decide) ?_; intro v' w1 hown' hgrow0 _; have hgrow := grown_undrew hgrow0; clear hgrow0; obtain ⟨g', cap', rfl⟩ := ownsRow_succ hown'; obtain ⟨hv1, hv2, hr2, hk2, hb2⟩ := appended3 (n₀ := w.heap.size) HV.out (by decide) HR.out (by omega) (by omega) (by omega) hown' hgrow; have hk3 := Lib.hid (((H0.out.alloc _).kept hgrow (own_ne HR.out (by omega))).other (B' := w.heap.size + 1) (by omega) 0 (.slice (some ⟨g', 0, none⟩) (i + 1) cap')); have hk4 := Lib.hid (((H3.out.alloc _).kept hgrow (own_ne HR.out (by omega))).other (B' := w.heap.size + 1) (by omega) 0 (.slice (some ⟨g', 0, none⟩) (i + 1) cap')); have hc1 := hv1.cell; have hf1 := hv1.frozen); refine hK.out _ _ ?_; clear hK K
    try simp only [Act.put, List.setIfInBounds_toArray, List.set_cons_zero, List.set_cons_succ]
    refine seq_last (by simp only [List.getElem?_toArray, List.getElem?_cons_succ, List.getElem?_cons_zero]; rfl) (by rfl) (fun K hK => ?_); go_wp2_with (fail); refine hK.out _ _ ?_; clear hK K
    try simp only [Act.put, List.setIfInBounds_toArray, List.set_cons_zero, List.set_cons_succ]
    refine seq_nil ?_
    gi_wp2
    refine ⟨hk2.from _, ?_, ⟨_, hv2, by rw [HS.out]; exact hr2, trivial⟩, hk3.out, hk4.out, hB.trans hb2⟩
    rintro b (rfl | rfl)
    · exact (show _ = _ from hk4.out).trans (show _ = _ from H3.out).symm
    · exact hb2.block _ hgl
  case done =>
    rintro D W hD ⟨⟨v, hv, hrow, -⟩, p0, p3, hB⟩ hK
    have hc := hv.cell
    have HK := Lib.hid hK
    rw [HAE.out] at hrow
    have HR := Lib.hid (ownsRow_putObj (ownsRow_base hrow (show w.heap.size ≤ wL.heap.size by omega)) (.deferred none) hK rfl)
    clear hK hrow hv
    go_wp2
    refine ⟨by simp, .inl ⟨_, _, rfl, run_takeDeferred HK.out, ?_⟩⟩
    refine ⟨_, results_tmp rfl _ _ _, v, rfl, ?_, hB.trans (below_putObj _ (by omega) HK.out)⟩
    rw [List.length_map]; exact HR.out
  case stop =>
    rintro D c W hD h _
    exact h.elim
end Go.Proofs.YtcmjddkljmfklaaDoor
