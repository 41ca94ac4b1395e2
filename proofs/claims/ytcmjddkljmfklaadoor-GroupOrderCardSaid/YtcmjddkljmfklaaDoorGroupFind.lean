/- Package group: Find. Condition: the table of package bits. -/
import Derived.Test.YtcmjddkljmfklaaDoorGroupPut
import Derived.Test.YtcmjddkljmfklaaDoorSwarIter
import Derived.Test.YtcmjddkljmfklaaDoorRangeM
import Derived.Test.YtcmjddkljmfklaaDoorSeqIn
namespace Go.Proofs.YtcmjddkljmfklaaDoor
set_option linter.unusedVariables false
set_option linter.unusedSimpArgs false
open Go.RowKit Go.Proofs
attribute [local go_sem] Oper.semAt_some wide_depth round_depth wide_fn round_fn

/-- the first of these slots that has the key -/
def findZ (s : Nat → EntS) (key : Int) (l : List Nat) : Int := match l.find? (fun n => (s n).key == key) with | none => -1 | some n => (n : Int)
theorem findZ_hit (s : Nat → EntS) (key : Int) (l : List Nat) (i : Nat) (hi : i < l.length) (h : (s l[i]).key = key) (hb : ∀ j (hj : j < i), (s (l[j]'(by omega))).key ≠ key) : findZ s key l = (l[i] : Int) := by
  unfold findZ
  have : l.find? (fun n => (s n).key == key) = some l[i] := by
    rw [List.find?_eq_some_iff_getElem]
    exact ⟨by simpa using h, i, hi, rfl, fun j hj => by simpa using hb j hj⟩
  rw [this]
theorem findZ_miss (s : Nat → EntS) (key : Int) (l : List Nat) (h : ∀ j (hj : j < l.length), (s l[j]).key ≠ key) : findZ s key l = -1 := by
  unfold findZ
  have : l.find? (fun n => (s n).key == key) = none := by
    rw [List.find?_eq_none]
    intro x hx
    obtain ⟨j, hj, rfl⟩ := List.getElem_of_mem hx
    simpa using h j hj
  rw [this]
set_option maxRecDepth 100000 in
set_option maxHeartbeats 4000000 in
theorem gfind_any (G o m h : Nat) (s : Nat → EntS) (key : Int) (hm : m < 18446744073709551616) (hh : h < 18446744073709551616) (w : World) (hg : GW w G o m s) (hT : Tab64 w) :
    Calls Tryd.prog 41 #[.agg #[.pointer (some ⟨G, o, none⟩)], .int .u64 key, .int .u64 (h : Int)] w fun e w' => e = .returned (.int .i64 (findZ s key (lanesL (equalB m (h % 128))))) ∧ Below w.heap.size w w' := by
  have HG := Lib.hid hg
  have HT := Lib.hid hT
  have hl := hg.lt
  have hl1 : G < w.heap.size + 1 := by omega
  have hl2 : G < w.heap.size + 1 + 1 := by omega
  have c0 := hg.word
  have H2 := Lib.hid (h2_any h hh)
  have hq := Nat.mod_lt h (show 0 < 128 by decide)
  have MT := Lib.hid (cmatch_any m (h % 128) hm (by omega))
  have hmt : matchN m (h % 128) = maskB (equalB m (h % 128)) := by unfold matchN; rw [if_pos hq]
  rw [hmt] at MT
  have HQ := Lib.hid (maskB_lt (equalB m (h % 128)))
  have HF := Lib.hid (maskB_high (equalB m (h % 128)))
  obtain ⟨f, hf⟩ : ∃ f, f = equalB m (h % 128) := ⟨_, rfl⟩
  rw [← hf] at MT HQ HF ⊢
  generalize hQ : maskB f = Q at *
  generalize h % 128 = q at *
  clear hmt
  refine (callsIn_wide (n := 0)).1 ?_
  refine callsIn_of_wp_marks Tryd.func41 rfl trivial ?_
  simp only [Tryd.ntmps41, List.size_toArray, List.length_cons, List.length_nil, Nat.reduceAdd, Nat.reduceSub, Array.replicate_succ, Array.replicate_zero, List.push_toArray, List.append_toArray, List.nil_append, List.cons_append]
  refine wpIn_wide.2 ?_
  clear hg hT
  have HFE := Lib.hid hf
  have HQE := Lib.hid hQ
  clear hf hQ
  go_wp2
  refine wp_region_noPanic ?_
  refine wp_region_seq (fun _ => False) #[⟨0, 0, 256, 8, 0⟩, ⟨1, 1, 512, 256, 1⟩, ⟨2, 3, 1024, 512, 0⟩, ⟨4, 7, 2048, 1024, 0⟩, ⟨8, 15, 4096, 2048, 1⟩, ⟨0, 0, 8192, 4, 0⟩, ⟨32, 32, 16384, 8192, 2⟩, ⟨80, 127, 32768, 20480, 3⟩, ⟨128, 255, 65536, 32768, 3⟩] 18 [(0, 0), (1, 1), (2, 0), (3, 0), (4, 1), (5, 0), (6, 2), (7, 3), (8, 3)] (by kernel_rfl) (by kernel_rfl) (by kernel_rfl) (by kernel_rfl) (by kernel_rfl) (by kernel_rfl) (fun c a d v w h => by cases d <;> exact h) ?_
  refine seq_calc (by simp only [List.getElem?_toArray, List.getElem?_cons_succ, List.getElem?_cons_zero]; rfl) (by rfl) (fun u => by go_simp <;> with_reducible rfl) ?_
  try simp only [Act.put, List.setIfInBounds_toArray, List.set_cons_zero, List.set_cons_succ]
  refine seq_load1 (by simp only [List.getElem?_toArray, List.getElem?_cons_succ, List.getElem?_cons_zero]; rfl) (by rfl) rfl rfl Tryd.underlying63 rfl (by go_simp <;> with_reducible rfl) (by first | exact id | assumption | (simp; done) | (simp; omega)) ?_
  try simp only [Act.put, List.setIfInBounds_toArray, List.set_cons_zero, List.set_cons_succ]
  refine seq_calc (by simp only [List.getElem?_toArray, List.getElem?_cons_succ, List.getElem?_cons_zero]; rfl) (by rfl) (fun u => by go_simp <;> with_reducible rfl) ?_
  try simp only [Act.put, List.setIfInBounds_toArray, List.set_cons_zero, List.set_cons_succ]
  refine seq_calc (by simp only [List.getElem?_toArray, List.getElem?_cons_succ, List.getElem?_cons_zero]; rfl) (by rfl) (fun u => by go_simp <;> with_reducible rfl) ?_
  try simp only [Act.put, List.setIfInBounds_toArray, List.set_cons_zero, List.set_cons_succ]
  refine seq_load1 (by simp only [List.getElem?_toArray, List.getElem?_cons_succ, List.getElem?_cons_zero]; rfl) (by rfl) rfl rfl Tryd.underlying97 rfl (by go_simp <;> with_reducible rfl) (by first | exact id | assumption | (simp; done) | (simp; omega)) ?_
  try simp only [Act.put, List.setIfInBounds_toArray, List.set_cons_zero, List.set_cons_succ]
  refine seq_calc (by simp only [List.getElem?_toArray, List.getElem?_cons_succ, List.getElem?_cons_zero]; rfl) (by rfl) (fun u => by go_simp <;> with_reducible rfl) ?_
  try simp only [Act.put, List.setIfInBounds_toArray, List.set_cons_zero, List.set_cons_succ]
  refine seq_do (by simp only [List.getElem?_toArray, List.getElem?_cons_succ, List.getElem?_cons_zero]; rfl) (by rfl) (fun K hK => ?_); go_wp2_with (first | (go_at_call 89; refine (H2.out _).mono ?_; rintro e w' ⟨rfl, rfl⟩) | (go_at_call 96; refine (MT.out _).mono ?_; rintro e w' ⟨rfl, rfl⟩) | (go_at_call 91; refine (lanes_any _ _).mono ?_; rintro e w' ⟨rfl, rfl⟩)); refine hK.out _ _ (by first | (with_reducible exact Chg.refl _ _) | (with_reducible assumption) | (refine Chg.of_below ?_; with_reducible assumption) | (with_reducible exact (Chg.refl _ _).alloc _) | (with_reducible exact (Chg.refl _ _).drewN _) | (with_reducible exact (Chg.refl _ _).drew) | exact ⟨rfl, rfl, rfl, Nat.le_refl _, fun _ _ _ => rfl⟩) ?_; clear hK K
  try simp only [Act.put, List.setIfInBounds_toArray, List.set_cons_zero, List.set_cons_succ]
  refine seq_last (by simp only [List.getElem?_toArray, List.getElem?_cons_succ, List.getElem?_cons_zero]; rfl) (by rfl) (fun K hK => ?_); go_wp2_with (first | (go_at_call 89; refine (H2.out _).mono ?_; rintro e w' ⟨rfl, rfl⟩) | (go_at_call 96; refine (MT.out _).mono ?_; rintro e w' ⟨rfl, rfl⟩) | (go_at_call 91; refine (lanes_any _ _).mono ?_; rintro e w' ⟨rfl, rfl⟩)); refine hK.out _ _ ?_; clear hK K
  try simp only [Act.put, List.setIfInBounds_toArray, List.set_cons_zero, List.set_cons_succ]
  refine seq_last (by simp only [List.getElem?_toArray, List.getElem?_cons_succ, List.getElem?_cons_zero]; rfl) (by rfl) (fun K hK => ?_); go_wp2_with (first | (go_at_call 89; refine (H2.out _).mono ?_; rintro e w' ⟨rfl, rfl⟩) | (go_at_call 96; refine (MT.out _).mono ?_; rintro e w' ⟨rfl, rfl⟩) | (go_at_call 91; refine (lanes_any _ _).mono ?_; rintro e w' ⟨rfl, rfl⟩)); refine hK.out _ _ ?_; clear hK K
  try simp only [Act.put, List.setIfInBounds_toArray, List.set_cons_zero, List.set_cons_succ]
  refine seq_nil ?_
  refine NoPanic.normal ?_
  go_wp2
  refine wp_at (fun wL hwL => ?_)
  have q0 : Blk wL w.heap.size 67 #[.pointer (some ⟨G, o, none⟩)] := by rw [hwL]; exact (((Blk.new w _ _).alloc _).alloc _).alloc _
  have q1 : Blk wL (w.heap.size + 1) 22 #[.int .u64 key] := by rw [hwL]; exact ((Blk.new_at (by simp)).alloc _).alloc _
  have q2 : Blk wL (w.heap.size + 1 + 1) 3 #[.int .i64 0] := by rw [hwL]; exact (Blk.new_at (by simp)).alloc _
  have q3 : Blk wL (w.heap.size + 1 + 1 + 1) 22 #[.int .u64 (Q : Int)] := by rw [hwL]; exact Blk.new_at (by simp)
  have qB : Below w.heap.size w wL := by rw [hwL]; go_grown
  have qz : wL.heap.size = w.heap.size + 1 + 1 + 1 + 1 := by rw [hwL]; simp
  have hgv := lanes_gives Q HQ.out (w.heap.size + 1 + 1 + 1) wL (q3.cell 0) (HT.out.below qB)
  have hgl : 16 < w.heap.size := World.block_lt_of_cell? _ _ (HT.out 0 (by decide))
  have hL : lanesL (highB Q) = lanesL f := lanesL_congr HF.out
  have hLa : ∀ i, laneAt (highB Q) i = laneAt f i := fun i => by unfold laneAt; rw [hL]
  simp only [hL, hLa] at hgv
  have HGV := Lib.hid hgv
  clear hwL hgv hL hLa
  refine (wpIn_wide (n := 0)).1 ?_
  refine wp_rangeAt rfl enters_lanes HGV.out (fun b hb => by rcases hb with rfl | rfl <;> omega) (fun _ => rfl)
    (fun i W => (Blk W w.heap.size 67 #[.pointer (some ⟨G, o, none⟩)] ∧ Blk W (w.heap.size + 1) 22 #[.int .u64 key] ∧ Blk W (w.heap.size + 1 + 1) 3 #[.int .i64 0] ∧ Blk W (w.heap.size + 1 + 1 + 1) 22 #[.int .u64 (Q : Int)] ∧ (∀ j, j < i → (s (laneAt f j)).key ≠ key)) ∧ Below w.heap.size w W)
    (fun c W => (c = .ret ∧ Blk W (w.heap.size + 1 + 1) 3 #[.int .i64 (findZ s key (lanesL f))]) ∧ Below w.heap.size w W)
    (OwnFrom.and (Own.from (own_and (blk_own _ _ _) (own_and (blk_own _ _ _) (own_and (blk_own _ _ _) (own_and (blk_own _ _ _) (own_pure _))))) _) (ownFrom_below (Nat.le_refl _) (by omega)))
    (OwnFrom.and (Own.from (own_and (own_pure _) (blk_own _ _ _)) _) (ownFrom_below (Nat.le_refl _) (by omega)))
    ⟨⟨q0, q1, q2, q3, fun j hj => by omega⟩, qB⟩
    (fun T i a _ => a = { tmps := (T.setIfInBounds 17 (.int .i64 ((laneAt f i : Nat) : Int))).setIfInBounds 7 (.int .i64 ((laneAt f i : Nat) : Int)), defers := [] })
    ?assign (fun _ _ _ _ hs _ _ => hs) ?body ?done ?stop
  case assign =>
    intro l i W K hi hlt _ hK
    gi_wp2
    exact hK _ _ (KeepsFrom.refl _ _) (Same.refl _ _) hi rfl
  case body =>
    rintro l i a₁ W ⟨⟨p0, p1, p2, p3, hne⟩, hB⟩ hlt hsz rfl
    simp only [List.setIfInBounds_toArray, List.set_cons_succ, List.set_cons_zero]
    have hla : laneAt f i = (lanesL f)[i] := by unfold laneAt; rw [List.getD_eq_getElem?_getD, List.getElem?_eq_getElem hlt]; rfl
    have hx8 : laneAt f i < 8 := by rw [hla]; exact (lanesL_mem.1 (List.getElem_mem hlt)).1
    obtain ⟨s0, s1, s2⟩ := (HG.out.below hB hl).slot (laneAt f i) hx8
    have e0 := p0.boxed.cell
    have e1 := p1.boxed.cell
    have e2 := p2.boxed.cell
    have f2 := p2.boxed.frozen
    have hx9 : ((laneAt f i : Nat) : Int) < 8 := by omega
    have HLA := Lib.hid hla
    have HNE := Lib.hid hne
    clear hla hne
    by_cases hk : (s (laneAt f i)).key = key
    · have hkb : ((s (laneAt f i)).key == key) = true := by simpa using hk
      have HK := Lib.hid hk
      clear hk
      gi_wp2
      refine wp_region_seqIn (fun _ => False) #[⟨0, 0, 262144, 8, 0⟩, ⟨1, 1, 524288, 262144, 1⟩, ⟨0, 0, 1048576, 128, 0⟩, ⟨2, 3, 2097152, 524288, 0⟩, ⟨8, 11, 4194304, 2097152, 0⟩, ⟨20, 31, 8388608, 5242880, 0⟩, ⟨32, 63, 16777216, 8388608, 0⟩, ⟨64, 127, 33554432, 16777216, 1⟩, ⟨0, 0, 67108864, 16, 1⟩, ⟨384, 511, 134217728, 100663296, 0⟩] 386 [(0, 0), (1, 1), (2, 0), (3, 0), (4, 0), (5, 0), (6, 0), (7, 1), (8, 1), (9, 0)] (by kernel_rfl) (by kernel_rfl) (by kernel_rfl) (by kernel_rfl) (by kernel_rfl) (by kernel_rfl) (fun c a d v w h => by cases d <;> exact h) (by kernel_rfl) (by rintro ⟨a, w, h⟩; exact h) ?_
      refine seq_calc (by simp only [List.getElem?_toArray, List.getElem?_cons_succ, List.getElem?_cons_zero]; rfl) (by rfl) (fun u => by go_simp <;> with_reducible rfl) ?_
      try simp only [Act.put, List.setIfInBounds_toArray, List.set_cons_zero, List.set_cons_succ]
      refine seq_load1 (by simp only [List.getElem?_toArray, List.getElem?_cons_succ, List.getElem?_cons_zero]; rfl) (by rfl) rfl rfl Tryd.underlying63 rfl (by go_simp <;> with_reducible rfl) (by first | exact id | assumption | (simp; done) | (simp; omega)) ?_
      try simp only [Act.put, List.setIfInBounds_toArray, List.set_cons_zero, List.set_cons_succ]
      refine seq_calc (by simp only [List.getElem?_toArray, List.getElem?_cons_succ, List.getElem?_cons_zero]; rfl) (by rfl) (fun u => by go_simp <;> with_reducible rfl) ?_
      try simp only [Act.put, List.setIfInBounds_toArray, List.set_cons_zero, List.set_cons_succ]
      refine seq_calc (by simp only [List.getElem?_toArray, List.getElem?_cons_succ, List.getElem?_cons_zero]; rfl) (by rfl) (fun u => by go_simp <;> with_reducible rfl) ?_
      try simp only [Act.put, List.setIfInBounds_toArray, List.set_cons_zero, List.set_cons_succ]
      refine seq_calc (by simp only [List.getElem?_toArray, List.getElem?_cons_succ, List.getElem?_cons_zero]; rfl) (by rfl) (fun u => by go_simp <;> with_reducible rfl) ?_
      try simp only [Act.put, List.setIfInBounds_toArray, List.set_cons_zero, List.set_cons_succ]
      refine seq_calc (by simp only [List.getElem?_toArray, List.getElem?_cons_succ, List.getElem?_cons_zero]; rfl) (by rfl) (fun u => by go_simp <;> with_reducible rfl) ?_
      try simp only [Act.put, List.setIfInBounds_toArray, List.set_cons_zero, List.set_cons_succ]
      refine seq_calc (by simp only [List.getElem?_toArray, List.getElem?_cons_succ, List.getElem?_cons_zero]; rfl) (by rfl) (fun u => by go_simp <;> with_reducible rfl) ?_
      try simp only [Act.put, List.setIfInBounds_toArray, List.set_cons_zero, List.set_cons_succ]
      refine seq_load1 (by simp only [List.getElem?_toArray, List.getElem?_cons_succ, List.getElem?_cons_zero]; rfl) (by rfl) rfl rfl Tryd.underlying22 rfl (by go_simp <;> with_reducible rfl) (by first | exact id | assumption | (simp; done) | (simp; omega)) ?_
      try simp only [Act.put, List.setIfInBounds_toArray, List.set_cons_zero, List.set_cons_succ]
      refine seq_load1 (by simp only [List.getElem?_toArray, List.getElem?_cons_succ, List.getElem?_cons_zero]; rfl) (by rfl) rfl rfl Tryd.underlying22 rfl (by go_simp <;> with_reducible rfl) (by first | exact id | assumption | (simp; done) | (simp; omega)) ?_
      try simp only [Act.put, List.setIfInBounds_toArray, List.set_cons_zero, List.set_cons_succ]
      refine seq_calc (by simp only [List.getElem?_toArray, List.getElem?_cons_succ, List.getElem?_cons_zero]; rfl) (by rfl) (fun u => by go_simp <;> with_reducible rfl) ?_
      try simp only [Act.put, List.setIfInBounds_toArray, List.set_cons_zero, List.set_cons_succ]
      refine seq_nil ?_
      gi_wp2
      refine ⟨((KeepsOthers.drew W).trans (KeepsOthers.setCell _ _ _)).from _, ⟨rfl, ?_⟩, hB.trans (Below.undrew ((Below.refl _ _).setCell (by simp <;> omega) _))⟩
      rw [findZ_hit s key (lanesL f) i hlt (by rw [← HLA.out]; exact HK.out) (fun j hj => by have := HNE.out j hj; rwa [show laneAt f j = (lanesL f)[j]'(by omega) by unfold laneAt; rw [List.getD_eq_getElem?_getD, List.getElem?_eq_getElem (by omega)]; rfl] at this), ← HLA.out]
      exact p2.drew.set 0 _
    · have hkb : ((s (laneAt f i)).key == key) = false := by simpa using hk
      have HK := Lib.hid hk
      clear hk
      gi_wp2
      refine wp_region_seqIn (fun _ => False) #[⟨0, 0, 262144, 8, 0⟩, ⟨1, 1, 524288, 262144, 1⟩, ⟨0, 0, 1048576, 128, 0⟩, ⟨2, 3, 2097152, 524288, 0⟩, ⟨8, 11, 4194304, 2097152, 0⟩, ⟨20, 31, 8388608, 5242880, 0⟩, ⟨32, 63, 16777216, 8388608, 0⟩, ⟨64, 127, 33554432, 16777216, 1⟩, ⟨0, 0, 67108864, 16, 1⟩, ⟨384, 511, 134217728, 100663296, 0⟩] 386 [(0, 0), (1, 1), (2, 0), (3, 0), (4, 0), (5, 0), (6, 0), (7, 1), (8, 1), (9, 0)] (by kernel_rfl) (by kernel_rfl) (by kernel_rfl) (by kernel_rfl) (by kernel_rfl) (by kernel_rfl) (fun c a d v w h => by cases d <;> exact h) (by kernel_rfl) (by rintro ⟨a, w, h⟩; exact h) ?_
      refine seq_calc (by simp only [List.getElem?_toArray, List.getElem?_cons_succ, List.getElem?_cons_zero]; rfl) (by rfl) (fun u => by go_simp <;> with_reducible rfl) ?_
      try simp only [Act.put, List.setIfInBounds_toArray, List.set_cons_zero, List.set_cons_succ]
      refine seq_load1 (by simp only [List.getElem?_toArray, List.getElem?_cons_succ, List.getElem?_cons_zero]; rfl) (by rfl) rfl rfl Tryd.underlying63 rfl (by go_simp <;> with_reducible rfl) (by first | exact id | assumption | (simp; done) | (simp; omega)) ?_
      try simp only [Act.put, List.setIfInBounds_toArray, List.set_cons_zero, List.set_cons_succ]
      refine seq_calc (by simp only [List.getElem?_toArray, List.getElem?_cons_succ, List.getElem?_cons_zero]; rfl) (by rfl) (fun u => by go_simp <;> with_reducible rfl) ?_
      try simp only [Act.put, List.setIfInBounds_toArray, List.set_cons_zero, List.set_cons_succ]
      refine seq_calc (by simp only [List.getElem?_toArray, List.getElem?_cons_succ, List.getElem?_cons_zero]; rfl) (by rfl) (fun u => by go_simp <;> with_reducible rfl) ?_
      try simp only [Act.put, List.setIfInBounds_toArray, List.set_cons_zero, List.set_cons_succ]
      refine seq_calc (by simp only [List.getElem?_toArray, List.getElem?_cons_succ, List.getElem?_cons_zero]; rfl) (by rfl) (fun u => by go_simp <;> with_reducible rfl) ?_
      try simp only [Act.put, List.setIfInBounds_toArray, List.set_cons_zero, List.set_cons_succ]
      refine seq_calc (by simp only [List.getElem?_toArray, List.getElem?_cons_succ, List.getElem?_cons_zero]; rfl) (by rfl) (fun u => by go_simp <;> with_reducible rfl) ?_
      try simp only [Act.put, List.setIfInBounds_toArray, List.set_cons_zero, List.set_cons_succ]
      refine seq_calc (by simp only [List.getElem?_toArray, List.getElem?_cons_succ, List.getElem?_cons_zero]; rfl) (by rfl) (fun u => by go_simp <;> with_reducible rfl) ?_
      try simp only [Act.put, List.setIfInBounds_toArray, List.set_cons_zero, List.set_cons_succ]
      refine seq_load1 (by simp only [List.getElem?_toArray, List.getElem?_cons_succ, List.getElem?_cons_zero]; rfl) (by rfl) rfl rfl Tryd.underlying22 rfl (by go_simp <;> with_reducible rfl) (by first | exact id | assumption | (simp; done) | (simp; omega)) ?_
      try simp only [Act.put, List.setIfInBounds_toArray, List.set_cons_zero, List.set_cons_succ]
      refine seq_load1 (by simp only [List.getElem?_toArray, List.getElem?_cons_succ, List.getElem?_cons_zero]; rfl) (by rfl) rfl rfl Tryd.underlying22 rfl (by go_simp <;> with_reducible rfl) (by first | exact id | assumption | (simp; done) | (simp; omega)) ?_
      try simp only [Act.put, List.setIfInBounds_toArray, List.set_cons_zero, List.set_cons_succ]
      refine seq_calc (by simp only [List.getElem?_toArray, List.getElem?_cons_succ, List.getElem?_cons_zero]; rfl) (by rfl) (fun u => by go_simp <;> with_reducible rfl) ?_
      try simp only [Act.put, List.setIfInBounds_toArray, List.set_cons_zero, List.set_cons_succ]
      refine seq_nil ?_
      gi_wp2
      refine ⟨(KeepsOthers.drew W).from _, fun _ _ => rfl, ⟨p0, p1, p2, p3, fun j hj => ?_⟩, hB.drew⟩
      by_cases e : j = i
      · subst e; exact HK.out
      · exact HNE.out j (by omega)
  case done =>
    rintro D W hD ⟨⟨p0, p1, p2, p3, hne⟩, hB⟩ hK
    have e2 := p2.boxed.cell
    have f2 := p2.boxed.frozen
    have hkD := Lib.hid hK
    have hF : findZ s key (lanesL f) = -1 := findZ_miss s key _ (fun j hj => by have := hne j hj; rwa [show laneAt f j = (lanesL f)[j] by unfold laneAt; rw [List.getD_eq_getElem?_getD, List.getElem?_eq_getElem hj]; rfl] at this)
    have HFZ := Lib.hid hF
    clear hK hne hF
    go_wp2
    refine end_mark (v := .int .i64 (-1)) ((KeepsOthers.setCell _ _ _).same D _ hkD.out rfl) (results_cell1 rfl rfl (Blk.putObj (Blk.set p2 0 (.int .i64 (-1))) (by omega) _).boxed.cell Tryd.isAgg3) ⟨by rw [HFZ.out], ?_⟩ _ (.inl rfl)
    exact (hB.trans ((Below.refl _ W).setCell (by simp <;> omega) _)).trans (below_putObj _ (by omega) ((KeepsOthers.setCell _ _ _).same D _ hkD.out rfl))
  case stop =>
    rintro D c W hD ⟨⟨rfl, p2⟩, hB⟩ hK
    have hkD := Lib.hid hK
    clear hK
    gi_wp2
    refine end_mark (v := .int .i64 (findZ s key (lanesL f))) hkD.out (results_cell1 rfl rfl (Blk.putObj p2 (by omega) _).boxed.cell Tryd.isAgg3) ⟨rfl, ?_⟩ _ (.inl rfl)
    exact hB.trans (below_putObj _ (by omega) hkD.out)
end Go.Proofs.YtcmjddkljmfklaaDoor
