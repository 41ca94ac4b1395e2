/- The document's queue. No condition. -/
import Derived.Test.YtaegjdkmnkjggaaDoorQueueStays
import Derived.Laws.AppendOwnNone
namespace Go.Proofs.YtaegjdkmnkjggaaDoor
set_option linter.unusedVariables false
set_option linter.unusedSimpArgs false
open Go.RowKit Go.Proofs

/-- v reads as xs, and lies from block K on -/
def RF (K : Nat) (w : World) (v : Value) (xs : List Int) : Prop := ReadsInts w v xs ∧ (∀ a n c, v = .slice (some a) n c → K ≤ a.block) ∧ ∀ n c, v = .slice none n c → c = 0
theorem RF.chg {K : Nat} {X : Nat → Prop} {w w' : World} {v : Value} {xs : List Int} (h : RF K w v xs) (hc : Chg X w w') (hX : ∀ b, K ≤ b → ¬ X b) : RF K w' v xs := by
  obtain ⟨⟨a, cap, rfl, hx⟩, hK⟩ := h
  refine ⟨⟨a, cap, rfl, fun hne => ?_⟩, hK⟩
  obtain ⟨b, off, rfl, hcs⟩ := hx hne
  exact ⟨b, off, rfl, fun i hi => hc.keep (hcs i hi) (hX b (hK.1 _ _ _ rfl))⟩
theorem RF.below {K : Nat} {w w' : World} {v : Value} {xs : List Int} (h : RF K w v xs) (hb : Below w.heap.size w w') : RF K w' v xs := ⟨h.1.later hb, h.2⟩
theorem rf_own {K : Nat} {w : World} {e : TypeId} {v : Value} {n : Nat} {xs : List Int} (h : w.ownsRow K e 1 v n (xs.map (Value.int .i64))) : RF K w v xs := by
  refine ⟨readsInts_own h, fun a n' c e => (h.lt a.block (by rw [e]; rfl)).1, fun n' c e => ?_⟩
  rcases h.2 with ⟨rfl, _⟩ | ⟨g, cap, cur, rfl, _⟩
  · cases e; rfl
  · cases e
theorem rf_nil (K : Nat) (w : World) : RF K w (.slice none 0 0) [] := ⟨⟨none, 0, rfl, fun h => absurd rfl h⟩, (fun a n c e => by cases e), (fun n c e => by cases e; rfl)⟩
/-- block M holds the model of a queue of room n in which just xs wait -/
def RQ (w : World) (M K : Nat) (n : Int) (xs : List Int) : Prop := ∃ v, Blk w M 44 #[v, .int .i64 n] ∧ RF K w v xs
theorem RQ.chg {M K : Nat} {n : Int} {X : Nat → Prop} {w w' : World} {xs : List Int} (h : RQ w M K n xs) (hc : Chg X w w') (hM : ¬ X M) (hX : ∀ b, K ≤ b → ¬ X b) : RQ w' M K n xs := by
  obtain ⟨v, h1, h2⟩ := h; exact ⟨v, h1.chg hc hM, h2.chg hc hX⟩
theorem RQ.below {M K : Nat} {n : Int} {w w' : World} {xs : List Int} (h : RQ w M K n xs) (hb : Below w.heap.size w w') : RQ w' M K n xs := by
  obtain ⟨v, h1, h2⟩ := h; exact ⟨v, h1.below hb h1.lt, h2.below hb⟩
theorem RQ.lt {M K : Nat} {n : Int} {w : World} {xs : List Int} (h : RQ w M K n xs) : M < w.heap.size := by
  obtain ⟨v, h1, h2⟩ := h; exact h1.lt

set_option maxHeartbeats 1600000 in
theorem rhead_any (M K : Nat) (n : Int) (xs : List Int) (hl : xs.length ≤ 1000) (w : World) (h : RQ w M K n xs) :
    Calls Tryd.prog 25 #[.pointer (some ⟨M, 0, none⟩)] w fun e w' => e = .returned (headV xs) ∧ w = w' := by
  obtain ⟨v, h1, ⟨⟨a, cap, rfl, hx⟩, -⟩⟩ := h
  have c0 := h1.cell 0
  cases xs with
  | nil =>
    have hz : ((0 : Int) < (([] : List Int).length : Int)) = False := by simp
    simp only [headV]
    clear h1 hx
    go_enter Tryd.func25, Tryd.ntmps25
    go_wp2
    refine wp_loop_rounds 1 ?_
    rw [rounds_succ]
    go_wp2
    go_ret2
    exact ⟨rfl, rfl⟩
  | cons x xs =>
    obtain ⟨b, off, rfl, hc⟩ := hx (by simp)
    have c1 : w.cell? ⟨b, off, none⟩ = some (.int .i64 x) := hc 0 (by simp)
    have hz : ((0 : Int) < ((x :: xs).length : Int)) := by simp <;> omega
    simp only [headV]
    clear h1 hx hc
    generalize (x :: xs).length = m at *
    go_enter Tryd.func25, Tryd.ntmps25
    go_wp2
    refine wp_loop_rounds 1 ?_
    rw [rounds_succ]
    go_wp2
    go_ret2
    exact ⟨rfl, rfl⟩
set_option maxRecDepth 100000 in
set_option maxHeartbeats 3200000 in
theorem rremove_any (M K : Nat) (n : Int) (xs : List Int) (x : Int) (hl : xs.length ≤ 1000) (w : World) (h : RQ w M K n xs) (hK : K ≤ w.heap.size) (hMK : M < K) :
    Calls Tryd.prog 26 #[.pointer (some ⟨M, 0, none⟩), .int .i64 x] w fun e w' => e = .returned (.bool (decide (x ∈ xs))) ∧ RQ w' M K n (cutL xs x) ∧ Chg (fun b => b = M) w w' := by
  obtain ⟨i0, hi, hz0, hz1, hz2⟩ := info_parts info3q
  obtain ⟨v, h1, h2⟩ := h
  obtain ⟨a, cap, rfl, hcs⟩ := h2.1.cellsOf
  have HCS := Lib.hid hcs
  have H1 := Lib.hid h1
  have c0 := h1.cell 0
  have hMz := h1.lt
  clear h1 h2 hcs
  go_enter Tryd.func26, Tryd.ntmps26
  go_wp2
  have hb0 : Below w.heap.size w (w.alloc (.cells #[] 3)) := (Below.refl _ _).alloc (Nat.le_refl _) _
  go_loopw [5, 15] (fun v5 v15 wr => ∃ (j : Nat), j ≤ xs.length ∧ v15 = .int .i64 (j : Int) ∧ wr.ownsRow w.heap.size 3 1 v5 (cutL (xs.take j) x).length ((cutL (xs.take j) x).map (Value.int .i64)) ∧ Below w.heap.size w wr) (fun _ v15 _ => xs.length - (intOf v15).toNat)
  case atStart => exact ⟨0, Nat.zero_le _, rfl, by simpa [cutL] using ownsRow_empty (Blk.new w _ _), hb0⟩
  case round =>
    obtain ⟨j, hj, rfl, hrow2, hbo⟩ := hrel
    clear hb0
    have HR2 := Lib.hid hrow2
    obtain ⟨a2', c2', rfl⟩ := ownsRow_slice hrow2
    have hzo := hbo.size
    have hle := cutL_le (xs.take j) x
    rw [List.length_take] at hle
    by_cases hlj : j < xs.length
    · obtain ⟨rb, ro, rfl, hcr2⟩ := HCS.out j hlj
      have hcj := hcr2 wr hbo
      have hct := Lib.hid (cutL_take xs x j hlj)
      clear hcr2 hrow2
      generalize xs[j] = y at hcj hct
      by_cases hyx : y = x
      · have hct2 := Lib.hid (hct.out.trans (if_pos hyx))
        have hyx' : (y != x) = false := by simp [hyx]
        replace hyx := Lib.hid hyx
        go_wp2
        go_roundw
        case rel => exact ⟨j + 1, by omega, by go_num, by rw [hct2.out]; exact HR2.out, hbo⟩
        case measure => simp [intOf]; omega
      · have hct2 := Lib.hid (hct.out.trans (if_neg hyx))
        have hyx' : (y != x) = true := by simp [hyx]
        replace hyx := Lib.hid hyx
        go_wp2_with (at_builtin; refine wpList_append_own _ rfl _ _ 22 rfl w.heap.size 3 i0 (.int .i64 0) 1 8 Tryd.underlying22 hi hz0 hz1 hz2 rfl (by decide) _ _ _ rfl (HR2.out.alloc _) ⟨wr.heap.size, 0, none⟩ 1 1 [.int .i64 y] rfl rfl (cell_one_new _ _ _) (by simp [Value.oneCell']) (by unfold maxLen; omega) (by omega) (by simp; omega) ?_; intro v' w4 hown4 hgrow4 _; have hb4 := below_append HR2.out hzo hgrow4; clear hgrow4; replace hown4 := Lib.hid hown4)
        go_roundw
        case rel => exact ⟨j + 1, by omega, by go_num, by rw [hct2.out]; simpa using hown4.out, hbo.trans hb4⟩
        case measure => simp [intOf]; omega
    · obtain rfl : j = xs.length := by omega
      rw [List.take_length] at HR2 hle
      clear hrow2
      obtain ⟨k1, k2⟩ := bcell hbo
      have f0 := H1.out.frozen 0
      have hcl := cutL_len xs x
      have hrf := Lib.hid (rf_own (ownsRow_base HR2.out hK))
      replace hcl := Lib.hid hcl
      go_wp2
      go_ret
      refine ⟨by rw [← hcl.out]; rfl, ⟨_, (H1.out.below hbo hMz).set 0 _, hrf.out.chg ((Chg.refl (fun b => b = M) _).set1 0 _) (fun b hb e => by omega)⟩, Chg.setCell (X := fun b => b = M) (Chg.of_below hbo) (.inl rfl) _⟩
set_option maxRecDepth 100000 in
set_option maxHeartbeats 3200000 in
theorem rpush_no (M K : Nat) (n : Int) (xs : List Int) (x : Int) (k : Nat) (hk : k = 16 ∧ x ∈ xs ∨ k = 2 ∧ x ∉ xs ∧ n ≤ xs.length) (hl : xs.length ≤ 1000) (w : World) (h : RQ w M K n xs) :
    Calls Tryd.prog 24 #[.pointer (some ⟨M, 0, none⟩), .int .i64 x] w fun e w' => e = .returned (.int .i64 (k : Int)) ∧ Below w.heap.size w w' := by
  obtain ⟨v, h1, h2⟩ := h
  have hh := Lib.hid (numHas_any v xs x w h2.1 (by omega))
  obtain ⟨a, cap, rfl, hcs⟩ := h2.1.cellsOf
  have c0 := h1.cell 0
  have c1 := h1.cell 1
  clear h1 h2 hcs
  rcases hk with ⟨rfl, hx⟩ | ⟨rfl, hx, hn⟩
  · rw [decide_eq_true hx] at hh
    clear hx
    go_enter Tryd.func24, Tryd.ntmps24
    go_wp2_with (go_at_call 16; refine hh.out.mono ?_; rintro e w' ⟨rfl, rfl⟩)
    go_ret
    exact ⟨rfl, Below.refl _ _⟩
  · rw [decide_eq_false hx] at hh
    have hn' : decide ((xs.length : Int) ≥ n) = true := by simpa using hn
    clear hx hn
    go_enter Tryd.func24, Tryd.ntmps24
    go_wp2_with (go_at_call 16; refine hh.out.mono ?_; rintro e w' ⟨rfl, rfl⟩)
    refine wp_region_seq (fun _ => False) #[⟨0, 0, 2048, 1, 0⟩, ⟨1, 1, 4096, 2048, 0⟩, ⟨2, 3, 8192, 4096, 0⟩, ⟨4, 7, 16384, 8192, 1⟩, ⟨8, 15, 32768, 16384, 0⟩, ⟨0, 0, 65536, 1, 0⟩, ⟨32, 32, 131072, 65536, 0⟩, ⟨64, 96, 262144, 131072, 0⟩, ⟨128, 224, 524288, 262144, 1⟩, ⟨272, 511, 1048576, 557056, 0⟩] 264 [(0, 0), (1, 0), (2, 0), (3, 1), (4, 0), (5, 0), (6, 0), (7, 0), (8, 1), (9, 0)] (by kernel_rfl) (by kernel_rfl) (by kernel_rfl) (by kernel_rfl) (by kernel_rfl) (by kernel_rfl) (fun c a d v w h => by cases d <;> exact h) ?_
    refine seq_calc (by simp only [List.getElem?_toArray, List.getElem?_cons_succ, List.getElem?_cons_zero]; rfl) (by rfl) (fun u => by go_simp <;> with_reducible rfl) ?_
    try simp only [Act.put, List.setIfInBounds_toArray, List.set_cons_zero, List.set_cons_succ]
    refine seq_calc (by simp only [List.getElem?_toArray, List.getElem?_cons_succ, List.getElem?_cons_zero]; rfl) (by rfl) (fun u => by go_simp <;> with_reducible rfl) ?_
    try simp only [Act.put, List.setIfInBounds_toArray, List.set_cons_zero, List.set_cons_succ]
    refine seq_calc (by simp only [List.getElem?_toArray, List.getElem?_cons_succ, List.getElem?_cons_zero]; rfl) (by rfl) (fun u => by go_simp <;> with_reducible rfl) ?_
    try simp only [Act.put, List.setIfInBounds_toArray, List.set_cons_zero, List.set_cons_succ]
    refine seq_load1 (by simp only [List.getElem?_toArray, List.getElem?_cons_succ, List.getElem?_cons_zero]; rfl) (by rfl) rfl rfl Tryd.underlying22 rfl (by go_simp <;> with_reducible rfl) (by first | exact id | assumption | (simp; done) | (simp; omega)) ?_
    try simp only [Act.put, List.setIfInBounds_toArray, List.set_cons_zero, List.set_cons_succ]
    refine seq_calc (by simp only [List.getElem?_toArray, List.getElem?_cons_succ, List.getElem?_cons_zero]; rfl) (by rfl) (fun u => by go_simp <;> with_reducible rfl) ?_
    try simp only [Act.put, List.setIfInBounds_toArray, List.set_cons_zero, List.set_cons_succ]
    refine seq_calc (by simp only [List.getElem?_toArray, List.getElem?_cons_succ, List.getElem?_cons_zero]; rfl) (by rfl) (fun u => by go_simp <;> with_reducible rfl) ?_
    try simp only [Act.put, List.setIfInBounds_toArray, List.set_cons_zero, List.set_cons_succ]
    refine seq_calc (by simp only [List.getElem?_toArray, List.getElem?_cons_succ, List.getElem?_cons_zero]; rfl) (by rfl) (fun u => by go_simp <;> with_reducible rfl) ?_
    try simp only [Act.put, List.setIfInBounds_toArray, List.set_cons_zero, List.set_cons_succ]
    refine seq_calc (by simp only [List.getElem?_toArray, List.getElem?_cons_succ, List.getElem?_cons_zero]; rfl) (by rfl) (fun u => by go_simp <;> with_reducible rfl) ?_
    try simp only [Act.put, List.setIfInBounds_toArray, List.set_cons_zero, List.set_cons_succ]
    refine seq_load1 (by simp only [List.getElem?_toArray, List.getElem?_cons_succ, List.getElem?_cons_zero]; rfl) (by rfl) rfl rfl Tryd.underlying3 rfl (by go_simp <;> with_reducible rfl) (by first | exact id | assumption | (simp; done) | (simp; omega)) ?_
    try simp only [Act.put, List.setIfInBounds_toArray, List.set_cons_zero, List.set_cons_succ]
    refine seq_calc (by simp only [List.getElem?_toArray, List.getElem?_cons_succ, List.getElem?_cons_zero]; rfl) (by rfl) (fun u => by go_simp <;> with_reducible rfl) ?_
    try simp only [Act.put, List.setIfInBounds_toArray, List.set_cons_zero, List.set_cons_succ]
    refine seq_nil ?_
    go_wp2
    go_ret
    exact ⟨rfl, (Below.refl _ _).drew⟩
theorem zero_row {w : World} {e : TypeId} : ∀ j u, ([] : List Value)[j]? = some u → w.cell? ((⟨0, 0, none⟩ : Addr).add j) = some u := fun j u h => by simp at h
set_option maxRecDepth 100000 in
set_option maxHeartbeats 3200000 in
theorem rpush_ok (M K : Nat) (n : Int) (xs : List Int) (x : Int) (hx : x ∉ xs) (hn : xs.length < n) (hl : xs.length ≤ 1000) (w : World) (h : RQ w M K n xs) (hK : K ≤ w.heap.size) (hMK : M < K) :
    Calls Tryd.prog 24 #[.pointer (some ⟨M, 0, none⟩), .int .i64 x] w fun e w' => e = .returned (.int .i64 0) ∧ RQ w' M K n (xs ++ [x]) ∧ Chg (fun b => b = M) w w' := by
  obtain ⟨i0, hi, hz0, hz1, hz2⟩ := info_parts info3q
  obtain ⟨v, h1, h2⟩ := h
  have hh := Lib.hid (numHas_any v xs x w h2.1 (by omega))
  rw [decide_eq_false hx] at hh
  have H1 := Lib.hid h1
  have hca := h2.2.2
  obtain ⟨a, cap, rfl, hcs⟩ := h2.1
  have HCS := Lib.hid hcs
  have c0 := h1.cell 0
  have c1 := h1.cell 1
  have f0 := h1.frozen 0
  have hMz := h1.lt
  have hn' : decide ((xs.length : Int) ≥ n) = false := by simp; omega
  clear h1 h2 hx hcs
  cases a with
  | none =>
    obtain rfl : xs = [] := by
      cases xs with
      | nil => rfl
      | cons y ys => obtain ⟨b, off, h, -⟩ := HCS.out (by simp); cases h
    obtain rfl : cap = 0 := hca _ _ rfl
    clear hca
    go_enter Tryd.func24, Tryd.ntmps24
    go_wp2_with (go_at_call 16; refine hh.out.mono ?_; rintro e w' ⟨rfl, rfl⟩)
    refine wp_region_seq (fun _ => False) #[⟨0, 0, 2048, 1, 0⟩, ⟨1, 1, 4096, 2048, 0⟩, ⟨2, 3, 8192, 4096, 0⟩, ⟨4, 7, 16384, 8192, 1⟩, ⟨8, 15, 32768, 16384, 0⟩, ⟨0, 0, 65536, 1, 0⟩, ⟨32, 32, 131072, 65536, 0⟩, ⟨64, 96, 262144, 131072, 0⟩, ⟨128, 224, 524288, 262144, 1⟩, ⟨272, 511, 1048576, 557056, 0⟩] 264 [(0, 0), (1, 0), (2, 0), (3, 1), (4, 0), (5, 0), (6, 0), (7, 0), (8, 1), (9, 0)] (by kernel_rfl) (by kernel_rfl) (by kernel_rfl) (by kernel_rfl) (by kernel_rfl) (by kernel_rfl) (fun c a d v w h => by cases d <;> exact h) ?_
    refine seq_calc (by simp only [List.getElem?_toArray, List.getElem?_cons_succ, List.getElem?_cons_zero]; rfl) (by rfl) (fun u => by go_simp <;> with_reducible rfl) ?_
    try simp only [Act.put, List.setIfInBounds_toArray, List.set_cons_zero, List.set_cons_succ]
    refine seq_calc (by simp only [List.getElem?_toArray, List.getElem?_cons_succ, List.getElem?_cons_zero]; rfl) (by rfl) (fun u => by go_simp <;> with_reducible rfl) ?_
    try simp only [Act.put, List.setIfInBounds_toArray, List.set_cons_zero, List.set_cons_succ]
    refine seq_calc (by simp only [List.getElem?_toArray, List.getElem?_cons_succ, List.getElem?_cons_zero]; rfl) (by rfl) (fun u => by go_simp <;> with_reducible rfl) ?_
    try simp only [Act.put, List.setIfInBounds_toArray, List.set_cons_zero, List.set_cons_succ]
    refine seq_load1 (by simp only [List.getElem?_toArray, List.getElem?_cons_succ, List.getElem?_cons_zero]; rfl) (by rfl) rfl rfl Tryd.underlying22 rfl (by go_simp <;> with_reducible rfl) (by first | exact id | assumption | (simp; done) | (simp; omega)) ?_
    try simp only [Act.put, List.setIfInBounds_toArray, List.set_cons_zero, List.set_cons_succ]
    refine seq_calc (by simp only [List.getElem?_toArray, List.getElem?_cons_succ, List.getElem?_cons_zero]; rfl) (by rfl) (fun u => by go_simp <;> with_reducible rfl) ?_
    try simp only [Act.put, List.setIfInBounds_toArray, List.set_cons_zero, List.set_cons_succ]
    refine seq_calc (by simp only [List.getElem?_toArray, List.getElem?_cons_succ, List.getElem?_cons_zero]; rfl) (by rfl) (fun u => by go_simp <;> with_reducible rfl) ?_
    try simp only [Act.put, List.setIfInBounds_toArray, List.set_cons_zero, List.set_cons_succ]
    refine seq_calc (by simp only [List.getElem?_toArray, List.getElem?_cons_succ, List.getElem?_cons_zero]; rfl) (by rfl) (fun u => by go_simp <;> with_reducible rfl) ?_
    try simp only [Act.put, List.setIfInBounds_toArray, List.set_cons_zero, List.set_cons_succ]
    refine seq_calc (by simp only [List.getElem?_toArray, List.getElem?_cons_succ, List.getElem?_cons_zero]; rfl) (by rfl) (fun u => by go_simp <;> with_reducible rfl) ?_
    try simp only [Act.put, List.setIfInBounds_toArray, List.set_cons_zero, List.set_cons_succ]
    refine seq_load1 (by simp only [List.getElem?_toArray, List.getElem?_cons_succ, List.getElem?_cons_zero]; rfl) (by rfl) rfl rfl Tryd.underlying3 rfl (by go_simp <;> with_reducible rfl) (by first | exact id | assumption | (simp; done) | (simp; omega)) ?_
    try simp only [Act.put, List.setIfInBounds_toArray, List.set_cons_zero, List.set_cons_succ]
    refine seq_calc (by simp only [List.getElem?_toArray, List.getElem?_cons_succ, List.getElem?_cons_zero]; rfl) (by rfl) (fun u => by go_simp <;> with_reducible rfl) ?_
    try simp only [Act.put, List.setIfInBounds_toArray, List.set_cons_zero, List.set_cons_succ]
    refine seq_nil ?_
    obtain ⟨W, hW⟩ : ∃ W, W = w.drew := ⟨_, rfl⟩
    rw [← hW]
    have hWb : Below w.heap.size w W := by rw [hW]; exact (Below.refl _ _).drew
    have hWz := hWb.size
    have hMW : M < W.heap.size := by omega
    have H1 := Lib.hid (H1.out.below hWb hMz)
    have c0 := H1.out.cell 0
    have f0 := H1.out.frozen 0
    clear hW
    go_wp2_with (first
      | (at_builtin; refine wpList_append_own _ rfl _ _ 22 rfl W.heap.size 3 i0 (.int .i64 0) 1 8 Tryd.underlying22 hi hz0 hz1 hz2 rfl (by decide) (.slice (some ⟨W.heap.size, 0, none⟩) 0 0) 0 [] rfl ((ownsRow_empty (Blk.new W _ _)).alloc _) ⟨W.heap.size + 1, 0, none⟩ 1 1 [.int .i64 x] rfl rfl (fun j u h => (by simp : _ = _).trans (cell_one_new (W.alloc (.cells #[] 3)) (.int .i64 x) 3 j u h)) (by simp [Value.oneCell']) (by unfold maxLen; omega) (by omega) (by simp <;> omega) ?_; intro v5 w5 hown5 hgrow5 _; have hb5' : Below W.heap.size W w5 := Below.trans ((Below.refl _ _).alloc (Nat.le_refl _) _) (below_append (base := W.heap.size) (ownsRow_empty (Blk.new W _ _)) (by simp) hgrow5); clear hgrow5; replace hown5 := Lib.hid hown5; obtain ⟨k1, k2⟩ := bcell hb5'; obtain ⟨a5, q5, rfl⟩ := ownsRow_slice hown5.out)
      | (at_builtin; refine wpList_append_own_none rfl _ _ 22 rfl W.heap.size 3 i0 1 Tryd.underlying22 hi (.slice (some ⟨W.heap.size, 0, none⟩) 0 0) 0 [] rfl (ownsRow_empty (Blk.new W _ _)) rfl ?_))
    go_ret
    have hr := rf_own (K := K) (xs := [x]) (ownsRow_base (by simpa using hown5.out) (by omega))
    exact ⟨rfl, ⟨_, (H1.out.below hb5' hMW).set 0 _, hr.chg ((Chg.refl (fun b => b = M) _).set1 0 _) (fun b hb e => by omega)⟩, Chg.setCell (X := fun b => b = M) ((Chg.of_below hWb).trans (Chg.of_below hb5')) (.inl rfl) _⟩
  | some ad =>
    have hnews : ∀ (W : World), Below w.heap.size w W → ∀ j u, (xs.map (Value.int .i64))[j]? = some u → W.cell? (ad.add j) = some u := by
      intro W hb j u hj
      have hjl : j < xs.length := by have := (List.getElem?_eq_some_iff.1 hj).1; simpa using this
      obtain ⟨b, off, e, hc⟩ := HCS.out (fun e => by rw [e] at hjl; simp at hjl)
      cases e
      have hu : u = .int .i64 xs[j] := by rw [List.getElem?_map, List.getElem?_eq_getElem hjl] at hj; exact (Option.some.inj hj).symm
      have e2 : (⟨b, off, none⟩ : Addr).add j = ⟨b, off + j, none⟩ := by simp [Addr.add]
      rw [e2, hu]
      exact (hb.cell (World.block_lt_of_cell? _ _ (hc j hjl))).trans (hc j hjl)
    have HNW := Lib.hid hnews
    clear hnews hca
    go_enter Tryd.func24, Tryd.ntmps24
    go_wp2_with (go_at_call 16; refine hh.out.mono ?_; rintro e w' ⟨rfl, rfl⟩)
    refine wp_region_seq (fun _ => False) #[⟨0, 0, 2048, 1, 0⟩, ⟨1, 1, 4096, 2048, 0⟩, ⟨2, 3, 8192, 4096, 0⟩, ⟨4, 7, 16384, 8192, 1⟩, ⟨8, 15, 32768, 16384, 0⟩, ⟨0, 0, 65536, 1, 0⟩, ⟨32, 32, 131072, 65536, 0⟩, ⟨64, 96, 262144, 131072, 0⟩, ⟨128, 224, 524288, 262144, 1⟩, ⟨272, 511, 1048576, 557056, 0⟩] 264 [(0, 0), (1, 0), (2, 0), (3, 1), (4, 0), (5, 0), (6, 0), (7, 0), (8, 1), (9, 0)] (by kernel_rfl) (by kernel_rfl) (by kernel_rfl) (by kernel_rfl) (by kernel_rfl) (by kernel_rfl) (fun c a d v w h => by cases d <;> exact h) ?_
    refine seq_calc (by simp only [List.getElem?_toArray, List.getElem?_cons_succ, List.getElem?_cons_zero]; rfl) (by rfl) (fun u => by go_simp <;> with_reducible rfl) ?_
    try simp only [Act.put, List.setIfInBounds_toArray, List.set_cons_zero, List.set_cons_succ]
    refine seq_calc (by simp only [List.getElem?_toArray, List.getElem?_cons_succ, List.getElem?_cons_zero]; rfl) (by rfl) (fun u => by go_simp <;> with_reducible rfl) ?_
    try simp only [Act.put, List.setIfInBounds_toArray, List.set_cons_zero, List.set_cons_succ]
    refine seq_calc (by simp only [List.getElem?_toArray, List.getElem?_cons_succ, List.getElem?_cons_zero]; rfl) (by rfl) (fun u => by go_simp <;> with_reducible rfl) ?_
    try simp only [Act.put, List.setIfInBounds_toArray, List.set_cons_zero, List.set_cons_succ]
    refine seq_load1 (by simp only [List.getElem?_toArray, List.getElem?_cons_succ, List.getElem?_cons_zero]; rfl) (by rfl) rfl rfl Tryd.underlying22 rfl (by go_simp <;> with_reducible rfl) (by first | exact id | assumption | (simp; done) | (simp; omega)) ?_
    try simp only [Act.put, List.setIfInBounds_toArray, List.set_cons_zero, List.set_cons_succ]
    refine seq_calc (by simp only [List.getElem?_toArray, List.getElem?_cons_succ, List.getElem?_cons_zero]; rfl) (by rfl) (fun u => by go_simp <;> with_reducible rfl) ?_
    try simp only [Act.put, List.setIfInBounds_toArray, List.set_cons_zero, List.set_cons_succ]
    refine seq_calc (by simp only [List.getElem?_toArray, List.getElem?_cons_succ, List.getElem?_cons_zero]; rfl) (by rfl) (fun u => by go_simp <;> with_reducible rfl) ?_
    try simp only [Act.put, List.setIfInBounds_toArray, List.set_cons_zero, List.set_cons_succ]
    refine seq_calc (by simp only [List.getElem?_toArray, List.getElem?_cons_succ, List.getElem?_cons_zero]; rfl) (by rfl) (fun u => by go_simp <;> with_reducible rfl) ?_
    try simp only [Act.put, List.setIfInBounds_toArray, List.set_cons_zero, List.set_cons_succ]
    refine seq_calc (by simp only [List.getElem?_toArray, List.getElem?_cons_succ, List.getElem?_cons_zero]; rfl) (by rfl) (fun u => by go_simp <;> with_reducible rfl) ?_
    try simp only [Act.put, List.setIfInBounds_toArray, List.set_cons_zero, List.set_cons_succ]
    refine seq_load1 (by simp only [List.getElem?_toArray, List.getElem?_cons_succ, List.getElem?_cons_zero]; rfl) (by rfl) rfl rfl Tryd.underlying3 rfl (by go_simp <;> with_reducible rfl) (by first | exact id | assumption | (simp; done) | (simp; omega)) ?_
    try simp only [Act.put, List.setIfInBounds_toArray, List.set_cons_zero, List.set_cons_succ]
    refine seq_calc (by simp only [List.getElem?_toArray, List.getElem?_cons_succ, List.getElem?_cons_zero]; rfl) (by rfl) (fun u => by go_simp <;> with_reducible rfl) ?_
    try simp only [Act.put, List.setIfInBounds_toArray, List.set_cons_zero, List.set_cons_succ]
    refine seq_nil ?_
    obtain ⟨W, hW⟩ : ∃ W, W = w.drew := ⟨_, rfl⟩
    rw [← hW]
    have hWb : Below w.heap.size w W := by rw [hW]; exact (Below.refl _ _).drew
    have hWz := hWb.size
    have hMW : M < W.heap.size := by omega
    have H1 := Lib.hid (H1.out.below hWb hMz)
    have c0 := H1.out.cell 0
    have f0 := H1.out.frozen 0
    clear hW
    go_wp2_with (first
      | (at_builtin; refine wpList_append_own _ rfl _ _ 22 rfl W.heap.size 3 i0 (.int .i64 0) 1 8 Tryd.underlying22 hi hz0 hz1 hz2 rfl (by decide) _ _ _ rfl (hown4.out.alloc _) ⟨w4.heap.size, 0, none⟩ 1 1 [.int .i64 x] rfl rfl (cell_one_new _ _ _) (by simp [Value.oneCell']) (by unfold maxLen; omega) (by omega) (by simp <;> omega) ?_; intro v5 w5 hown5 hgrow5 _; have hb5 := below_append hown4.out hz4 hgrow5; clear hgrow5; replace hown5 := Lib.hid hown5; have hb5' := hb4.trans hb5; obtain ⟨k1, k2⟩ := bcell hb5'; obtain ⟨a5, q5, rfl⟩ := ownsRow_slice hown5.out)
      | (at_builtin; refine wpList_append_own _ rfl _ _ 22 rfl W.heap.size 3 i0 (.int .i64 0) 1 8 Tryd.underlying22 hi hz0 hz1 hz2 rfl (by decide) (.slice (some ⟨W.heap.size, 0, none⟩) 0 0) 0 [] rfl (ownsRow_empty (Blk.new W _ _)) ad xs.length cap (xs.map (Value.int .i64)) rfl (by simp) (HNW.out _ (hWb.trans ((Below.refl _ _).alloc (by omega) _))) (by simp [Value.oneCell']) (by unfold maxLen; omega) (by omega) (by simp <;> omega) ?_; intro v4 w4 hown4 hgrow4 _; have hb4 : Below W.heap.size W w4 := Below.grown ((Below.refl _ _).alloc (Nat.le_refl _) _) hgrow4 (by simp) (fun k e => by simp [Value.ownBlock] at e; omega); clear hgrow4; have hz4 := hb4.size; replace hown4 := Lib.hid hown4))
    go_ret
    have hr := rf_own (K := K) (xs := xs ++ [x]) (ownsRow_base (by simpa using hown5.out) (by omega))
    exact ⟨rfl, ⟨_, (H1.out.below hb5' hMW).set 0 _, hr.chg ((Chg.refl (fun b => b = M) _).set1 0 _) (fun b hb e => by omega)⟩, Chg.setCell (X := fun b => b = M) ((Chg.of_below hWb).trans (Chg.of_below hb5')) (.inl rfl) _⟩
theorem rpush_any (M K n : Nat) (xs : List Int) (x : Int) (hl : xs.length ≤ 1000) (w : World) (h : RQ w M K n xs) (hK : K ≤ w.heap.size) (hMK : M < K) :
    Calls Tryd.prog 24 #[.pointer (some ⟨M, 0, none⟩), .int .i64 x] w fun e w' => e = .returned (.int .i64 ((pushN n xs x : Nat) : Int)) ∧ RQ w' M K n (pushL n xs x) ∧ Chg (fun b => b = M) w w' := by
  unfold pushL pushN
  by_cases hx : x ∈ xs
  · simp only [if_pos hx]
    exact (rpush_no M K n xs x 16 (.inl ⟨rfl, hx⟩) hl w h).mono fun e w' ⟨a, b⟩ => ⟨a, h.below b, Chg.of_below b⟩
  · simp only [if_neg hx]
    by_cases hm : xs.length < n
    · simp only [if_pos hm]
      exact rpush_ok M K n xs x hx (by omega) hl w h hK hMK
    · simp only [if_neg hm]
      exact (rpush_no M K n xs x 2 (.inr ⟨rfl, hx, by omega⟩) hl w h).mono fun e w' ⟨a, b⟩ => ⟨a, h.below b, Chg.of_below b⟩
end Go.Proofs.YtaegjdkmnkjggaaDoor
