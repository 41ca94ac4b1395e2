/- ProbeOnce: its walk: for every input it answers true, and leaves what was there as it was. No condition. -/
import Derived.Test.YtcdpdgpejfakmaaProbeOrder
namespace Go.Proofs.Ytcdpdgpejfakmaa
set_option linter.unusedVariables false
set_option linter.unusedSimpArgs false
open Go.RowKit Go.Proofs
attribute [local go_sem] Oper.semAt_some wide_depth round_depth wide_fn round_fn

/-- two places of a walk differ -/
theorem tri_ne : ∀ g : Fin 7, ∀ k : Fin 64, ∀ i : Fin 64, i.val < k.val → k.val < 2 ^ g.val → (k.val * (k.val + 1) / 2) % 2 ^ g.val ≠ (i.val * (i.val + 1) / 2) % 2 ^ g.val := by decide +kernel
theorem walkAt_ne (h g i k : Nat) (hr : rightB (g : Int) = true) (hik : i < k) (hk : k < g) : walkAt h g k ≠ walkAt h g i := by
  have hb := right_bd hr
  obtain ⟨j, hj, hg⟩ := right_pow hr
  have ht := tri_ne ⟨j, by omega⟩ ⟨k, by omega⟩ ⟨i, by omega⟩ hik (by simpa [hg] using hk)
  simp only at ht
  rw [← hg] at ht
  unfold walkAt
  generalize k * (k + 1) / 2 = a at *
  generalize i * (i + 1) / 2 = b at *
  rw [rightB_iff] at hr
  intro e
  apply ht
  have : g = 1 ∨ g = 2 ∨ g = 4 ∨ g = 8 ∨ g = 16 ∨ g = 32 ∨ g = 64 := by omega
  rcases this with rfl | rfl | rfl | rfl | rfl | rfl | rfl <;> omega

/-- which places have been seen, in the array's cells -/
def seenC (h g i : Nat) : Array Value := ((List.range 64).map fun j => Value.bool (decide (∃ k, k < i ∧ walkAt h g k = j))).toArray
theorem seenC_get (h g i j : Nat) (hj : j < 64) : (seenC h g i)[j]? = some (.bool (decide (∃ k, k < i ∧ walkAt h g k = j))) := by
  simp [seenC, hj]
theorem seenC_succ (h g i : Nat) : (seenC h g i).setIfInBounds (walkAt h g i) (.bool true) = seenC h g (i + 1) := by
  apply Array.ext_getElem?
  intro j
  by_cases hj : j < 64
  · rw [Array.getElem?_setIfInBounds, seenC_get _ _ _ _ hj, seenC_get _ _ _ _ hj]
    split
    · rename_i e
      subst e
      have hs : walkAt h g i < (seenC h g i).size := by simpa [seenC] using hj
      simp only [hs, if_true, Option.some.injEq, Value.bool.injEq]
      symm; simp only [decide_eq_true_eq]; exact ⟨i, by omega, rfl⟩
    · rename_i e
      simp only [Option.some.injEq, Value.bool.injEq, decide_eq_decide]
      constructor
      · rintro ⟨k, hk, e'⟩; exact ⟨k, by omega, e'⟩
      · rintro ⟨k, hk, e'⟩
        refine ⟨k, ?_, e'⟩
        rcases Nat.lt_or_ge k i with h' | h'
        · exact h'
        · obtain rfl : k = i := by omega
          exact absurd e' e
  · rw [Array.getElem?_eq_none (by simp [seenC]; omega), Array.getElem?_eq_none (by simp [seenC]; omega)]

def zero64 : Array Value := Array.replicate 64 (Value.bool false)
theorem zv64 (w : World) : (zeroValue 24).run Try.prog w = .ok (.agg zero64) w := by kernel_rfl
theorem zero64_size : zero64.size = 64 := by simp [zero64]
theorem zero64_one : ∀ v ∈ zero64.toList, v.oneCell' = true := by
  intro v hv; simp [zero64] at hv; subst hv; rfl
theorem zero64_seen (h g : Nat) : zero64 = seenC h g 0 := by
  apply Array.ext_getElem?
  intro j
  by_cases hj : j < 64
  · rw [seenC_get _ _ _ _ hj]; simp [zero64, hj]
  · rw [Array.getElem?_eq_none (by simp [zero64]; omega), Array.getElem?_eq_none (by simp [seenC]; omega)]

/-- between two rounds -/
def onceI (h : Nat) (n most : Int) (w : World) (B : Nat) (i : Nat) (W : World) : Prop :=
  (Blk W w.heap.size 3 #[.int .i64 n] ∧ Blk W (w.heap.size + 1) 3 #[.int .i64 most] ∧ Blk W (w.heap.size + 2) 4 #[.bool false] ∧
    Blk W B 24 (seenC h n.toNat i) ∧ Blk W (B + 1) 3 #[.int .i64 (i : Int)] ∧ (most < 1 ∨ (i : Int) < most)) ∧ Below w.heap.size w W
def onceX (n most : Int) (w : World) (B : Nat) (c : Code) (W : World) : Prop :=
  (c = .exit 0 ∧ 1 ≤ most ∧ most ≤ ordN n ∧ Blk W w.heap.size 3 #[.int .i64 n] ∧ Blk W (w.heap.size + 1) 3 #[.int .i64 most] ∧ Blk W (w.heap.size + 2) 4 #[.bool false] ∧
    Blk W (B + 1) 3 #[.int .i64 most]) ∧ Below w.heap.size w W
theorem onceI_own (h : Nat) (n most : Int) (w : World) (B C : Nat) (hC : w.heap.size ≤ C) : OwnFrom C (onceI h n most w B) :=
  OwnFrom.and (Own.from (own_and (blk_own _ _ _) (own_and (blk_own _ _ _) (own_and (blk_own _ _ _) (own_and (blk_own _ _ _) (own_and (blk_own _ _ _) (own_pure _)))))) _) (ownFrom_below (Nat.le_refl _) hC)
theorem onceX_own (n most : Int) (w : World) (B C : Nat) (hC : w.heap.size ≤ C) : OwnFrom C (onceX n most w B) :=
  OwnFrom.and (Own.from (own_and (own_pure _) (own_and (own_pure _) (own_and (own_pure _) (own_and (blk_own _ _ _) (own_and (blk_own _ _ _) (own_and (blk_own _ _ _) (blk_own _ _ _))))))) _) (ownFrom_below (Nat.le_refl _) hC)

theorem ordN_lt {n : Int} {i : Nat} (h : i < ordN n) : rightB n = true ∧ i < n.toNat := by
  unfold ordN at h
  split at h
  · exact ⟨by assumption, h⟩
  · omega

set_option maxRecDepth 100000 in
set_option maxHeartbeats 2000000 in
theorem probeOnce_any (h : Nat) (n most : Int) (hh : h < 18446744073709551616) (w : World) :
    Calls Try.prog 3 #[.int .u64 (h : Int), .int .i64 n, .int .i64 most] w fun e w' => e = .returned (.bool true) ∧ Below w.heap.size w w' := by
  refine (callsIn_wide (n := 0)).1 ?_
  refine callsIn_of_wp_marks Try.func3 rfl trivial ?_
  simp only [Try.ntmps3, List.size_toArray, List.length_cons, List.length_nil, Nat.reduceAdd, Nat.reduceSub, Array.replicate_succ, Array.replicate_zero, List.push_toArray, List.append_toArray, List.nil_append, List.cons_append]
  gi_wp2_with (first
    | (gi_at_call 5; refine (callsIn_wide.2 (alive04_any _)).mono ?_; rintro e W1 ⟨rfl, h1⟩; have q0 : Blk W1 w.heap.size 3 #[.int .i64 n] := (((Blk.new w _ _).alloc _).alloc _).below h1 (by simp <;> omega); have q1 : Blk W1 (w.heap.size + 1) 3 #[.int .i64 most] := ((Blk.new_at (by simp)).alloc _).below h1 (by simp); have q2 : Blk W1 (w.heap.size + 2) 4 #[.bool false] := (Blk.new_at (by simp)).below h1 (by simp); have c0 := q0.boxed.cell; have c1 := q1.boxed.cell; have c2 := q2.boxed.cell; have d2 := q2.boxed.frozen; have hz := h1.size; simp only [World.size_alloc] at hz; have l0 := q0.lt; have l1 := q1.lt; have l2 := q2.lt)
    | (gi_at_call 6; refine (callsIn_wide.2 (walk_any _ _ _)).mono ?_; rintro e w' ⟨rfl, rfl⟩)
    | (refine wpListIn_value rfl (fun _ hc => by cases hc) (fun _ hc => by cases hc) (exec_zero (t := 24) rfl Try.underlying24 rfl zv64 (fun w => ⟨_, Try.sizeOf4 w⟩)) ?_)
    | (refine wpListIn_value rfl (fun _ hc => by cases hc) (fun _ hc => by cases hc) (exec_alloc (t := 24) rfl zv64) ?_)
    | (refine wpListIn_unit rfl (fun _ hc => by cases hc) (fun _ hc => by cases hc) (exec_storeAll (t := 24) rfl rfl rfl (Blk.new _ _ _) rfl (by rw [show (Value.agg zero64).cells = zero64 from rfl, zero64_size]; exact Try.sizeOf24 _) zero64_one) ?_; rw [setRow_new rfl]))
  have hg1 := ordN_le n
  have hgv := walk_any_gives h n hh ((W1.alloc (.cells zero64 24)).alloc (.cells #[.int .i64 0] 3))
  simp only [World.size_alloc] at hgv
  refine wp_rangeAt rfl enters_walk hgv (fun b hb => by simp; omega) (fun _ => rfl) (onceI h n most w W1.heap.size) (onceX n most w W1.heap.size)
    (onceI_own _ _ _ _ _ _ (by simp <;> omega)) (onceX_own _ _ _ _ _ (by simp <;> omega)) ?start
    (fun T i a _ => a = { tmps := (T.setIfInBounds 16 (.int .i64 ((walkAt h n.toNat i : Nat) : Int))).setIfInBounds 9 (.int .i64 ((walkAt h n.toNat i : Nat) : Int)), defers := [] })
    ?assign (fun _ _ _ _ hs _ _ => hs) ?body ?done ?stop
  case start =>
    refine ⟨⟨(((q0.alloc _).alloc _).alloc _).alloc _, (((q1.alloc _).alloc _).alloc _).alloc _, (((q2.alloc _).alloc _).alloc _).alloc _, ?_, ((Blk.new_at (by simp)).alloc _).alloc _, by omega⟩, ?_⟩
    · rw [← zero64_seen]; exact (((Blk.new _ _ _).alloc _).alloc _).alloc _
    · have hb0 : Below w.heap.size w (((w.alloc (.cells #[.int .i64 n] 3)).alloc (.cells #[.int .i64 most] 3)).alloc (.cells #[.bool false] 4)) := by go_grown
      exact (hb0.trans (h1.mono (by simp <;> omega))).trans (by go_grown)
  case assign =>
    intro l i W K hi hlt _ hK
    gi_wp2
    exact hK _ _ (KeepsFrom.refl _ _) (Same.refl _ _) hi rfl
  case body =>
    rintro l i a₁ W ⟨⟨p0, p1, p2, p3, p4, hm⟩, hB⟩ hlt hsz rfl
    simp only [List.setIfInBounds_toArray, List.set_cons_succ, List.set_cons_zero]
    obtain ⟨hr, hin⟩ := ordN_lt hlt
    have hx1 : walkAt h n.toNat i < n.toNat := walkAt_lt _ _ _ (by omega)
    have hx2 : n.toNat ≤ 64 := by rw [rightB_iff] at hr; omega
    have hn : n = ((n.toNat : Nat) : Int) := by rw [rightB_iff] at hr; omega
    have hdec : decide (∃ k, k < i ∧ walkAt h n.toNat k = walkAt h n.toNat i) = false := by
      rw [decide_eq_false_iff_not]
      rintro ⟨k, hk, e⟩
      exact walkAt_ne h n.toNat k i (by rw [← hn]; exact hr) hk (by omega) e.symm
    have s3 := p3.cell (walkAt h n.toNat i)
    rw [seenC_get _ _ _ _ (by omega), hdec] at s3
    clear hdec
    have f3 := p3.frozen (walkAt h n.toNat i)
    have e0 := p0.boxed.cell
    have e1 := p1.boxed.cell
    have e4 := p4.boxed.cell
    have f4 := p4.boxed.frozen
    have hHX := Lib.hid (rfl : walkAt h n.toNat i = walkAt h n.toNat i)
    obtain ⟨x, hx⟩ : ∃ x, x = walkAt h n.toNat i := ⟨_, rfl⟩
    rw [← hx] at s3 f3 hx1 ⊢
    have HX := Lib.hid hx
    have HN := Lib.hid hn
    have hx3 : (x : Int) < n := by omega
    have hx4 : (x : Int) < 64 := by omega
    clear hx hn hHX
    by_cases hl : (i : Int) + 1 = most
    · have ht : (((i : Int) + 1) == most) = true := by simpa using hl
      have hl' := Lib.hid hl
      clear hl
      gi_wp2
      refine ⟨((KeepsOthers.setCell W _ _).trans (KeepsOthers.setCell _ _ _)).from _, ⟨rfl, ?_, ?_, (p0.other (by omega) _ _).other (by omega) _ _, (p1.other (by omega) _ _).other (by omega) _ _, (p2.other (by omega) _ _).other (by omega) _ _, ?_⟩, ?_⟩
      · have := hl'.out; omega
      · have := hl'.out; omega
      · have := (p4.other (B' := W1.heap.size) (by omega) x (.bool true)).set 0 (.int .i64 ((i : Int) + 1))
        rw [← hl'.out]; exact this
      · exact hB.trans (((Below.refl _ W).setCell (by simp <;> omega) _).setCell (by simp <;> omega) _)
    · have ht : (((i : Int) + 1) == most) = false := by simpa using hl
      have hl' := Lib.hid hl
      clear hl
      gi_wp2
      refine ⟨((KeepsOthers.setCell W _ _).trans (KeepsOthers.setCell _ _ _)).from _, (Same.setCell _ (by simp <;> omega)).trans (Same.setCell _ (by simp <;> omega)), ⟨(p0.other (by omega) _ _).other (by omega) _ _, (p1.other (by omega) _ _).other (by omega) _ _, (p2.other (by omega) _ _).other (by omega) _ _, ?_, ?_, ?_⟩, ?_⟩
      · have := (p3.set x (.bool true)).other (B' := W1.heap.size + 1) (by omega) 0 (.int .i64 ((i : Int) + 1))
        rw [← seenC_succ, ← HX.out]; exact this
      · have := (p4.other (B' := W1.heap.size) (by omega) x (.bool true)).set 0 (.int .i64 ((i : Int) + 1))
        exact this
      · have := hl'.out; omega
      · exact hB.trans (((Below.refl _ W).setCell (by simp <;> omega) _).setCell (by simp <;> omega) _)
  case done =>
    rintro D W hD ⟨⟨p0, p1, p2, p3, p4, hm⟩, hB⟩ hK
    have e0 := p0.boxed.cell
    have e1 := p1.boxed.cell
    have e2 : W.cell? ⟨w.heap.size + 1 + 1, 0, none⟩ = some (.bool false) := p2.boxed.cell
    have f2 : W.frozen? ⟨w.heap.size + 1 + 1, 0, none⟩ = false := p2.boxed.frozen
    have e4 := p4.boxed.cell
    simp only [World.size_alloc] at hD
    have hkD := Lib.hid hK
    clear hK
    by_cases hr : rightB n = true
    · have hN : ((ordN n : Nat) : Int) = n := by
        unfold ordN; rw [if_pos hr]; rw [rightB_iff] at hr; omega
      rw [hN] at e4 p4
      by_cases hmo : most < 1
      · gi_wp2_with (gi_at_call 7; refine (callsIn_wide.2 (right_any _ _)).mono ?_; rintro e w' ⟨rfl, rfl⟩)
        refine end_mark (v := .bool true) ((KeepsOthers.setCell _ _ _).same D _ hkD.out rfl) (results_cell1 rfl rfl (Blk.putObj (Blk.set p2 0 (.bool true)) (by omega) _).boxed.cell Try.isAgg4) ⟨rfl, ?_⟩ _ (.inl rfl)
        exact (hB.trans ((Below.refl _ W).setCell (by simp <;> omega) _)).trans (below_putObj _ (by omega) ((KeepsOthers.setCell _ _ _).same D _ hkD.out rfl))
      · have ht : min n most = n := by omega
        gi_wp2_with (gi_at_call 7; refine (callsIn_wide.2 (right_any _ _)).mono ?_; rintro e w' ⟨rfl, rfl⟩)
        refine end_mark (v := .bool true) ((KeepsOthers.setCell _ _ _).same D _ hkD.out rfl) (results_cell1 rfl rfl (Blk.putObj (Blk.set p2 0 (.bool true)) (by omega) _).boxed.cell Try.isAgg4) ⟨rfl, ?_⟩ _ (.inl rfl)
        exact (hB.trans ((Below.refl _ W).setCell (by simp <;> omega) _)).trans (below_putObj _ (by omega) ((KeepsOthers.setCell _ _ _).same D _ hkD.out rfl))
    · have hN : ordN n = 0 := by
        unfold ordN; rw [if_neg hr]
      rw [hN] at e4 p4
      have hr' : rightB n = false := by simpa using hr
      gi_wp2_with (gi_at_call 7; refine (callsIn_wide.2 (right_any _ _)).mono ?_; rintro e w' ⟨rfl, rfl⟩)
      refine end_mark (v := .bool true) ((KeepsOthers.setCell _ _ _).same D _ hkD.out rfl) (results_cell1 rfl rfl (Blk.putObj (Blk.set p2 0 (.bool true)) (by omega) _).boxed.cell Try.isAgg4) ⟨rfl, ?_⟩ _ (.inl rfl)
      exact (hB.trans ((Below.refl _ W).setCell (by simp <;> omega) _)).trans (below_putObj _ (by omega) ((KeepsOthers.setCell _ _ _).same D _ hkD.out rfl))
  case stop =>
    rintro D c W hD ⟨⟨rfl, m1, m2, p0, p1, p2, p4⟩, hB⟩ hK
    have e0 := p0.boxed.cell
    have e1 := p1.boxed.cell
    have e2 : W.cell? ⟨w.heap.size + 1 + 1, 0, none⟩ = some (.bool false) := p2.boxed.cell
    have f2 : W.frozen? ⟨w.heap.size + 1 + 1, 0, none⟩ = false := p2.boxed.frozen
    have e4 := p4.boxed.cell
    simp only [World.size_alloc] at hD
    have hkD := Lib.hid hK
    clear hK
    have hr : rightB n = true := by
      rcases Bool.eq_false_or_eq_true (rightB n) with h' | h'
      · exact h'
      · unfold ordN at m2; rw [h'] at m2; simp at m2; omega
    have hN : ((ordN n : Nat) : Int) = n := by
      unfold ordN; rw [if_pos hr]; rw [rightB_iff] at hr; omega
    rw [hN] at m2
    have hkN := Lib.hid hN
    clear hN
    rcases Int.lt_or_eq_of_le m2 with m3 | m3
    · gi_wp2_with (gi_at_call 7; refine (callsIn_wide.2 (right_any _ _)).mono ?_; rintro e w' ⟨rfl, rfl⟩)
      refine end_mark (v := .bool true) ((KeepsOthers.setCell _ _ _).same D _ hkD.out rfl) (results_cell1 rfl rfl (Blk.putObj (Blk.set p2 0 (.bool true)) (by omega) _).boxed.cell Try.isAgg4) ⟨rfl, ?_⟩ _ (.inl rfl)
      exact (hB.trans ((Below.refl _ W).setCell (by simp <;> omega) _)).trans (below_putObj _ (by omega) ((KeepsOthers.setCell _ _ _).same D _ hkD.out rfl))
    · subst m3
      gi_wp2_with (gi_at_call 7; refine (callsIn_wide.2 (right_any _ _)).mono ?_; rintro e w' ⟨rfl, rfl⟩)
      refine end_mark (v := .bool true) ((KeepsOthers.setCell _ _ _).same D _ hkD.out rfl) (results_cell1 rfl rfl (Blk.putObj (Blk.set p2 0 (.bool true)) (by omega) _).boxed.cell Try.isAgg4) ⟨rfl, ?_⟩ _ (.inl rfl)
      exact (hB.trans ((Below.refl _ W).setCell (by simp <;> omega) _)).trans (below_putObj _ (by omega) ((KeepsOthers.setCell _ _ _).same D _ hkD.out rfl))

end Go.Proofs.Ytcdpdgpejfakmaa
