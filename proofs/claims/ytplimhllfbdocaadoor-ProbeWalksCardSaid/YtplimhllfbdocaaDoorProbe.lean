/- The walks of package probe: Right, home, Walk and its closure. No condition. -/
import Derived.Test.YtplimhllfbdocaaDoorProg
import Derived.Test.YtplimhllfbdocaaDoorRange
import Derived.Test.YtplimhllfbdocaaDoorProbeRight
import Derived.Handy
import Derived.Lib.Hide
namespace Go.Proofs.YtplimhllfbdocaaDoor
set_option linter.unusedVariables false
set_option linter.unusedSimpArgs false
open Go.RowKit Go.Proofs
attribute [local go_sem] Oper.semAt_some wide_depth round_depth wide_fn round_fn

set_option maxHeartbeats 400000 in
theorem home_any (h g : Nat) (hr : rightB (g : Int) = true) (hh : h < 18446744073709551616) (w : World) :
    Calls Tryd.prog 109 #[.int .u64 (h : Int), .int .i64 (g : Int)] w fun e w' => e = .returned (.int .i64 ((h % g : Nat) : Int)) ∧ w = w' := by
  have hb := right_bd hr
  have hm := mask_u64 h g hr hh
  have hlt : h % g < 64 := Nat.lt_of_lt_of_le (Nat.mod_lt _ (by omega)) hb.2
  have hr' := Lib.hid hr
  clear hr
  go_enter Tryd.func109, Tryd.ntmps109
  go_wp2
  go_ret
  exact ⟨rfl, rfl⟩

set_option maxHeartbeats 400000 in
theorem walk_any (h n : Int) (w : World) :
    Calls Tryd.prog 37 #[.int .u64 h, .int .i64 n] w fun e w' =>
      e = .returned (.func (.func 110) #[] #[.pointer (some ⟨w.heap.size + 1, 0, none⟩), .pointer (some ⟨w.heap.size, 0, none⟩)]) ∧
      (w.alloc (.cells #[.int .u64 h] 22)).alloc (.cells #[.int .i64 n] 3) = w' := by
  go_enter Tryd.func37, Tryd.ntmps37
  go_wp2
  go_ret
  exact ⟨rfl, rfl⟩

/-- the place ahead of number k -/
def walkPrev (h g k : Nat) : Nat := if k = 0 then h % g else walkAt h g (k - 1)
theorem walkPrev_step (h g k : Nat) : (walkPrev h g k + k) % g = walkAt h g k := by
  unfold walkPrev
  split
  · subst k; simp [walkAt]
  · obtain ⟨j, rfl⟩ : ∃ j, k = j + 1 := ⟨k - 1, by omega⟩
    rw [walkAt_succ]; rfl
theorem walkPrev_succ (h g k : Nat) : walkPrev h g (k + 1) = walkAt h g k := by simp [walkPrev]
theorem walkPrev_lt (h g k : Nat) (hg : 1 ≤ g) : walkPrev h g k < g := by
  unfold walkPrev; split
  · exact Nat.mod_lt _ hg
  · exact walkAt_lt _ _ _ hg

set_option maxRecDepth 100000 in
set_option maxHeartbeats 1000000 in
/-- the closure of Walk: the places of the walk, in their order -/
theorem walk_gives (h g : Nat) (hr : rightB (g : Int) = true) (hh : h < 18446744073709551616) (Bh Bg : Nat) (w : World)
    (hch : w.cell? ⟨Bh, 0, none⟩ = some (.int .u64 (h : Int))) (hcg : w.cell? ⟨Bg, 0, none⟩ = some (.int .i64 (g : Int))) :
    GivesAt Tryd.prog 110 #[.pointer (some ⟨Bg, 0, none⟩), .pointer (some ⟨Bh, 0, none⟩)] (fun i => #[.int .i64 ((walkAt h g i : Nat) : Int)]) g (fun b => b = Bh ∨ b = Bg) w := by
  intro l J Jx W hW _ hY _ h0
  have hb := right_bd hr
  have gch : ∀ W1, Same (fun b => b = Bh ∨ b = Bg) W W1 → W1.cell? ⟨Bh, 0, none⟩ = some (.int .u64 (h : Int)) := fun W1 h1 => ((hW.trans h1).cell (a := ⟨Bh, 0, none⟩) (Or.inl rfl)).trans hch
  have gcg : ∀ W1, Same (fun b => b = Bh ∨ b = Bg) W W1 → W1.cell? ⟨Bg, 0, none⟩ = some (.int .i64 (g : Int)) := fun W1 h1 => ((hW.trans h1).cell (a := ⟨Bg, 0, none⟩) (Or.inr rfl)).trans hcg
  have chW := gch W (Same.refl _ _)
  have cgW := gcg W (Same.refl _ _)
  have hG := Lib.hid gcg
  have hY' := Lib.hid hY
  have hr' := Lib.hid hr
  clear gch gcg hY hch hcg
  refine callsIn_of_wp Tryd.func110 rfl trivial ?_ rfl
  simp only [Tryd.ntmps110, List.size_toArray, List.length_cons, List.length_nil, Nat.reduceAdd, Nat.reduceSub, Array.replicate_succ, Array.replicate_zero, List.push_toArray, List.append_toArray, List.nil_append, List.cons_append]
  gi_wp2_with (first
    | (gi_at_call 35; refine (callsIn_wide.2 (right_any _ _)).mono ?_; rintro e w' ⟨rfl, rfl⟩)
    | (gi_at_call 109; refine (callsIn_wide.2 (home_any _ _ hr'.out hh _)).mono ?_; rintro e w' ⟨rfl, rfl⟩))
  gi_loopw [4, 13] (fun v4 v13 wr => ∃ k : Nat, k ≤ g ∧ v13 = .int .i64 (k : Int) ∧ v4 = .int .i64 ((walkPrev h g k : Nat) : Int) ∧ J k wr ∧ Same (fun b => b = Bh ∨ b = Bg) W wr)
    (fun _ v13 _ => g - (intOf v13).toNat)
  case atStart => exact ⟨0, Nat.zero_le _, rfl, by simp [walkPrev], h0, Same.refl _ _⟩
  case round =>
    obtain ⟨k, hk, rfl, rfl, hJ, hB⟩ := hrel
    by_cases hlt : k < g
    · have hm := mask_i64 (walkPrev h g k + k) g hr'.out (by have := walkPrev_lt h g k hb.1; omega)
      rw [walkPrev_step] at hm
      have hl := walkPrev_lt h g k hb.1
      have hm' : bits .and .i64 (((walkPrev h g k : Nat) : Int) + (k : Int)) ((g : Int) - 1) = ((walkAt h g k : Nat) : Int) := by rw [← hm]; simp
      clear hm
      have hcg := hG.out wr hB
      obtain ⟨fn, tmps, assign, body, hy, hR⟩ := hY'.out k wr hlt hJ hB
      gi_wp2
      refine hR.mono ?_
      rintro e W' (⟨rfl, hJ', hB'⟩ | ⟨rfl, hx⟩)
      · gi_wp2
        go_roundw
        case rel => exact ⟨k + 1, by omega, by go_num, by rw [walkPrev_succ], hJ', hB.trans hB'⟩
        case measure => simp [intOf]; omega
      · gi_wp2
        refine bodyPost_ret (results_none rfl _ _ _) rfl ?_
        exact ⟨⟨_, rfl⟩, .inr hx⟩
    · obtain rfl : k = g := by omega
      gi_wp2
      go_end0
      exact ⟨⟨_, rfl⟩, .inl hJ⟩

set_option maxRecDepth 100000 in
set_option maxHeartbeats 1000000 in
/-- .. over a number of groups that may not be: none -/
theorem walk_gives_none (n : Int) (hr : rightB n = false) (Bh Bg : Nat) (w : World) (encs : Nat → Array Value)
    (hcg : w.cell? ⟨Bg, 0, none⟩ = some (.int .i64 n)) :
    GivesAt Tryd.prog 110 #[.pointer (some ⟨Bg, 0, none⟩), .pointer (some ⟨Bh, 0, none⟩)] encs 0 (fun b => b = Bh ∨ b = Bg) w := by
  intro l J Jx W hW _ hY _ h0
  have cgW : W.cell? ⟨Bg, 0, none⟩ = some (.int .i64 n) := (hW.cell (a := ⟨Bg, 0, none⟩) (Or.inr rfl)).trans hcg
  clear hY hcg
  refine callsIn_of_wp Tryd.func110 rfl trivial ?_ rfl
  simp only [Tryd.ntmps110, List.size_toArray, List.length_cons, List.length_nil, Nat.reduceAdd, Nat.reduceSub, Array.replicate_succ, Array.replicate_zero, List.push_toArray, List.append_toArray, List.nil_append, List.cons_append]
  gi_wp2_with (gi_at_call 35; refine (callsIn_wide.2 (right_any _ _)).mono ?_; rintro e w' ⟨rfl, rfl⟩)
  refine bodyPost_ret (results_none rfl _ _ _) rfl ?_
  exact ⟨⟨_, rfl⟩, .inl h0⟩

end Go.Proofs.YtplimhllfbdocaaDoor
