/- amblernum.SameEntries of two lists of the same entries. No condition. -/
import Derived.Test.YtcmjddkljmfklaaDoorEnt
namespace Go.Proofs.YtcmjddkljmfklaaDoor
set_option linter.unusedVariables false
set_option linter.unusedSimpArgs false
open Go.RowKit Go.Proofs

set_option maxRecDepth 100000 in
set_option maxHeartbeats 4000000 in
theorem sameEnts_any (v1 v2 : Value) (l : List EntS) (w : World) (h1 : ReadsEnts w v1 l) (h2 : ReadsEnts w v2 l) (hn : l.length < 9223372036854775807) :
    Calls Tryd.prog 55 #[v1, v2] w fun e w' => e = .returned (.bool true) ∧ Below w.heap.size w w' := by
  obtain ⟨a1, c1, rfl, x1⟩ := h1
  obtain ⟨a2, c2, rfl, x2⟩ := h2
  have X1 := Lib.hid x1
  have X2 := Lib.hid x2
  clear x1 x2
  have e1 : ((l.length : Int) != (l.length : Int)) = false := by simp
  go_enter Tryd.func55, Tryd.ntmps55
  obtain ⟨n, hnl⟩ : ∃ n, n = l.length := ⟨_, rfl⟩
  rw [← hnl] at hn e1 ⊢
  replace hnl := Lib.hid hnl
  go_wp2
  go_loopw [5, 14] (fun _ v14 wr => ∃ k : Nat, k ≤ n ∧ v14 = .int .i64 (k : Int) ∧ Below w.heap.size w wr) (fun _ v14 _ => n - (intOf v14).toNat)
  case atStart => exact ⟨0, by omega, rfl, Below.refl _ _⟩
  case round =>
    obtain ⟨k, hk, rfl, hB⟩ := hrel
    have hzB := hB.size
    by_cases hlt : k < n
    · have hkl : k < l.length := by have := hnl.out; omega
      have hne : l ≠ [] := fun e => by rw [e] at hkl; simp at hkl
      obtain ⟨b1, o1, rfl, z1, y1⟩ := X1.out hne
      obtain ⟨b2, o2, rfl, z2, y2⟩ := X2.out hne
      obtain ⟨p0, p1, p2⟩ := y1 k hkl
      obtain ⟨q0, q1, q2⟩ := y2 k hkl
      replace p0 := (hB.cell (p := ⟨b1, o1 + k * 3, none⟩) z1).trans p0
      replace p1 := (hB.cell (p := ⟨b1, o1 + k * 3 + 1, none⟩) z1).trans p1
      replace p2 := (hB.cell (p := ⟨b1, o1 + k * 3 + 2, none⟩) z1).trans p2
      replace q0 := (hB.cell (p := ⟨b2, o2 + k * 3, none⟩) z2).trans q0
      replace q1 := (hB.cell (p := ⟨b2, o2 + k * 3 + 1, none⟩) z2).trans q1
      replace q2 := (hB.cell (p := ⟨b2, o2 + k * 3 + 2, none⟩) z2).trans q2
      have hz1 := Nat.lt_of_lt_of_le z1 hzB
      have hz2 := Nat.lt_of_lt_of_le z2 hzB
      have hltI : (k : Int) < (n : Int) := by omega
      clear y1 y2
      generalize l[k] = ek at *
      obtain ⟨x, y, z⟩ := ek
      clear hne hkl z1 z2
      simp only at p0 p1 p2 q0 q1 q2
      go_wp2
      refine wp_region_seq (fun _ => False) #[⟨0, 0, 524288, 64, 1⟩, ⟨0, 0, 1048576, 2, 0⟩, ⟨0, 0, 2097152, 32, 0⟩, ⟨6, 6, 4194304, 3145728, 0⟩, ⟨8, 14, 8388608, 4194304, 1⟩, ⟨17, 31, 16777216, 8912896, 0⟩] 17 [(0, 1), (1, 0), (2, 0), (3, 0), (4, 1), (5, 0)] (by kernel_rfl) (by kernel_rfl) (by kernel_rfl) (by kernel_rfl) (by kernel_rfl) (by kernel_rfl) (fun c a d v w h => by cases d <;> exact h) ?_
      refine seq_loads [_, _, _] (by simp only [List.getElem?_toArray, List.getElem?_cons_succ, List.getElem?_cons_zero]; rfl) (by rfl) rfl rfl Tryd.underlying62 rfl (by kernel_rfl) (by first | (with_reducible assumption) | (refine cellsAre_range ?_; simp only [cellsAre]; (repeat' (first | exact True.intro | apply And.intro)); all_goals (go_simp <;> with_reducible rfl))) (by first | exact id | assumption | (simp; done) | (simp; omega)) ?_
      try simp only [Act.put, List.setIfInBounds_toArray, List.set_cons_zero, List.set_cons_succ]
      refine seq_calc (by simp only [List.getElem?_toArray, List.getElem?_cons_succ, List.getElem?_cons_zero]; rfl) (by rfl) (fun u => by go_simp <;> with_reducible rfl) ?_
      try simp only [Act.put, List.setIfInBounds_toArray, List.set_cons_zero, List.set_cons_succ]
      refine seq_calc (by simp only [List.getElem?_toArray, List.getElem?_cons_succ, List.getElem?_cons_zero]; rfl) (by rfl) (fun u => by go_simp <;> with_reducible rfl) ?_
      try simp only [Act.put, List.setIfInBounds_toArray, List.set_cons_zero, List.set_cons_succ]
      refine seq_calc (by simp only [List.getElem?_toArray, List.getElem?_cons_succ, List.getElem?_cons_zero]; rfl) (by rfl) (fun u => by go_simp <;> with_reducible rfl) ?_
      try simp only [Act.put, List.setIfInBounds_toArray, List.set_cons_zero, List.set_cons_succ]
      refine seq_loads [_, _, _] (by simp only [List.getElem?_toArray, List.getElem?_cons_succ, List.getElem?_cons_zero]; rfl) (by rfl) rfl rfl Tryd.underlying62 rfl (by kernel_rfl) (by first | (with_reducible assumption) | (refine cellsAre_range ?_; simp only [cellsAre]; (repeat' (first | exact True.intro | apply And.intro)); all_goals (go_simp <;> with_reducible rfl))) (by first | exact id | assumption | (simp; done) | (simp; omega)) ?_
      try simp only [Act.put, List.setIfInBounds_toArray, List.set_cons_zero, List.set_cons_succ]
      refine seq_calc (by simp only [List.getElem?_toArray, List.getElem?_cons_succ, List.getElem?_cons_zero]; rfl) (by rfl) (fun u => by go_simp <;> with_reducible rfl) ?_
      try simp only [Act.put, List.setIfInBounds_toArray, List.set_cons_zero, List.set_cons_succ]
      refine seq_nil ?_
      go_wp2
      go_roundw
      case rel => exact ⟨k + 1, by omega, by go_num, by go_grown⟩
      case measure => simp [intOf]; omega
    · obtain rfl : k = n := by omega
      go_wp2
      go_ret
      exact ⟨rfl, hB⟩
end Go.Proofs.YtcmjddkljmfklaaDoor
