/- Helpers of package amblernum. No condition. -/
import Derived.Test.YtcmjddkljmfklaaDoorProg
import Derived.Test.YtcmjddkljmfklaaDoorMem
namespace Go.Proofs.YtcmjddkljmfklaaDoor
set_option linter.unusedVariables false
set_option linter.unusedSimpArgs false
open Go.RowKit Go.Proofs

set_option maxHeartbeats 1000000 in
theorem sameInts_any (v1 v2 : Value) (xs ys : List Int) (w : World) (h1 : ReadsInts w v1 xs) (h2 : ReadsInts w v2 ys) (b1 : xs.length < 9223372036854775807) :
    Calls Tryd.prog 21 #[v1, v2] w fun e w' => e = .returned (.bool (decide (xs = ys))) ∧ w = w' := by
  obtain ⟨a1, c1, rfl, h1⟩ := h1
  obtain ⟨a2, c2, rfl, h2⟩ := h2
  have H1 := Lib.hid h1
  have H2 := Lib.hid h2
  clear h1 h2
  by_cases hl : xs.length = ys.length
  · have hL := Lib.hid hl
    rw [← hl]
    have ht : ((xs.length : Int) != (xs.length : Int)) = false := by simp
    clear hl
    go_enter Tryd.func21, Tryd.ntmps21
    go_wp2
    go_loop [14] (fun i => ∃ k : Nat, k ≤ xs.length ∧ i = .int .i64 k ∧ xs.take k = ys.take k) (fun i => xs.length - (intOf i).toNat)
    case atStart => exact ⟨0, Nat.zero_le _, rfl, by simp⟩
    case round =>
      obtain ⟨k, hk, rfl, hp⟩ := hrel
      have HP := Lib.hid hp
      clear hp
      by_cases hlt : k < xs.length
      · have hlt2 : k < ys.length := by rw [← hL.out]; exact hlt
        obtain ⟨B1, o1, rfl, hc1⟩ := H1.out (by intro h; rw [h] at hlt; simp at hlt)
        obtain ⟨B2, o2, rfl, hc2⟩ := H2.out (by intro h; rw [h] at hlt2; simp at hlt2)
        have c1 := hc1 k hlt
        have c2 := hc2 k hlt2
        clear hc1 hc2
        by_cases he : xs[k] = ys[k]
        · have he' : (xs[k] != ys[k]) = false := by simp [he]
          have HE := Lib.hid he
          clear he
          go_wp2
          go_round
          case rel => exact ⟨k + 1, by omega, by go_num, by rw [List.take_succ_eq_append_getElem hlt, List.take_succ_eq_append_getElem hlt2, HP.out, HE.out]⟩
          case measure => simp [intOf]; omega
        · have he' : (xs[k] != ys[k]) = true := by simp [he]
          have hne : decide (xs = ys) = false := by
            rw [decide_eq_false_iff_not]; intro h; apply he; simp [h]
          have HN := Lib.hid hne
          clear he hne
          go_wp2
          go_ret
          exact ⟨by rw [HN.out]; rfl, rfl⟩
      · obtain rfl : k = xs.length := by omega
        have hq : decide (xs = ys) = true := by
          rw [decide_eq_true_iff]; have := HP.out; rwa [List.take_length, hL.out, List.take_length] at this
        have HQ := Lib.hid hq
        clear hq
        go_wp2
        go_ret
        exact ⟨by rw [HQ.out]; rfl, rfl⟩
  · have hne : decide (xs = ys) = false := by
      rw [decide_eq_false_iff_not]; intro h; exact hl (by rw [h])
    have HN := Lib.hid hne
    have ht : ((xs.length : Int) != (ys.length : Int)) = true := by simp; omega
    clear hne
    go_enter Tryd.func21, Tryd.ntmps21
    go_wp2
    go_ret
    exact ⟨by rw [HN.out]; rfl, rfl⟩

end Go.Proofs.YtcmjddkljmfklaaDoor
