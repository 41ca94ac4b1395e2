/- The walks of package swar. No condition. -/
import Derived.Test.YtcmjddkljmfklaaDoorProg
import Derived.Test.YtcmjddkljmfklaaDoorSwarPlain
import Derived.Handy
import Derived.Lib.Hide
import Derived.WalkSmall
import Derived.Test.YtcmjddkljmfklaaDoorSeq
import Derived.IntWalk
import Derived.Laws.Bits64
import Derived.Laws.Bits64b
namespace Go.Proofs.YtcmjddkljmfklaaDoor
set_option linter.unusedVariables false
set_option linter.unusedSimpArgs false
open Go.RowKit Go.Proofs

theorem ret_u64 {a b : Int} (h : a = b) : Ending.returned (.int .u64 a) = .returned (.int .u64 b) := by rw [h]
theorem repeat_any (b : Nat) (hb : b < 256) (w : World) :
    Calls Tryd.prog 113 #[.int .u8 (b : Int)] w fun e w' => e = .returned (.int .u64 ((rep b : Nat) : Int)) ∧ w = w' := by
  go_enter Tryd.func113, Tryd.ntmps113
  go_wp2
  go_ret
  exact ⟨ret_u64 (by unfold rep; omega), rfl⟩
theorem high_any (m : Nat) (hm : m < 18446744073709551616) (w : World) :
    Calls Tryd.prog 119 #[.int .u64 (m : Int)] w fun e w' => e = .returned (.int .u64 ((maskB (highB m) : Nat) : Int)) ∧ w = w' := by
  go_enter Tryd.func119, Tryd.ntmps119
  go_wp2
  go_ret
  exact ⟨ret_u64 (bits_highs m hm), rfl⟩
theorem equal_any (m b : Nat) (hm : m < 18446744073709551616) (hb : b < 256) (w : World) :
    Calls Tryd.prog 121 #[.int .u64 (m : Int), .int .u8 (b : Int)] w fun e w' => e = .returned (.int .u64 ((maskB (equalB m b) : Nat) : Int)) ∧ w = w' := by
  have hr := repeat_any b hb
  have he := equal_bits m b hm hb
  replace he := Lib.hid he
  go_enter Tryd.func121, Tryd.ntmps121
  go_wp2_with (go_at_call 113; refine (hr _).mono ?_; rintro e w' ⟨rfl, rfl⟩)
  go_ret
  exact ⟨ret_u64 he.out, rfl⟩
theorem is_in (i : Int) (h0 : 0 ≤ i) (h1 : i < 8) (w : World) : Calls Tryd.prog 128 #[.int .i64 i] w fun e w' => e = .returned (.bool true) ∧ w = w' := by
  go_enter Tryd.func128, Tryd.ntmps128
  go_wp2
  go_ret
  exact ⟨rfl, rfl⟩
theorem is_out (i : Int) (h0 : i < 0 ∨ 8 ≤ i) (w : World) : Calls Tryd.prog 128 #[.int .i64 i] w fun e w' => e = .returned (.bool false) ∧ w = w' := by
  rcases h0 with h0 | h0
  · have hd : decide (0 ≤ i) = false := by simpa using h0
    go_enter Tryd.func128, Tryd.ntmps128
    go_wp2
    go_ret
    exact ⟨rfl, rfl⟩
  · have hd : decide (i < 8) = false := by simpa using h0
    have hd2 : decide (0 ≤ i) = true := by simp; omega
    go_enter Tryd.func128, Tryd.ntmps128
    go_wp2
    go_ret
    exact ⟨rfl, rfl⟩
theorem lane_in (m i : Nat) (hm : m < 18446744073709551616) (hi : i < 8) (w : World) :
    Calls Tryd.prog 114 #[.int .u64 (m : Int), .int .i64 (i : Int)] w fun e w' => e = .returned (.tuple #[.int .u8 ((ln m i : Nat) : Int), .bool true]) ∧ w = w' := by
  have h0 : (0 : Int) ≤ i := by omega
  have h1 : (i : Int) < 8 := by omega
  go_enter Tryd.func114, Tryd.ntmps114
  go_wp2_with (go_at_call 128; refine (is_in _ h0 h1 _).mono ?_; rintro e w' ⟨rfl, rfl⟩)
  go_ret2
  exact ⟨by rw [← ln_cast]; rfl, rfl⟩
theorem lane_out (m i : Int) (hi : i < 0 ∨ 8 ≤ i) (w : World) :
    Calls Tryd.prog 114 #[.int .u64 m, .int .i64 i] w fun e w' => e = .returned (.tuple #[.int .u8 0, .bool false]) ∧ w = w' := by
  go_enter Tryd.func114, Tryd.ntmps114
  go_wp2_with (go_at_call 128; refine (is_out _ hi _).mono ?_; rintro e w' ⟨rfl, rfl⟩)
  go_ret2
  exact ⟨rfl, rfl⟩
theorem with_in (m i b : Nat) (hm : m < 18446744073709551616) (hi : i < 8) (hb : b < 256) (w : World) :
    Calls Tryd.prog 130 #[.int .u64 (m : Int), .int .i64 (i : Int), .int .u8 (b : Int)] w fun e w' => e = .returned (.int .u64 ((setL m i b : Nat) : Int)) ∧ w.drewN 1 = w' := by
  have h0 : (0 : Int) ≤ i := by omega
  have h1 : (i : Int) < 8 := by omega
  have he := with_bits m i b hm hi hb
  replace he := Lib.hid he
  go_enter Tryd.func130, Tryd.ntmps130
  go_wp2_with (go_at_call 128; refine (is_in _ h0 h1 _).mono ?_; rintro e w' ⟨rfl, rfl⟩)
  refine wp_region_seq (fun _ => False) #[⟨0, 0, 16384, 1, 0⟩, ⟨0, 0, 32768, 128, 0⟩, ⟨2, 2, 65536, 32768, 0⟩, ⟨5, 7, 131072, 81920, 0⟩, ⟨0, 0, 262144, 4, 0⟩, ⟨16, 16, 524288, 262144, 0⟩, ⟨0, 0, 1048576, 128, 0⟩, ⟨96, 112, 2097152, 1572864, 0⟩, ⟨136, 255, 4194304, 2228224, 0⟩, ⟨511, 511, 64, 4194304, 0⟩] 0 [(0, 0), (1, 0), (2, 0), (3, 0), (4, 0), (5, 0), (6, 0), (7, 0), (8, 0), (9, 0)] (by kernel_rfl) (by kernel_rfl) (by kernel_rfl) (by kernel_rfl) (by kernel_rfl) (by kernel_rfl) (fun c a d v w h => by cases d <;> exact h) ?_
  refine seq_calc (by simp only [List.getElem?_toArray, List.getElem?_cons_succ, List.getElem?_cons_zero]; rfl) (by rfl) (fun u => by go_simp <;> with_reducible rfl) ?_
  try simp only [Act.put, List.setIfInBounds_toArray, List.set_cons_zero, List.set_cons_succ]
  refine seq_calc (by simp only [List.getElem?_toArray, List.getElem?_cons_succ, List.getElem?_cons_zero]; rfl) (by rfl) (fun u => by go_simp <;> with_reducible rfl) ?_
  try simp only [Act.put, List.setIfInBounds_toArray, List.set_cons_zero, List.set_cons_succ]
  refine seq_calc (by simp only [List.getElem?_toArray, List.getElem?_cons_succ, List.getElem?_cons_zero]; rfl) (by rfl) (fun u => by go_simp <;> with_reducible rfl) ?_
  try simp only [Act.put, List.setIfInBounds_toArray, List.set_cons_zero, List.set_cons_succ]
  refine seq_calc (by simp only [List.getElem?_toArray, List.getElem?_cons_succ, List.getElem?_cons_zero]; rfl) (by rfl) (fun u => by go_simp <;> with_reducible rfl) ?_
  try simp only [Act.put, List.setIfInBounds_toArray, List.set_cons_zero, List.set_cons_succ]
  refine seq_calc (by simp only [List.getElem?_toArray, List.getElem?_cons_succ, List.getElem?_cons_zero]; rfl) (by rfl) (fun u => by go_simp <;> with_reducible rfl) ?_
  try simp only [Act.put, List.setIfInBounds_toArray, List.set_cons_zero, List.set_cons_succ]
  refine seq_calc (by simp only [List.getElem?_toArray, List.getElem?_cons_succ, List.getElem?_cons_zero]; rfl) (by rfl) (fun u => by go_simp <;> with_reducible rfl) ?_
  try simp only [Act.put, List.setIfInBounds_toArray, List.set_cons_zero, List.set_cons_succ]
  refine seq_calc (by simp only [List.getElem?_toArray, List.getElem?_cons_succ, List.getElem?_cons_zero]; rfl) (by rfl) (fun u => by go_simp <;> with_reducible rfl) ?_
  try simp only [Act.put, List.setIfInBounds_toArray, List.set_cons_zero, List.set_cons_succ]
  refine seq_calc (by simp only [List.getElem?_toArray, List.getElem?_cons_succ, List.getElem?_cons_zero]; rfl) (by rfl) (fun u => by go_simp <;> with_reducible rfl) ?_
  try simp only [Act.put, List.setIfInBounds_toArray, List.set_cons_zero, List.set_cons_succ]
  refine seq_calc (by simp only [List.getElem?_toArray, List.getElem?_cons_succ, List.getElem?_cons_zero]; rfl) (by rfl) (fun u => by go_simp <;> with_reducible rfl) ?_
  try simp only [Act.put, List.setIfInBounds_toArray, List.set_cons_zero, List.set_cons_succ]
  refine seq_calc (by simp only [List.getElem?_toArray, List.getElem?_cons_succ, List.getElem?_cons_zero]; rfl) (by rfl) (fun u => by go_simp <;> with_reducible rfl) ?_
  try simp only [Act.put, List.setIfInBounds_toArray, List.set_cons_zero, List.set_cons_succ]
  refine seq_nil ?_
  go_wp2
  go_ret
  exact ⟨ret_u64 he.out, rfl⟩
theorem with_out (m b i : Int) (hi : i < 0 ∨ 8 ≤ i) (w : World) :
    Calls Tryd.prog 130 #[.int .u64 m, .int .i64 i, .int .u8 b] w fun e w' => e = .returned (.int .u64 m) ∧ w = w' := by
  go_enter Tryd.func130, Tryd.ntmps130
  go_wp2_with (go_at_call 128; refine (is_out _ hi _).mono ?_; rintro e w' ⟨rfl, rfl⟩)
  go_ret
  exact ⟨rfl, rfl⟩
end Go.Proofs.YtcmjddkljmfklaaDoor
