/- The walk of probe in plain numbers. No condition. -/
import Derived.WalkKit
namespace Go.Proofs.YtcmjddkljmfklaaDoor
set_option linter.unusedVariables false
set_option linter.unusedSimpArgs false
open Go.RowKit

/-- May a table have so many groups? -/
def rightB (n : Int) : Bool := n == 1 || n == 2 || n == 4 || n == 8 || n == 16 || n == 32 || n == 64

theorem rightB_iff (n : Int) : rightB n = true ↔ n = 1 ∨ n = 2 ∨ n = 4 ∨ n = 8 ∨ n = 16 ∨ n = 32 ∨ n = 64 := by
  simp [rightB, Bool.or_eq_true, or_assoc]

/-- Right's own test. -/
theorem rightB_bits (n : Int) (h1 : 1 ≤ n) (h2 : n ≤ 64) : (bits .and .i64 n (n - 1) == 0) = rightB n := by
  obtain ⟨k, rfl⟩ := Int.eq_ofNat_of_zero_le (show 0 ≤ n by omega)
  have hk : k ≤ 64 := by omega
  have h0 : 1 ≤ k := by omega
  clear h1 h2
  have : ∀ k : Fin 65, 1 ≤ k.val → (bits .and .i64 ((k.val : Nat) : Int) (((k.val : Nat) : Int) - 1) == 0) = rightB ((k.val : Nat) : Int) := by decide +kernel
  exact this ⟨k, by omega⟩ h0

/-- place number i of the walk of h over g groups -/
def walkAt (h g i : Nat) : Nat := (h + i * (i + 1) / 2) % g

theorem tri_succ (i : Nat) : (i + 1) * (i + 2) / 2 = i * (i + 1) / 2 + (i + 1) := by
  have : (i + 1) * (i + 2) = i * (i + 1) + (i + 1) * 2 := by
    simp only [Nat.add_mul, Nat.mul_add]; omega
  rw [this, Nat.add_mul_div_right _ _ (by omega)]

theorem walkAt_zero (h g : Nat) : walkAt h g 0 = h % g := by simp [walkAt]
theorem walkAt_succ (h g i : Nat) : walkAt h g (i + 1) = (walkAt h g i + (i + 1)) % g := by
  simp only [walkAt, tri_succ]
  rw [Nat.mod_add_mod, Nat.add_assoc]
theorem walkAt_lt (h g i : Nat) (hg : 0 < g) : walkAt h g i < g := Nat.mod_lt _ hg

/-- masks -/
theorem and_mask (j a : Nat) : a &&& (2 ^ j - 1) = a % 2 ^ j := Nat.and_two_pow_sub_one_eq_mod a j

theorem bits_and_i64_nat (a b : Nat) (ha : a < 9223372036854775808) (hb : b < 9223372036854775808) : bits .and .i64 (a : Int) (b : Int) = ((a &&& b : Nat) : Int) := by
  have h1 : (BitVec.ofInt 64 (a : Int)).toNat = a := by
    rw [BitVec.ofInt_natCast, BitVec.toNat_ofNat]; exact Nat.mod_eq_of_lt (by omega)
  have h2 : (BitVec.ofInt 64 (b : Int)).toNat = b := by
    rw [BitVec.ofInt_natCast, BitVec.toNat_ofNat]; exact Nat.mod_eq_of_lt (by omega)
  show IntKind.i64.wrap ((BitVec.ofInt 64 (a : Int) &&& BitVec.ofInt 64 (b : Int)).toNat : Int) = _
  have hle : a &&& b ≤ a := Nat.and_le_left
  rw [BitVec.toNat_and, h1, h2, IntWalk.i64_in _ (by omega)]

theorem right_pow {g : Nat} (h : rightB (g : Int) = true) : ∃ j, j ≤ 6 ∧ g = 2 ^ j := by
  rw [rightB_iff] at h
  rcases h with h | h | h | h | h | h | h
  · exact ⟨0, by omega, by omega⟩
  · exact ⟨1, by omega, by omega⟩
  · exact ⟨2, by omega, by omega⟩
  · exact ⟨3, by omega, by omega⟩
  · exact ⟨4, by omega, by omega⟩
  · exact ⟨5, by omega, by omega⟩
  · exact ⟨6, by omega, by omega⟩

theorem right_bd {g : Nat} (h : rightB (g : Int) = true) : 1 ≤ g ∧ g ≤ 64 := by
  rw [rightB_iff] at h; omega

theorem mask_i64 (a g : Nat) (h : rightB (g : Int) = true) (ha : a < 9223372036854775808) : bits .and .i64 (a : Int) ((g : Int) - 1) = ((a % g : Nat) : Int) := by
  obtain ⟨j, hj, rfl⟩ := right_pow h
  have hb := right_bd h
  rw [show ((2 ^ j : Nat) : Int) - 1 = ((2 ^ j - 1 : Nat) : Int) by omega, bits_and_i64_nat _ _ ha (by omega), and_mask]
theorem mask_u64 (a g : Nat) (h : rightB (g : Int) = true) (ha : a < 18446744073709551616) : bits .and .u64 (a : Int) ((g : Int) - 1) = ((a % g : Nat) : Int) := by
  obtain ⟨j, hj, rfl⟩ := right_pow h
  have hb := right_bd h
  rw [show ((2 ^ j : Nat) : Int) - 1 = ((2 ^ j - 1 : Nat) : Int) by omega, bits_and_u64_nat _ _ ha (by omega), and_mask]

/-- the places of a walk, in a list -/
def walkL (h g : Nat) : List Nat := (List.range g).map (walkAt h g)
theorem walkL_length (h g : Nat) : (walkL h g).length = g := by simp [walkL]

end Go.Proofs.YtcmjddkljmfklaaDoor
