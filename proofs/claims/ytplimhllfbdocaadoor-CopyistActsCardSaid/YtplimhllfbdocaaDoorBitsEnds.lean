/- The least and the greatest hash of a prefix, as bits. No condition. -/
import Derived.Test.YtplimhllfbdocaaDoorBits
namespace Go.Proofs.YtplimhllfbdocaaDoor
set_option linter.unusedVariables false
set_option linter.unusedSimpArgs false

/-- the bits of so many: b behind the prefix -/
def endF (p d b i : Nat) : Nat := if i < d then p / 2 ^ (d - 1 - i) % 2 else b
def endL (p d b m : Nat) : List Nat := (List.range m).map (endF p d b)
theorem endL_succ (p d b m : Nat) : endL p d b (m + 1) = endL p d b m ++ [endF p d b m] := by simp [endL, List.range_succ]
theorem endL_head (p d b : Nat) (hp : p < 2 ^ d) (m : Nat) (hm : m ≤ d) : numB (endL p d b m) = p / 2 ^ (d - m) := by
  induction m with
  | zero => rw [show endL p d b 0 = [] from rfl, show numB [] = 0 from rfl]; exact (Nat.div_eq_of_lt (by simpa using hp)).symm
  | succ m ih =>
    rw [endL_succ, numB_snoc, ih (by omega)]
    unfold endF
    rw [if_pos (by omega), show d - m = (d - 1 - m) + 1 by omega, Nat.pow_succ, ← Nat.div_div_eq_div_mul, show d - (m + 1) = d - 1 - m by omega]
    omega
theorem endL_low (p d : Nat) (hp : p < 2 ^ d) (e : Nat) : numB (endL p d 0 (d + e)) = p * 2 ^ e := by
  induction e with
  | zero => rw [Nat.add_zero, endL_head p d 0 hp d (by omega)]; simp
  | succ e ih =>
    rw [← Nat.add_assoc, endL_succ, numB_snoc, ih]
    unfold endF
    rw [if_neg (by omega), Nat.pow_succ, ← Nat.mul_assoc]
    omega
theorem endL_high (p d : Nat) (hp : p < 2 ^ d) (e : Nat) : numB (endL p d 1 (d + e)) + 1 = (p + 1) * 2 ^ e := by
  induction e with
  | zero =>
    have h := endL_head p d 1 hp d (by omega)
    rw [Nat.sub_self, Nat.pow_zero, Nat.div_one] at h
    rw [show d + 0 = d from rfl, h, Nat.pow_zero, Nat.mul_one]
  | succ e ih =>
    rw [← Nat.add_assoc, endL_succ, numB_snoc]
    unfold endF
    rw [if_neg (by omega), Nat.pow_succ, ← Nat.mul_assoc, ← ih]
    omega
theorem endF_le (p d b i : Nat) (hb : b ≤ 1) : endF p d b i ≤ 1 := by unfold endF; split <;> omega
end Go.Proofs.YtplimhllfbdocaaDoor
