/- Bits of a word, the highest first; the number of so many bits. No condition. -/
namespace Go.Proofs.YtplimhllfbdocaaDoor
set_option linter.unusedVariables false
set_option linter.unusedSimpArgs false

/-- bit i of h, the highest is bit 0 -/
def bitF (h i : Nat) : Nat := h / 2 ^ (63 - i) % 2
theorem bitF_le (h i : Nat) : bitF h i ≤ 1 := by unfold bitF; omega
/-- the number of bits -/
def numB (l : List Nat) : Nat := l.foldl (fun n b => n * 2 + b) 0
theorem numB_snoc (l : List Nat) (b : Nat) : numB (l ++ [b]) = numB l * 2 + b := by simp [numB]
theorem numB_from (l : List Nat) (h : ∀ b ∈ l, b ≤ 1) (n : Nat) : l.foldl (fun n b => n * 2 + b) n < (n + 1) * 2 ^ l.length := by
  induction l generalizing n with
  | nil => simp
  | cons b l ih =>
    have h1 := ih (fun x hx => h x (by simp [hx])) (n * 2 + b)
    have h2 := h b (by simp)
    rw [List.foldl_cons, List.length_cons, Nat.pow_succ]
    refine Nat.lt_of_lt_of_le h1 ?_
    rw [Nat.mul_comm (2 ^ l.length) 2, ← Nat.mul_assoc]
    exact Nat.mul_le_mul_right _ (by omega)
theorem numB_lt (l : List Nat) (h : ∀ b ∈ l, b ≤ 1) : numB l < 2 ^ l.length := by
  simpa [numB] using numB_from l h 0
/-- the first d bits of h -/
def topB (h d : Nat) : List Nat := (List.range d).map (bitF h)
theorem topB_len (h d : Nat) : (topB h d).length = d := by simp [topB]
theorem topB_le (h d : Nat) : ∀ b ∈ topB h d, b ≤ 1 := by
  intro b hb
  simp only [topB, List.mem_map] at hb
  obtain ⟨i, -, rfl⟩ := hb
  exact bitF_le h i
theorem topB_num (h d : Nat) (hh : h < 18446744073709551616) (hd : d ≤ 64) : numB (topB h d) = h / 2 ^ (64 - d) := by
  induction d with
  | zero =>
    rw [show topB h 0 = [] from rfl, show numB [] = 0 from rfl]
    exact (Nat.div_eq_of_lt (by simpa using hh)).symm
  | succ d ih =>
    rw [show topB h (d + 1) = topB h d ++ [bitF h d] by simp [topB, List.range_succ], numB_snoc, ih (by omega)]
    unfold bitF
    rw [show 64 - d = (63 - d) + 1 by omega, Nat.pow_succ, ← Nat.div_div_eq_div_mul, show 64 - (d + 1) = 63 - d by omega]
    omega
theorem bitF_next (h i : Nat) (hi : i < 63) : h / 2 ^ (63 - i) = h / 2 ^ (63 - (i + 1)) / 2 := by
  rw [show 63 - i = 63 - (i + 1) + 1 by omega, Nat.pow_succ, ← Nat.div_div_eq_div_mul]
end Go.Proofs.YtplimhllfbdocaaDoor
