/- Hashes of plain numbers: the plain law. No condition. -/
import Derived.Test.YtplimhllfbdocaaDoorBits
namespace Go.Proofs.YtplimhllfbdocaaDoor
set_option linter.unusedVariables false
set_option linter.unusedSimpArgs false

theorem numB_range_bit (f : Nat → Nat) (hf : ∀ i, f i ≤ 1) (n j : Nat) : (numB ((List.range n).map f)).testBit j = (decide (j < n) && decide (f (n - 1 - j) = 1)) := by
  induction n generalizing j with
  | zero => simp [numB]
  | succ n ih =>
    rw [List.range_succ, List.map_append, List.map_singleton, numB_snoc]
    have h1 := hf n
    cases j with
    | zero =>
      rw [Nat.testBit_zero]
      simp only [Nat.zero_lt_succ, decide_true, Bool.true_and, Nat.add_sub_cancel, Nat.sub_zero]
      rw [decide_eq_decide]; omega
    | succ j =>
      rw [Nat.testBit_succ, show (numB ((List.range n).map f) * 2 + f n) / 2 = numB ((List.range n).map f) by omega, ih, show n + 1 - 1 - (j + 1) = n - 1 - j by omega]
      congr 1
      rw [decide_eq_decide]; omega
theorem bitF_bit (x i : Nat) : decide (bitF x i = 1) = x.testBit (63 - i) := by
  unfold bitF
  rw [Nat.testBit_eq_decide_div_mod_eq]
theorem numB_lt64 (f : Nat → Nat) (hf : ∀ i, f i ≤ 1) : numB ((List.range 64).map f) < 2 ^ 64 := by
  have h := numB_lt ((List.range 64).map f) (by intro b hb; simp only [List.mem_map] at hb; obtain ⟨i, -, rfl⟩ := hb; exact hf i)
  simpa using h
/-- a word turned round -/
def revN (x : Nat) : Nat := numB ((List.range 64).map fun i => bitF x (63 - i))
theorem revN_lt (x : Nat) : revN x < 18446744073709551616 := numB_lt64 _ fun i => bitF_le _ _
theorem revN_bit (x j : Nat) : (revN x).testBit j = (decide (j < 64) && x.testBit (63 - j)) := by
  unfold revN
  rw [numB_range_bit _ (fun i => bitF_le _ _)]
  by_cases h : j < 64
  · rw [bitF_bit, show 63 - (63 - (64 - 1 - j)) = 63 - j by omega]
  · simp [h]
theorem bit_high {x j : Nat} (hx : x < 2 ^ 64) (hj : 64 ≤ j) : x.testBit j = false :=
  Nat.testBit_lt_two_pow (Nat.lt_of_lt_of_le hx (Nat.pow_le_pow_right (by decide) hj))
theorem revN_rev (x : Nat) (hx : x < 18446744073709551616) : revN (revN x) = x := by
  apply Nat.eq_of_testBit_eq
  intro j
  rw [revN_bit]
  by_cases h : j < 64
  · rw [revN_bit, show 63 - (63 - j) = j by omega]; simp [h]; intro; omega
  · rw [bit_high hx (by omega)]; simp [h]
/-- lanes of s bits, each changed with its neighbour -/
def swp (s m x : Nat) : Nat := ((x / 2 ^ s) &&& m) ||| ((x &&& m) * 2 ^ s)
def sig (s j : Nat) : Nat := if j / s % 2 = 0 then j + s else j - s
theorem swp_bit {s m : Nat} (hm : ∀ j, j < 64 → m.testBit j = decide (j / s % 2 = 0))
    (h1 : ∀ j, j < 64 → j / s % 2 = 0 → s ≤ j → (j - s) / s % 2 = 1) (h2 : ∀ j, j < 64 → j / s % 2 ≠ 0 → s ≤ j ∧ (j - s) / s % 2 = 0) (x j : Nat) (hj : j < 64) :
    (swp s m x).testBit j = x.testBit (sig s j) := by
  unfold swp sig
  rw [Nat.testBit_or, Nat.testBit_and, Nat.testBit_div_two_pow, Nat.testBit_mul_two_pow, Nat.testBit_and, hm j hj]
  by_cases c : j / s % 2 = 0
  · rw [if_pos c]
    by_cases g : s ≤ j
    · have hm2 := hm (j - s) (by omega)
      have := h1 j hj c g
      rw [hm2]
      simp [c, g, this]
    · simp [c, g]
  · rw [if_neg c]
    obtain ⟨g, e⟩ := h2 j hj c
    rw [hm (j - s) (by omega)]
    simp [c, g, e]
theorem swp_lt {s m x : Nat} (hs : s ≤ 64) (hm : m < 2 ^ (64 - s)) : swp s m x < 18446744073709551616 := by
  unfold swp
  refine Nat.or_lt_two_pow (n := 64) (Nat.lt_of_le_of_lt Nat.and_le_right (Nat.lt_of_lt_of_le hm (Nat.pow_le_pow_right (by decide) (by omega)))) ?_
  have h : (x &&& m) < 2 ^ (64 - s) := Nat.lt_of_le_of_lt Nat.and_le_right hm
  have h2 := Nat.mul_lt_mul_of_pos_right h (Nat.two_pow_pos s)
  rwa [← Nat.pow_add, show 64 - s + s = 64 by omega] at h2
def swpL (x : Nat) : Nat := (x / 2 ^ 32) ||| (x * 2 ^ 32 % 2 ^ 64)
theorem swpL_bit (x j : Nat) (hx : x < 2 ^ 64) (hj : j < 64) : (swpL x).testBit j = x.testBit (sig 32 j) := by
  unfold swpL sig
  rw [Nat.testBit_or, Nat.testBit_div_two_pow, Nat.testBit_mod_two_pow, Nat.testBit_mul_two_pow]
  by_cases c : j < 32
  · rw [if_pos (by omega)]; simp [show ¬ 32 ≤ j by omega]
  · rw [if_neg (by omega), bit_high hx (by omega)]; simp [hj, show 32 ≤ j by omega]
theorem swpL_lt (x : Nat) (hx : x < 2 ^ 64) : swpL x < 18446744073709551616 := by
  unfold swpL
  exact Nat.or_lt_two_pow (n := 64) (Nat.lt_of_le_of_lt (Nat.div_le_self _ _) hx) (Nat.mod_lt _ (by decide))
theorem all64 {p : Nat → Prop} [DecidablePred p] (h : ∀ j : Fin 64, p j.val) : ∀ j, j < 64 → p j := fun j hj => h ⟨j, hj⟩
theorem b1 (x j : Nat) (hj : j < 64) : (swp 1 6148914691236517205 x).testBit j = x.testBit (sig 1 j) := swp_bit (all64 (by decide)) (all64 (by decide)) (all64 (by decide)) x j hj
theorem b2 (x j : Nat) (hj : j < 64) : (swp 2 3689348814741910323 x).testBit j = x.testBit (sig 2 j) := swp_bit (all64 (by decide)) (all64 (by decide)) (all64 (by decide)) x j hj
theorem b4 (x j : Nat) (hj : j < 64) : (swp 4 1085102592571150095 x).testBit j = x.testBit (sig 4 j) := swp_bit (all64 (by decide)) (all64 (by decide)) (all64 (by decide)) x j hj
theorem b8 (x j : Nat) (hj : j < 64) : (swp 8 71777214294589695 x).testBit j = x.testBit (sig 8 j) := swp_bit (all64 (by decide)) (all64 (by decide)) (all64 (by decide)) x j hj
theorem b16 (x j : Nat) (hj : j < 64) : (swp 16 281470681808895 x).testBit j = x.testBit (sig 16 j) := swp_bit (all64 (by decide)) (all64 (by decide)) (all64 (by decide)) x j hj
def revB (x : Nat) : Nat := swpL (swp 16 281470681808895 (swp 8 71777214294589695 x))
theorem rev_eq (x : Nat) (hx : x < 18446744073709551616) : revB (swp 4 1085102592571150095 (swp 2 3689348814741910323 (swp 1 6148914691236517205 x))) = revN x := by
  unfold revB
  have hl : swp 16 281470681808895 (swp 8 71777214294589695 (swp 4 1085102592571150095 (swp 2 3689348814741910323 (swp 1 6148914691236517205 x)))) < 2 ^ 64 := swp_lt (by decide) (by decide)
  apply Nat.eq_of_testBit_eq
  intro j
  rw [revN_bit]
  by_cases h : j < 64
  · have s32 : sig 32 j < 64 := all64 (p := fun j => sig 32 j < 64) (by decide) j h
    have s16 : sig 16 (sig 32 j) < 64 := all64 (p := fun j => sig 16 (sig 32 j) < 64) (by decide) j h
    have s8 : sig 8 (sig 16 (sig 32 j)) < 64 := all64 (p := fun j => sig 8 (sig 16 (sig 32 j)) < 64) (by decide) j h
    have s4 : sig 4 (sig 8 (sig 16 (sig 32 j))) < 64 := all64 (p := fun j => sig 4 (sig 8 (sig 16 (sig 32 j))) < 64) (by decide) j h
    have s2 : sig 2 (sig 4 (sig 8 (sig 16 (sig 32 j)))) < 64 := all64 (p := fun j => sig 2 (sig 4 (sig 8 (sig 16 (sig 32 j)))) < 64) (by decide) j h
    have s1 : sig 1 (sig 2 (sig 4 (sig 8 (sig 16 (sig 32 j))))) = 63 - j := all64 (p := fun j => sig 1 (sig 2 (sig 4 (sig 8 (sig 16 (sig 32 j))))) = 63 - j) (by decide) j h
    rw [swpL_bit _ _ hl h, b16 _ _ s32, b8 _ _ s16, b4 _ _ s8, b2 _ _ s4, b1 _ _ s2, s1]
    simp [h]
  · rw [bit_high (swpL_lt _ hl) (by omega)]; simp [h]
/-- FNV-1a of n bytes -/
def fnvH (x : Nat) : Nat → Nat
  | 0 => 14695981039346656037
  | n + 1 => ((fnvH x n ^^^ (x / 256 ^ n % 256)) * 1099511628211) % 18446744073709551616
theorem fnvH_lt (x n : Nat) : fnvH x n < 18446744073709551616 := by
  cases n with
  | zero => exact show (14695981039346656037 : Nat) < 18446744073709551616 by decide
  | succ n => exact Nat.mod_lt _ (by decide)
/-- the product with the factor -/
def mulF (x : Nat) : Nat := x * 11400714819323198485 % 18446744073709551616
theorem mulF_lt (x : Nat) : mulF x < 18446744073709551616 := Nat.mod_lt _ (by decide)
/-- the lowest bits as the highest -/
def shlF (x : Nat) : Nat := x * 2 ^ 58 % 18446744073709551616
theorem shlF_lt (x : Nat) : shlF x < 18446744073709551616 := Nat.mod_lt _ (by decide)
/-- a key's hash of kind k -/
def mixN (k x : Nat) : Nat := if k = 0 then x else if k = 1 then 0 else if k = 2 then mulF x else if k = 3 then fnvH x 8 else if k = 4 then revN x else shlF x
theorem mixN_0 (x : Nat) : mixN 0 x = x := if_pos rfl
theorem mixN_1 (x : Nat) : mixN 1 x = 0 := by unfold mixN; rw [if_neg (by decide), if_pos rfl]
theorem mixN_2 (x : Nat) : mixN 2 x = mulF x := by unfold mixN; rw [if_neg (by decide), if_neg (by decide), if_pos rfl]
theorem mixN_3 (x : Nat) : mixN 3 x = fnvH x 8 := by unfold mixN; rw [if_neg (by decide), if_neg (by decide), if_neg (by decide), if_pos rfl]
theorem mixN_4 (x : Nat) : mixN 4 x = revN x := by unfold mixN; rw [if_neg (by decide), if_neg (by decide), if_neg (by decide), if_neg (by decide), if_pos rfl]
theorem mixN_5 (x : Nat) : mixN 5 x = shlF x := by unfold mixN; rw [if_neg (by decide), if_neg (by decide), if_neg (by decide), if_neg (by decide), if_neg (by decide)]
theorem mixN_lt (k x : Nat) (hx : x < 18446744073709551616) : mixN k x < 18446744073709551616 := by
  unfold mixN
  repeat' split
  · exact hx
  · decide
  · exact mulF_lt _
  · exact fnvH_lt _ _
  · exact revN_lt _
  · exact shlF_lt _
theorem top6_num (x : Nat) : numB ((List.range 64).map fun i => if i < 6 then bitF x (58 + i) else 0) = shlF x := by
  unfold shlF
  apply Nat.eq_of_testBit_eq
  intro j
  have hf : ∀ i, (if i < 6 then bitF x (58 + i) else 0) ≤ 1 := fun i => by split; exact bitF_le _ _; decide
  rw [numB_range_bit _ hf, show (18446744073709551616 : Nat) = 2 ^ 64 from rfl, Nat.testBit_mod_two_pow, Nat.testBit_mul_two_pow]
  by_cases h : j < 64
  · by_cases c : 58 ≤ j
    · rw [if_pos (by omega), bitF_bit, show 63 - (58 + (64 - 1 - j)) = j - 58 by omega]; simp [h, c]
    · rw [if_neg (by omega)]; simp [c]
  · simp [h]
theorem zero_num : numB ((List.range 64).map fun _ => 0) = 0 := by decide

/-! ### Inverses -/
/-- n x is 1 in its e lowest bits -/
def Inv (n x : Int) (e : Nat) : Prop := (2 : Int) ^ e ∣ n * x - 1
theorem pow_dvd2 {a b : Nat} (h : a ≤ b) : (2 : Int) ^ a ∣ 2 ^ b := ⟨2 ^ (b - a), by rw [← Int.pow_add]; congr 1; omega⟩
theorem inv_first (n : Int) (h : n % 2 = 1) : Inv n n 3 := by
  obtain ⟨a, rfl⟩ : ∃ a, n = 2 * a + 1 := ⟨n / 2, by omega⟩
  have : (2 * a + 1) * (2 * a + 1) - 1 = 4 * (a * (a + 1)) := by
    simp only [Int.mul_add, Int.add_mul, Int.mul_one, Int.one_mul]
    have : 2 * a * (2 * a) = 4 * (a * a) := by rw [Int.mul_assoc, Int.mul_left_comm a 2 a, ← Int.mul_assoc]; rfl
    omega
  unfold Inv
  rw [this]
  have h2 : ∃ k, a * (a + 1) = 2 * k := by
    rcases Int.emod_two_eq a with e | e
    · exact ⟨a / 2 * (a + 1), by rw [← Int.mul_assoc, show 2 * (a / 2) = a by omega]⟩
    · exact ⟨a * ((a + 1) / 2), by rw [Int.mul_left_comm, show 2 * ((a + 1) / 2) = a + 1 by omega]⟩
  obtain ⟨k, hk⟩ := h2
  exact ⟨k, by rw [hk]; show 4 * (2 * k) = 8 * k; omega⟩
theorem inv_step (n x y : Int) (e : Nat) (he : 2 * e ≤ 64 ∨ 64 ≤ 2 * e) (h : Inv n x e) (hy : (18446744073709551616 : Int) ∣ y - x * (2 - n * x)) : Inv n y (min (2 * e) 64) := by
  obtain ⟨q, hq⟩ := h
  have h1 : n * (x * (2 - n * x)) - 1 = -((n * x - 1) * (n * x - 1)) := by
    rw [← Int.mul_assoc]
    generalize n * x = z
    simp only [Int.mul_sub, Int.sub_mul, Int.mul_one, Int.one_mul]
    omega
  have h2 : (2 : Int) ^ (min (2 * e) 64) ∣ n * (x * (2 - n * x)) - 1 := by
    rw [h1, hq]
    refine Int.dvd_neg.2 ?_
    have : (2 : Int) ^ e * q * (2 ^ e * q) = 2 ^ (2 * e) * (q * q) := by
      rw [Nat.two_mul, Int.pow_add, Int.mul_assoc, Int.mul_assoc, Int.mul_left_comm q]
    rw [this]
    exact Int.dvd_trans (pow_dvd2 (Nat.min_le_left _ _)) (Int.dvd_mul_right _ _)
  obtain ⟨r, hr⟩ := hy
  generalize x * (2 - n * x) = t at *
  have h3 : n * y - 1 = (n * t - 1) + n * (18446744073709551616 * r) := by
    rw [← hr, Int.mul_sub]; omega
  unfold Inv
  rw [h3]
  refine Int.dvd_add h2 ?_
  rw [Int.mul_left_comm]
  refine Int.dvd_trans ?_ (Int.dvd_mul_right _ _)
  exact pow_dvd2 (b := 64) (Nat.min_le_right (2 * e) 64)
theorem inv_end (n x : Int) (h : Inv n x 64) : n * x % 18446744073709551616 = 1 := by
  have h : (18446744073709551616 : Int) ∣ n * x - 1 := h
  omega
/-- what two numbers with one product with an odd number have -/
theorem mul_inj (n y a b : Int) (hn : n * y % 18446744073709551616 = 1) (ha : 0 ≤ a ∧ a < 18446744073709551616) (hb : 0 ≤ b ∧ b < 18446744073709551616) (h : a * n % 18446744073709551616 = b * n % 18446744073709551616) : a = b := by
  have h1 : (18446744073709551616 : Int) ∣ n * y - 1 := by omega
  have h2 : (18446744073709551616 : Int) ∣ (a - b) * n := by rw [Int.sub_mul]; omega
  obtain ⟨r, hr⟩ := h1
  obtain ⟨s, hs⟩ := h2
  have h3 : (a - b) * n * y = a - b + 18446744073709551616 * ((a - b) * r) := by
    rw [Int.mul_assoc, show n * y = 1 + 18446744073709551616 * r by omega, Int.mul_add, Int.mul_one, Int.mul_left_comm]
  have h4 : (18446744073709551616 : Int) ∣ a - b := by
    refine ⟨s * y - (a - b) * r, ?_⟩
    rw [Int.mul_sub, ← Int.mul_assoc, ← hs]
    omega
  omega
end Go.Proofs.YtplimhllfbdocaaDoor
