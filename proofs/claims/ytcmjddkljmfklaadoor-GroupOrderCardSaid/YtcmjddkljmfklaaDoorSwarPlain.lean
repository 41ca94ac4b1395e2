/- Eight bytes in one word, in plain numbers. No condition. -/
import Derived.WalkKit
import Derived.IntWalk
import Derived.Laws.Bits64
import Derived.Laws.Bits64b
namespace Go.Proofs.YtcmjddkljmfklaaDoor
set_option linter.unusedVariables false
set_option linter.unusedSimpArgs false
open Go.RowKit

/-- lane i of w -/
def ln (w i : Nat) : Nat := w / 2 ^ (8 * i) % 2 ^ 8
/-- the word of eight lanes -/
def ofL (l : Nat → Nat) : Nat := l 0 + 256 * l 1 + 65536 * l 2 + 16777216 * l 3 + 4294967296 * l 4 + 1099511627776 * l 5 + 281474976710656 * l 6 + 72057594037927936 * l 7

theorem ln_lt (w i : Nat) : ln w i < 256 := Nat.mod_lt _ (by decide)
theorem lt8 {i : Nat} (h : i < 8) : i = 0 ∨ i = 1 ∨ i = 2 ∨ i = 3 ∨ i = 4 ∨ i = 5 ∨ i = 6 ∨ i = 7 := by omega
theorem ofL_ln (w : Nat) (h : w < 18446744073709551616) : ofL (ln w) = w := by
  simp only [ofL, ln, Nat.reduceMul, Nat.reducePow]; omega
theorem ln_ofL (l : Nat → Nat) (hl : ∀ i, i < 8 → l i < 256) (i : Nat) (hi : i < 8) : ln (ofL l) i = l i := by
  have h0 := hl 0 (by omega); have h1 := hl 1 (by omega); have h2 := hl 2 (by omega); have h3 := hl 3 (by omega)
  have h4 := hl 4 (by omega); have h5 := hl 5 (by omega); have h6 := hl 6 (by omega); have h7 := hl 7 (by omega)
  rcases lt8 hi with rfl | rfl | rfl | rfl | rfl | rfl | rfl | rfl <;> simp only [ofL, ln, Nat.reduceMul, Nat.reducePow] <;> omega
theorem ofL_lt (l : Nat → Nat) (hl : ∀ i, i < 8 → l i < 256) : ofL l < 18446744073709551616 := by
  have h0 := hl 0 (by omega); have h1 := hl 1 (by omega); have h2 := hl 2 (by omega); have h3 := hl 3 (by omega)
  have h4 := hl 4 (by omega); have h5 := hl 5 (by omega); have h6 := hl 6 (by omega); have h7 := hl 7 (by omega)
  unfold ofL; omega
theorem ofL_congr {l m : Nat → Nat} (h : ∀ i, i < 8 → l i = m i) : ofL l = ofL m := by
  simp only [ofL, h 0 (by omega), h 1 (by omega), h 2 (by omega), h 3 (by omega), h 4 (by omega), h 5 (by omega), h 6 (by omega), h 7 (by omega)]
theorem ln_ext {a b : Nat} (ha : a < 18446744073709551616) (hb : b < 18446744073709551616) (h : ∀ i, i < 8 → ln a i = ln b i) : a = b := by
  rw [← ofL_ln a ha, ← ofL_ln b hb]; exact ofL_congr h
theorem eq_ofL {a : Nat} {l : Nat → Nat} (ha : a < 18446744073709551616) (hl : ∀ i, i < 8 → l i < 256) (h : ∀ i, i < 8 → ln a i = l i) : a = ofL l :=
  ln_ext ha (ofL_lt l hl) fun i hi => by rw [ln_ofL l hl i hi, h i hi]

theorem ln_and (a b i : Nat) : ln (a &&& b) i = ln a i &&& ln b i := by
  apply Nat.eq_of_testBit_eq; intro j
  simp only [ln, Nat.testBit_and, Nat.testBit_mod_two_pow, Nat.testBit_div_two_pow]
  cases decide (j < 8) <;> simp
theorem ln_or (a b i : Nat) : ln (a ||| b) i = ln a i ||| ln b i := by
  apply Nat.eq_of_testBit_eq; intro j
  simp only [ln, Nat.testBit_or, Nat.testBit_mod_two_pow, Nat.testBit_div_two_pow]
  cases decide (j < 8) <;> simp
theorem ln_xor (a b i : Nat) : ln (a ^^^ b) i = ln a i ^^^ ln b i := by
  apply Nat.eq_of_testBit_eq; intro j
  simp only [ln, Nat.testBit_xor, Nat.testBit_mod_two_pow, Nat.testBit_div_two_pow]
  cases decide (j < 8) <;> simp
theorem ln_not (a i : Nat) (ha : a < 18446744073709551616) (hi : i < 8) : ln (18446744073709551615 - a) i = 255 - ln a i := by
  rcases lt8 hi with rfl | rfl | rfl | rfl | rfl | rfl | rfl | rfl <;> simp only [ln, Nat.reduceMul, Nat.reducePow] <;> omega

/-- one byte in every lane -/
def rep (b : Nat) : Nat := 72340172838076673 * b
theorem rep_ofL (b : Nat) : rep b = ofL (fun _ => b) := by unfold rep ofL; dsimp only; omega
theorem ln_rep (b i : Nat) (hb : b < 256) (hi : i < 8) : ln (rep b) i = b := by rw [rep_ofL, ln_ofL _ (fun _ _ => hb) i hi]
theorem rep_lt (b : Nat) (hb : b < 256) : rep b < 18446744073709551616 := by unfold rep; omega
theorem highs_rep : 9259542123273814144 = rep 128 := by decide
theorem lows_rep : 9187201950435737471 = rep 127 := by decide

/-- the mask of lanes -/
def maskB (f : Nat → Bool) : Nat := ofL (fun i => if f i then 128 else 0)
theorem maskB_bd (f : Nat → Bool) : ∀ i, i < 8 → (if f i then 128 else 0) < 256 := fun i _ => by split <;> decide
theorem maskB_lt (f : Nat → Bool) : maskB f < 18446744073709551616 := ofL_lt _ (maskB_bd f)
theorem ln_maskB (f : Nat → Bool) (i : Nat) (hi : i < 8) : ln (maskB f) i = if f i then 128 else 0 := ln_ofL _ (maskB_bd f) i hi

theorem and128 : ∀ x : Fin 256, x.val &&& 128 = if 128 ≤ x.val then 128 else 0 := by decide +kernel
/-- the lanes whose highest bit is 1 -/
def highB (w : Nat) (i : Nat) : Bool := decide (128 ≤ ln w i)
theorem high_mask (w : Nat) (hw : w < 18446744073709551616) : w &&& 9259542123273814144 = maskB (highB w) := by
  refine eq_ofL (Nat.lt_of_le_of_lt Nat.and_le_left hw) (maskB_bd _) fun i hi => ?_
  rw [ln_and, highs_rep, ln_rep 128 i (by decide) hi]
  have := and128 ⟨ln w i, ln_lt w i⟩
  simp only at this
  rw [this]; simp [highB]

theorem zero_byte : ∀ x : Fin 256, (255 - (((x.val &&& 127) + 127) ||| x.val)) &&& 128 = if x.val = 0 then 128 else 0 := by decide +kernel
theorem and127_le : ∀ x : Fin 256, (x.val &&& 127) ≤ 127 := by decide +kernel
/-- the lanes that are b -/
def equalB (w b : Nat) (i : Nat) : Bool := decide (ln w i = b)
/-- the sum of layer 1's Equal -/
theorem equal_sum (x i : Nat) (hi : i < 8) : ln ((x &&& 9187201950435737471) + 9187201950435737471) i = (ln x i &&& 127) + 127 := by
  have h1 : x &&& 9187201950435737471 = ofL (fun i => ln x i &&& 127) := by
    refine eq_ofL (Nat.lt_of_le_of_lt Nat.and_le_right (by decide)) (fun i _ => ?_) fun i hi => ?_
    · have := and127_le ⟨ln x i, ln_lt x i⟩; simp only at this; omega
    · rw [ln_and, lows_rep, ln_rep 127 i (by decide) hi]
  have h2 : (x &&& 9187201950435737471) + 9187201950435737471 = ofL (fun i => (ln x i &&& 127) + 127) := by
    rw [h1]; simp only [ofL]; omega
  rw [h2]
  exact ln_ofL _ (fun i _ => by have := and127_le ⟨ln x i, ln_lt x i⟩; simp only at this; omega) i hi
theorem equal_mask (w b : Nat) (hw : w < 18446744073709551616) (hb : b < 256) :
    (18446744073709551615 - ((((w ^^^ rep b) &&& 9187201950435737471) + 9187201950435737471) ||| (w ^^^ rep b))) &&& 9259542123273814144 = maskB (equalB w b) := by
  have hx : w ^^^ rep b < 18446744073709551616 := Nat.xor_lt_two_pow (n := 64) hw (rep_lt b hb)
  have hs : ((w ^^^ rep b) &&& 9187201950435737471) + 9187201950435737471 < 18446744073709551616 := by
    have : (w ^^^ rep b) &&& 9187201950435737471 ≤ 9187201950435737471 := Nat.and_le_right
    omega
  have ho := Nat.or_lt_two_pow (n := 64) hs hx
  refine eq_ofL (Nat.lt_of_le_of_lt Nat.and_le_right (by decide)) (maskB_bd _) fun i hi => ?_
  rw [ln_and, highs_rep, ln_rep 128 i (by decide) hi, ln_not _ i ho hi, ln_or, equal_sum _ i hi]
  have := zero_byte ⟨ln (w ^^^ rep b) i, ln_lt _ i⟩
  have hxe : ln (w ^^^ rep b) i = ln w i ^^^ b := by rw [ln_xor, ln_rep b i hb hi]
  simp only at this
  rw [this]
  simp only [hxe]
  unfold equalB
  by_cases h : ln w i = b
  · rw [h]; simp
  · have : ln w i ^^^ b ≠ 0 := fun e => h (by
      have h2 : (ln w i ^^^ b) ^^^ b = 0 ^^^ b := by rw [e]
      simpa [Nat.xor_assoc] using h2)
    simp [h, this]

/-! ### one lane set -/
/-- w with b in lane i -/
def setL (w i b : Nat) : Nat := ofL (fun k => if k = i then b else ln w k)
theorem setL_bd (w i b : Nat) (hb : b < 256) : ∀ k, k < 8 → (if k = i then b else ln w k) < 256 := fun k _ => by split <;> first | exact hb | exact ln_lt _ _
theorem setL_lt (w i b : Nat) (hb : b < 256) : setL w i b < 18446744073709551616 := ofL_lt _ (setL_bd w i b hb)
theorem ln_setL (w i b k : Nat) (hb : b < 256) (hk : k < 8) : ln (setL w i b) k = if k = i then b else ln w k := ln_ofL _ (setL_bd w i b hb) k hk
theorem at_ofL (c i : Nat) (hi : i < 8) : c * 2 ^ (8 * i) = ofL (fun k => if k = i then c else 0) := by
  rcases lt8 hi with rfl | rfl | rfl | rfl | rfl | rfl | rfl | rfl <;> simp [ofL] <;> omega
theorem at_lt (c i : Nat) (hc : c < 256) (hi : i < 8) : c * 2 ^ (8 * i) < 18446744073709551616 := by
  rw [at_ofL c i hi]; exact ofL_lt _ fun k _ => by split <;> omega
theorem ln_at (c i k : Nat) (hc : c < 256) (hi : i < 8) (hk : k < 8) : ln (c * 2 ^ (8 * i)) k = if k = i then c else 0 := by
  rw [at_ofL c i hi, ln_ofL _ (fun k _ => by split <;> omega) k hk]
theorem and255 : ∀ x : Fin 256, x.val &&& 255 = x.val := by decide +kernel
theorem set_mask (m i b : Nat) (hm : m < 18446744073709551616) (hi : i < 8) (hb : b < 256) :
    (m &&& (18446744073709551615 - 255 * 2 ^ (8 * i))) ||| (b * 2 ^ (8 * i)) = setL m i b := by
  have hlt : (m &&& (18446744073709551615 - 255 * 2 ^ (8 * i))) < 18446744073709551616 := Nat.lt_of_le_of_lt Nat.and_le_left hm
  refine eq_ofL (Nat.or_lt_two_pow (n := 64) hlt (at_lt b i hb hi)) (setL_bd m i b hb) fun k hk => ?_
  rw [ln_or, ln_and, ln_not _ _ (at_lt 255 i (by decide) hi) hk, ln_at 255 i k (by decide) hi hk, ln_at b i k hb hi hk]
  split
  · simp
  · have := and255 ⟨ln m k, ln_lt m k⟩
    simpa using this

/-! ### bits of words -/
theorem bv_nat (a : Nat) (ha : a < 18446744073709551616) : (BitVec.ofInt 64 (a : Int)).toNat = a := by
  rw [BitVec.ofInt_natCast, BitVec.toNat_ofNat]; exact Nat.mod_eq_of_lt (by omega)
theorem bits_andNot_u64_nat (a b : Nat) (ha : a < 18446744073709551616) (hb : b < 18446744073709551616) :
    bits .andNot .u64 (a : Int) (b : Int) = ((a &&& (18446744073709551615 - b) : Nat) : Int) := by
  show IntKind.u64.wrap ((BitVec.ofInt 64 (a : Int) &&& ~~~ BitVec.ofInt 64 (b : Int)).toNat : Int) = _
  rw [BitVec.toNat_and, BitVec.toNat_not, bv_nat a ha, bv_nat b hb]
  have h : 2 ^ 64 - 1 - b = 18446744073709551615 - b := by omega
  rw [h]
  have hle : a &&& (18446744073709551615 - b) ≤ a := Nat.and_le_left
  rw [IntWalk.u64_in _ (by omega)]
theorem bits_not_u64_nat (a : Nat) (ha : a < 18446744073709551616) : bits .xor .u64 IntKind.u64.max (a : Int) = ((18446744073709551615 - a : Nat) : Int) := by
  show IntKind.u64.wrap ((BitVec.ofInt 64 IntKind.u64.max ^^^ BitVec.ofInt 64 (a : Int)).toNat : Int) = _
  have h : BitVec.ofInt 64 IntKind.u64.max ^^^ BitVec.ofInt 64 (a : Int) = ~~~ BitVec.ofInt 64 (a : Int) := by
    have : BitVec.ofInt 64 IntKind.u64.max = BitVec.allOnes 64 := by decide
    rw [this, BitVec.allOnes_xor]
  rw [h, BitVec.toNat_not, bv_nat a ha]
  have h2 : 2 ^ 64 - 1 - a = 18446744073709551615 - a := by omega
  rw [h2, IntWalk.u64_in _ (by omega)]
theorem bits_highs (a : Nat) (ha : a < 18446744073709551616) : bits .and .u64 (a : Int) 9259542123273814144 = ((maskB (highB a) : Nat) : Int) := by
  have := bits_and_u64_nat a 9259542123273814144 ha (by decide)
  rw [high_mask a ha] at this; exact this
theorem equal_bits (m b : Nat) (hm : m < 18446744073709551616) (hb : b < 256) :
    bits .and .u64 (bits .xor .u64 IntKind.u64.max (bits .or .u64 (IntKind.u64.wrap (bits .andNot .u64 (bits .xor .u64 (m : Int) ((rep b : Nat) : Int)) 9259542123273814144 + 9187201950435737471)) (bits .xor .u64 (m : Int) ((rep b : Nat) : Int)))) 9259542123273814144 = ((maskB (equalB m b) : Nat) : Int) := by
  have hx : m ^^^ rep b < 18446744073709551616 := Nat.xor_lt_two_pow (n := 64) hm (rep_lt b hb)
  rw [bits_xor_u64_nat m (rep b) hm (rep_lt b hb)]
  have e1 : bits .andNot .u64 ((m ^^^ rep b : Nat) : Int) 9259542123273814144 = (((m ^^^ rep b) &&& 9187201950435737471 : Nat) : Int) := bits_andNot_u64_nat _ 9259542123273814144 hx (by decide)
  have hle : (m ^^^ rep b) &&& 9187201950435737471 ≤ 9187201950435737471 := Nat.and_le_right
  rw [e1, IntWalk.u64_in _ (by omega)]
  have hs : ((m ^^^ rep b) &&& 9187201950435737471) + 9187201950435737471 < 18446744073709551616 := by omega
  have e2 := bits_or_u64_nat (((m ^^^ rep b) &&& 9187201950435737471) + 9187201950435737471) (m ^^^ rep b) hs hx
  rw [show ((((m ^^^ rep b) &&& 9187201950435737471 : Nat) : Int) + 9187201950435737471) = ((((m ^^^ rep b) &&& 9187201950435737471) + 9187201950435737471 : Nat) : Int) by omega, e2]
  have ho := Nat.or_lt_two_pow (n := 64) hs hx
  rw [bits_not_u64_nat _ ho]
  have e3 := bits_and_u64_nat (18446744073709551615 - ((((m ^^^ rep b) &&& 9187201950435737471) + 9187201950435737471) ||| (m ^^^ rep b))) 9259542123273814144 (by omega) (by decide)
  rw [equal_mask m b hm hb] at e3
  exact e3
theorem with_bits (m i b : Nat) (hm : m < 18446744073709551616) (hi : i < 8) (hb : b < 256) :
    bits .or .u64 (bits .andNot .u64 (m : Int) (IntKind.u64.wrap (255 * 2 ^ (8 * (i : Int)).toNat))) (IntKind.u64.wrap (IntKind.u64.wrap (b : Int) * 2 ^ (8 * (i : Int)).toNat)) = ((setL m i b : Nat) : Int) := by
  have e0 : (8 * (i : Int)).toNat = 8 * i := by omega
  have l1 := at_lt 255 i (by decide) hi
  have l2 := at_lt b i hb hi
  have c1 : (255 * 2 ^ (8 * i) : Int) = ((255 * 2 ^ (8 * i) : Nat) : Int) := by rw [Int.natCast_mul, Int.natCast_pow]; rfl
  have c2 : ((b : Int) * 2 ^ (8 * i)) = ((b * 2 ^ (8 * i) : Nat) : Int) := by rw [Int.natCast_mul, Int.natCast_pow]; rfl
  rw [e0, IntWalk.u64_in (b : Int) (by omega), c1, c2, IntWalk.u64_in _ (by omega), IntWalk.u64_in _ (by omega), bits_andNot_u64_nat m _ hm l1]
  have hlt : (m &&& (18446744073709551615 - 255 * 2 ^ (8 * i))) < 18446744073709551616 := Nat.lt_of_le_of_lt Nat.and_le_left hm
  rw [bits_or_u64_nat _ _ hlt l2, set_mask m i b hm hi hb]
theorem ln_cast (m i : Nat) : (m : Int) / 2 ^ (8 * i) % 256 = ((ln m i : Nat) : Int) := by unfold ln; rw [Int.natCast_emod, Int.natCast_ediv, Int.natCast_pow]; rfl
end Go.Proofs.YtcmjddkljmfklaaDoor
