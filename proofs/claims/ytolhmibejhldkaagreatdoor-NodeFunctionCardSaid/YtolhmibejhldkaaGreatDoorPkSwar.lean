/- Texts joined: SwarPlain Range Mem Chg Seq Swar EqInts SwarRef SwarFirst SwarIter SwarRef2 SwarCount SwarBack. No condition but those that stand within. -/
import Derived.WalkKit
import Derived.IntWalk
import Derived.Laws.Bits64
import Derived.Laws.Bits64b
import Derived.RangeFuncNested
import Derived.RangeFuncBound
import Derived.RangeFuncCalls
import Derived.RangeFuncLeaves
import Derived.OwnWalkIn
import Derived.TacticsInMore
import Derived.LoopNIn
import Derived.LoopIn
import Derived.Shelf.Abstract
import Derived.Handy
import Derived.Lib.Hide
import Derived.WalkSmall
import Derived.OrdersHeld
import Derived.Deep.MidRow
import Derived.Deep.RegionHeld3
import Derived.KernelRfl
import Derived.Test.YtolhmibejhldkaaGreatDoorProg
import Derived.ChangeKeysEq
import Derived.LoopN
import Derived.Lib.TrailingZeros
import Derived.LoopTactic
import Derived.Deep.Cut
import Derived.Maps.AppendAt
set_option linter.unusedVariables false
set_option linter.unusedSimpArgs false
namespace Go.Proofs.YtolhmibejhldkaaGreatDoor
open Go.RowKit
def ln (w i : Nat) : Nat := w / 2 ^ (8 * i) % 2 ^ 8
def ofL (l : Nat → Nat) : Nat := l 0 + 256 * l 1 + 65536 * l 2 + 16777216 * l 3 + 4294967296 * l 4 + 1099511627776 * l 5 + 281474976710656 * l 6 + 72057594037927936 * l 7
theorem ln_lt (w i : Nat) : ln w i < 256 := Nat.mod_lt _ (by decide)
theorem lt8 {i : Nat} (h : i < 8) : i = 0 ∨ i = 1 ∨ i = 2 ∨ i = 3 ∨ i = 4 ∨ i = 5 ∨ i = 6 ∨ i = 7 := by omega
theorem ofL_ln (w : Nat) (h : w < 18446744073709551616) : ofL (ln w) = w := by
  simp only [ofL, ln, Nat.reduceMul, Nat.reducePow]; omega
theorem ln_ofL (l : Nat → Nat) (hl : ∀ i, i < 8 → l i < 256) (i : Nat) (hi : i < 8) : ln (ofL l) i = l i := by
  have h0 := hl 0 (by omega); have h1 := hl 1 (by omega); have h2 := hl 2 (by omega); have h3 := hl 3 (by omega)
  have h4 := hl 4 (by omega); have h5 := hl 5 (by omega); have h6 := hl 6 (by omega); have h7 := hl 7 (by omega)
  rcases lt8 hi with rfl | rfl | rfl | rfl | rfl | rfl | rfl | rfl <;> simp only [ofL, ln, Nat.reduceMul, Nat.reducePow] <;> omega
theorem ofL_lt (l : Nat → Nat) (hl : ∀ i, i < 8 → l i < 256) : ofL l < 18446744073709551616 := by
  have h0 := hl 0 (by omega); have h1 := hl 1 (by omega); have h2 := hl 2 (by omega); have h3 := hl 3 (by omega)
  have h4 := hl 4 (by omega); have h5 := hl 5 (by omega); have h6 := hl 6 (by omega); have h7 := hl 7 (by omega)
  unfold ofL; omega
theorem ofL_congr {l m : Nat → Nat} (h : ∀ i, i < 8 → l i = m i) : ofL l = ofL m := by
  simp only [ofL, h 0 (by omega), h 1 (by omega), h 2 (by omega), h 3 (by omega), h 4 (by omega), h 5 (by omega), h 6 (by omega), h 7 (by omega)]
theorem ln_ext {a b : Nat} (ha : a < 18446744073709551616) (hb : b < 18446744073709551616) (h : ∀ i, i < 8 → ln a i = ln b i) : a = b := by
  rw [← ofL_ln a ha, ← ofL_ln b hb]; exact ofL_congr h
theorem eq_ofL {a : Nat} {l : Nat → Nat} (ha : a < 18446744073709551616) (hl : ∀ i, i < 8 → l i < 256) (h : ∀ i, i < 8 → ln a i = l i) : a = ofL l :=
  ln_ext ha (ofL_lt l hl) fun i hi => by rw [ln_ofL l hl i hi, h i hi]
theorem ln_and (a b i : Nat) : ln (a &&& b) i = ln a i &&& ln b i := by
  apply Nat.eq_of_testBit_eq; intro j
  simp only [ln, Nat.testBit_and, Nat.testBit_mod_two_pow, Nat.testBit_div_two_pow]
  cases decide (j < 8) <;> simp
theorem ln_or (a b i : Nat) : ln (a ||| b) i = ln a i ||| ln b i := by
  apply Nat.eq_of_testBit_eq; intro j
  simp only [ln, Nat.testBit_or, Nat.testBit_mod_two_pow, Nat.testBit_div_two_pow]
  cases decide (j < 8) <;> simp
theorem ln_xor (a b i : Nat) : ln (a ^^^ b) i = ln a i ^^^ ln b i := by
  apply Nat.eq_of_testBit_eq; intro j
  simp only [ln, Nat.testBit_xor, Nat.testBit_mod_two_pow, Nat.testBit_div_two_pow]
  cases decide (j < 8) <;> simp
theorem ln_not (a i : Nat) (ha : a < 18446744073709551616) (hi : i < 8) : ln (18446744073709551615 - a) i = 255 - ln a i := by
  rcases lt8 hi with rfl | rfl | rfl | rfl | rfl | rfl | rfl | rfl <;> simp only [ln, Nat.reduceMul, Nat.reducePow] <;> omega
def rep (b : Nat) : Nat := 72340172838076673 * b
theorem rep_ofL (b : Nat) : rep b = ofL (fun _ => b) := by unfold rep ofL; dsimp only; omega
theorem ln_rep (b i : Nat) (hb : b < 256) (hi : i < 8) : ln (rep b) i = b := by rw [rep_ofL, ln_ofL _ (fun _ _ => hb) i hi]
theorem rep_lt (b : Nat) (hb : b < 256) : rep b < 18446744073709551616 := by unfold rep; omega
theorem highs_rep : 9259542123273814144 = rep 128 := by decide
theorem lows_rep : 9187201950435737471 = rep 127 := by decide
def maskB (f : Nat → Bool) : Nat := ofL (fun i => if f i then 128 else 0)
theorem maskB_bd (f : Nat → Bool) : ∀ i, i < 8 → (if f i then 128 else 0) < 256 := fun i _ => by split <;> decide
theorem maskB_lt (f : Nat → Bool) : maskB f < 18446744073709551616 := ofL_lt _ (maskB_bd f)
theorem ln_maskB (f : Nat → Bool) (i : Nat) (hi : i < 8) : ln (maskB f) i = if f i then 128 else 0 := ln_ofL _ (maskB_bd f) i hi
theorem and128 : ∀ x : Fin 256, x.val &&& 128 = if 128 ≤ x.val then 128 else 0 := by decide +kernel
def highB (w : Nat) (i : Nat) : Bool := decide (128 ≤ ln w i)
theorem high_mask (w : Nat) (hw : w < 18446744073709551616) : w &&& 9259542123273814144 = maskB (highB w) := by
  refine eq_ofL (Nat.lt_of_le_of_lt Nat.and_le_left hw) (maskB_bd _) fun i hi => ?_
  rw [ln_and, highs_rep, ln_rep 128 i (by decide) hi]
  have := and128 ⟨ln w i, ln_lt w i⟩
  simp only at this
  rw [this]; simp [highB]
theorem zero_byte : ∀ x : Fin 256, (255 - (((x.val &&& 127) + 127) ||| x.val)) &&& 128 = if x.val = 0 then 128 else 0 := by decide +kernel
theorem and127_le : ∀ x : Fin 256, (x.val &&& 127) ≤ 127 := by decide +kernel
def equalB (w b : Nat) (i : Nat) : Bool := decide (ln w i = b)
theorem equal_sum (x i : Nat) (hi : i < 8) : ln ((x &&& 9187201950435737471) + 9187201950435737471) i = (ln x i &&& 127) + 127 := by
  have h1 : x &&& 9187201950435737471 = ofL (fun i => ln x i &&& 127) := by
    refine eq_ofL (Nat.lt_of_le_of_lt Nat.and_le_right (by decide)) (fun i _ => ?_) fun i hi => ?_
    · have := and127_le ⟨ln x i, ln_lt x i⟩; simp only at this; omega
    · rw [ln_and, lows_rep, ln_rep 127 i (by decide) hi]
  have h2 : (x &&& 9187201950435737471) + 9187201950435737471 = ofL (fun i => (ln x i &&& 127) + 127) := by
    rw [h1]; simp only [ofL]; omega
  rw [h2]
  exact ln_ofL _ (fun i _ => by have := and127_le ⟨ln x i, ln_lt x i⟩; simp only at this; omega) i hi
theorem equal_mask (w b : Nat) (hw : w < 18446744073709551616) (hb : b < 256) :
    (18446744073709551615 - ((((w ^^^ rep b) &&& 9187201950435737471) + 9187201950435737471) ||| (w ^^^ rep b))) &&& 9259542123273814144 = maskB (equalB w b) := by
  have hx : w ^^^ rep b < 18446744073709551616 := Nat.xor_lt_two_pow (n := 64) hw (rep_lt b hb)
  have hs : ((w ^^^ rep b) &&& 9187201950435737471) + 9187201950435737471 < 18446744073709551616 := by
    have : (w ^^^ rep b) &&& 9187201950435737471 ≤ 9187201950435737471 := Nat.and_le_right
    omega
  have ho := Nat.or_lt_two_pow (n := 64) hs hx
  refine eq_ofL (Nat.lt_of_le_of_lt Nat.and_le_right (by decide)) (maskB_bd _) fun i hi => ?_
  rw [ln_and, highs_rep, ln_rep 128 i (by decide) hi, ln_not _ i ho hi, ln_or, equal_sum _ i hi]
  have := zero_byte ⟨ln (w ^^^ rep b) i, ln_lt _ i⟩
  have hxe : ln (w ^^^ rep b) i = ln w i ^^^ b := by rw [ln_xor, ln_rep b i hb hi]
  simp only at this
  rw [this]
  simp only [hxe]
  unfold equalB
  by_cases h : ln w i = b
  · rw [h]; simp
  · have : ln w i ^^^ b ≠ 0 := fun e => h (by
      have h2 : (ln w i ^^^ b) ^^^ b = 0 ^^^ b := by rw [e]
      simpa [Nat.xor_assoc] using h2)
    simp [h, this]
def setL (w i b : Nat) : Nat := ofL (fun k => if k = i then b else ln w k)
theorem setL_bd (w i b : Nat) (hb : b < 256) : ∀ k, k < 8 → (if k = i then b else ln w k) < 256 := fun k _ => by split <;> first | exact hb | exact ln_lt _ _
theorem setL_lt (w i b : Nat) (hb : b < 256) : setL w i b < 18446744073709551616 := ofL_lt _ (setL_bd w i b hb)
theorem ln_setL (w i b k : Nat) (hb : b < 256) (hk : k < 8) : ln (setL w i b) k = if k = i then b else ln w k := ln_ofL _ (setL_bd w i b hb) k hk
theorem at_ofL (c i : Nat) (hi : i < 8) : c * 2 ^ (8 * i) = ofL (fun k => if k = i then c else 0) := by
  rcases lt8 hi with rfl | rfl | rfl | rfl | rfl | rfl | rfl | rfl <;> simp [ofL] <;> omega
theorem at_lt (c i : Nat) (hc : c < 256) (hi : i < 8) : c * 2 ^ (8 * i) < 18446744073709551616 := by
  rw [at_ofL c i hi]; exact ofL_lt _ fun k _ => by split <;> omega
theorem ln_at (c i k : Nat) (hc : c < 256) (hi : i < 8) (hk : k < 8) : ln (c * 2 ^ (8 * i)) k = if k = i then c else 0 := by
  rw [at_ofL c i hi, ln_ofL _ (fun k _ => by split <;> omega) k hk]
theorem and255 : ∀ x : Fin 256, x.val &&& 255 = x.val := by decide +kernel
theorem set_mask (m i b : Nat) (hm : m < 18446744073709551616) (hi : i < 8) (hb : b < 256) :
    (m &&& (18446744073709551615 - 255 * 2 ^ (8 * i))) ||| (b * 2 ^ (8 * i)) = setL m i b := by
  have hlt : (m &&& (18446744073709551615 - 255 * 2 ^ (8 * i))) < 18446744073709551616 := Nat.lt_of_le_of_lt Nat.and_le_left hm
  refine eq_ofL (Nat.or_lt_two_pow (n := 64) hlt (at_lt b i hb hi)) (setL_bd m i b hb) fun k hk => ?_
  rw [ln_or, ln_and, ln_not _ _ (at_lt 255 i (by decide) hi) hk, ln_at 255 i k (by decide) hi hk, ln_at b i k hb hi hk]
  split
  · simp
  · have := and255 ⟨ln m k, ln_lt m k⟩
    simpa using this
theorem bv_nat (a : Nat) (ha : a < 18446744073709551616) : (BitVec.ofInt 64 (a : Int)).toNat = a := by
  rw [BitVec.ofInt_natCast, BitVec.toNat_ofNat]; exact Nat.mod_eq_of_lt (by omega)
theorem bits_andNot_u64_nat (a b : Nat) (ha : a < 18446744073709551616) (hb : b < 18446744073709551616) :
    bits .andNot .u64 (a : Int) (b : Int) = ((a &&& (18446744073709551615 - b) : Nat) : Int) := by
  show IntKind.u64.wrap ((BitVec.ofInt 64 (a : Int) &&& ~~~ BitVec.ofInt 64 (b : Int)).toNat : Int) = _
  rw [BitVec.toNat_and, BitVec.toNat_not, bv_nat a ha, bv_nat b hb]
  have h : 2 ^ 64 - 1 - b = 18446744073709551615 - b := by omega
  rw [h]
  have hle : a &&& (18446744073709551615 - b) ≤ a := Nat.and_le_left
  rw [IntWalk.u64_in _ (by omega)]
theorem bits_not_u64_nat (a : Nat) (ha : a < 18446744073709551616) : bits .xor .u64 IntKind.u64.max (a : Int) = ((18446744073709551615 - a : Nat) : Int) := by
  show IntKind.u64.wrap ((BitVec.ofInt 64 IntKind.u64.max ^^^ BitVec.ofInt 64 (a : Int)).toNat : Int) = _
  have h : BitVec.ofInt 64 IntKind.u64.max ^^^ BitVec.ofInt 64 (a : Int) = ~~~ BitVec.ofInt 64 (a : Int) := by
    have : BitVec.ofInt 64 IntKind.u64.max = BitVec.allOnes 64 := by decide
    rw [this, BitVec.allOnes_xor]
  rw [h, BitVec.toNat_not, bv_nat a ha]
  have h2 : 2 ^ 64 - 1 - a = 18446744073709551615 - a := by omega
  rw [h2, IntWalk.u64_in _ (by omega)]
theorem bits_highs (a : Nat) (ha : a < 18446744073709551616) : bits .and .u64 (a : Int) 9259542123273814144 = ((maskB (highB a) : Nat) : Int) := by
  have := bits_and_u64_nat a 9259542123273814144 ha (by decide)
  rw [high_mask a ha] at this; exact this
theorem equal_bits (m b : Nat) (hm : m < 18446744073709551616) (hb : b < 256) :
    bits .and .u64 (bits .xor .u64 IntKind.u64.max (bits .or .u64 (IntKind.u64.wrap (bits .andNot .u64 (bits .xor .u64 (m : Int) ((rep b : Nat) : Int)) 9259542123273814144 + 9187201950435737471)) (bits .xor .u64 (m : Int) ((rep b : Nat) : Int)))) 9259542123273814144 = ((maskB (equalB m b) : Nat) : Int) := by
  have hx : m ^^^ rep b < 18446744073709551616 := Nat.xor_lt_two_pow (n := 64) hm (rep_lt b hb)
  rw [bits_xor_u64_nat m (rep b) hm (rep_lt b hb)]
  have e1 : bits .andNot .u64 ((m ^^^ rep b : Nat) : Int) 9259542123273814144 = (((m ^^^ rep b) &&& 9187201950435737471 : Nat) : Int) := bits_andNot_u64_nat _ 9259542123273814144 hx (by decide)
  have hle : (m ^^^ rep b) &&& 9187201950435737471 ≤ 9187201950435737471 := Nat.and_le_right
  rw [e1, IntWalk.u64_in _ (by omega)]
  have hs : ((m ^^^ rep b) &&& 9187201950435737471) + 9187201950435737471 < 18446744073709551616 := by omega
  have e2 := bits_or_u64_nat (((m ^^^ rep b) &&& 9187201950435737471) + 9187201950435737471) (m ^^^ rep b) hs hx
  rw [show ((((m ^^^ rep b) &&& 9187201950435737471 : Nat) : Int) + 9187201950435737471) = ((((m ^^^ rep b) &&& 9187201950435737471) + 9187201950435737471 : Nat) : Int) by omega, e2]
  have ho := Nat.or_lt_two_pow (n := 64) hs hx
  rw [bits_not_u64_nat _ ho]
  have e3 := bits_and_u64_nat (18446744073709551615 - ((((m ^^^ rep b) &&& 9187201950435737471) + 9187201950435737471) ||| (m ^^^ rep b))) 9259542123273814144 (by omega) (by decide)
  rw [equal_mask m b hm hb] at e3
  exact e3
theorem with_bits (m i b : Nat) (hm : m < 18446744073709551616) (hi : i < 8) (hb : b < 256) :
    bits .or .u64 (bits .andNot .u64 (m : Int) (IntKind.u64.wrap (255 * 2 ^ (8 * (i : Int)).toNat))) (IntKind.u64.wrap (IntKind.u64.wrap (b : Int) * 2 ^ (8 * (i : Int)).toNat)) = ((setL m i b : Nat) : Int) := by
  have e0 : (8 * (i : Int)).toNat = 8 * i := by omega
  have l1 := at_lt 255 i (by decide) hi
  have l2 := at_lt b i hb hi
  have c1 : (255 * 2 ^ (8 * i) : Int) = ((255 * 2 ^ (8 * i) : Nat) : Int) := by rw [Int.natCast_mul, Int.natCast_pow]; rfl
  have c2 : ((b : Int) * 2 ^ (8 * i)) = ((b * 2 ^ (8 * i) : Nat) : Int) := by rw [Int.natCast_mul, Int.natCast_pow]; rfl
  rw [e0, IntWalk.u64_in (b : Int) (by omega), c1, c2, IntWalk.u64_in _ (by omega), IntWalk.u64_in _ (by omega), bits_andNot_u64_nat m _ hm l1]
  have hlt : (m &&& (18446744073709551615 - 255 * 2 ^ (8 * i))) < 18446744073709551616 := Nat.lt_of_le_of_lt Nat.and_le_left hm
  rw [bits_or_u64_nat _ _ hlt l2, set_mask m i b hm hi hb]
theorem ln_cast (m i : Nat) : (m : Int) / 2 ^ (8 * i) % 256 = ((ln m i : Nat) : Int) := by unfold ln; rw [Int.natCast_emod, Int.natCast_ediv, Int.natCast_pow]; rfl
end Go.Proofs.YtolhmibejhldkaaGreatDoor

namespace Go.Proofs.YtolhmibejhldkaaGreatDoor
open Go.RowKit
theorem wide_depth : (Fence.wide.depth.isSome = true) = False := by simp [Fence.wide]
theorem round_depth (l : Nat) : ((Fence.wide.inRound l).depth.isSome = true) = False := by simp [Fence.wide, Fence.inRound]
theorem wide_fn (f : Nat) : Fence.wide.fn f = True := by simp [Fence.wide]
theorem round_fn (l f : Nat) : (Fence.wide.inRound l).fn f = True := by simp [Fence.wide, Fence.inRound]
def Same (S : Nat → Prop) (W W' : World) : Prop := ∀ b, S b → W'.heap[b]? = W.heap[b]?
theorem Same.refl (S : Nat → Prop) (W : World) : Same S W W := fun _ _ => rfl
theorem Same.trans {S : Nat → Prop} {A B C : World} (h : Same S A B) (k : Same S B C) : Same S A C := fun b hb => (k b hb).trans (h b hb)
theorem Same.of_below {S : Nat → Prop} {n : Nat} {W W' : World} (h : Below n W W') (hS : ∀ b, S b → b < n) : Same S W W' := fun b hb => h.block b (hS b hb)
theorem Same.cell {S : Nat → Prop} {W W' : World} (h : Same S W W') {a : Addr} (ha : S a.block) : W'.cell? a = W.cell? a := World.cell?_of_block (h _ ha)
theorem Same.putObj {S : Nat → Prop} {W : World} {l : Nat} (o' : Obj) (hl : ¬ S l) : Same S W (W.putObj l o') := fun b hb => World.putObj_heap_other (fun e => hl (e ▸ hb))
theorem Same.setCell {S : Nat → Prop} {W : World} {a : Addr} (v : Value) (ha : ¬ S a.block) : Same S W (W.setCell a v) := fun b hb => Below.heap_setCell W a v b (fun e => ha (e ▸ hb))
theorem Same.alloc {S : Nat → Prop} {W : World} (o : Obj) (hS : ∀ b, S b → b < W.heap.size) : Same S W (W.alloc o) := fun b hb => Below.heap_alloc W o b (hS b hb)
theorem Same.grown {S : Nat → Prop} {W W' : World} {row : Option Nat} (hg : W.grownBy W' row) (hS : ∀ b, S b → b < W.heap.size) (hr : ∀ b, S b → some b ≠ row) : Same S W W' := fun b hb => hg.block b (hS b hb) (hr b hb)
def GivesAt (P : Program) (g : Nat) (lb : Array Value) (encs : Nat → Array Value) (N : Nat) (S : Nat → Prop) (w : World) : Prop :=
  ∀ (l : Nat) (J : Nat → World → Prop) (Jx : World → Prop) (W : World), Same S w W →
    (∀ i A B, J i A → A.grownBy B none → J i B) →
    (∀ i W1, i < N → J i W1 → Same S W W1 → YieldAt Fence.wide 0 P l (encs i) W1 fun e W' =>
      (e = .returned (.bool true) ∧ J (i + 1) W' ∧ Same S W1 W') ∨ (e = .returned (.bool false) ∧ Jx W')) →
    (∀ A B, Jx A → A.grownBy B none → Jx B) →
    J 0 W →
    CallsIn Fence.wide 0 P g (#[.func (.yield l) #[] #[]] ++ lb) W fun e W' => (∃ v, e = .returned v) ∧ (J N W' ∨ Jx W')
theorem GivesAt.later {P : Program} {g : Nat} {lb : Array Value} {encs : Nat → Array Value} {N : Nat} {S : Nat → Prop} {w W : World} (h : GivesAt P g lb encs N S w) (hb : Same S w W) : GivesAt P g lb encs N S W :=
  fun l J Jx V hV => h l J Jx V (hb.trans hV)
def roundEnd (B : Nat) (S : Nat → Prop) (I : Nat → World → Prop) (Ix : Code → World → Prop) (i : Nat) (W : World) : Exit → Act → World → Prop
  | .normal, _, W' => KeepsFrom B W W' ∧ Same S W W' ∧ I (i + 1) W'
  | .ret, _, W' => KeepsFrom B W W' ∧ Ix .ret W'
  | .exit id, _, W' => KeepsFrom B W W' ∧ Ix (.exit id) W'
  | .goto t, _, W' => KeepsFrom B W W' ∧ Ix (.goto t) W'
  | .panic _, _, _ => False
  | .outgrown, _, _ => False
theorem below_putObj {m : Nat} {W : World} {l : Nat} {o : Obj} (o' : Obj) (hB : m ≤ l) (hl : W.heap[l]? = some o) : Below m W (W.putObj l o') :=
  (Below.refl m W).grown (grownBy_putObj' W l o') (by have := (Array.getElem?_eq_some_iff.1 hl).1; omega) (fun k e => by cases e; exact hB)
theorem wp_rangeAt {P : Program} {g : Operand} {ps : Array Tmp} {assign body : Code} {Q : Exit → Act → World → Prop} {a : Act} {w : World} {gf : Nat} {lb : Array Value} {encs : Nat → Array Value} {N : Nat} {S : Nat → Prop}
    (hg : a.eval g = .func (.func gf) #[] lb) (eg : ∀ args w, (callFunc gf args).run P w = .ok (.enter gf args) w)
    (hseq : GivesAt P gf lb encs N S w) (hS : ∀ b, S b → b < w.heap.size) (hps : ∀ i, (encs i).size = ps.size)
    (I : Nat → World → Prop) (Ix : Code → World → Prop) (hI : OwnFrom w.heap.size I) (hIx : OwnFrom w.heap.size Ix) (h0 : I 0 w) (Ax : Array Value → Nat → Act → World → Prop)
    (hassign : ∀ (l i : Nat) (W : World) (K : Act → World → Prop), I i W → i < N → w.heap.size + 2 ≤ W.heap.size → (∀ a₁ W1, KeepsFrom w.heap.size W W1 → Same S W W1 → I i W1 → Ax a.tmps i a₁ W1 → K a₁ W1) →
      assign.wpIn (Fence.wide.inRound l) 0 P (Exit.then K (fun _ _ _ => False)) { tmps := (ps.zip (encs i)).foldl (fun t (p, v) => t.setIfInBounds p v) a.tmps, defers := [] } W)
    (hAx : OwnFrom w.heap.size (fun (p : Nat × Act) W => Ax a.tmps p.1 p.2 W))
    (hbody : ∀ (l i : Nat) (a₁ : Act) (W : World), I i W → i < N → w.heap.size + 2 ≤ W.heap.size → Ax a.tmps i a₁ W → body.wpIn (Fence.wide.inRound l) 0 P (roundEnd w.heap.size S I Ix i W) a₁ W)
    (hdone : ∀ (D : Nat) (W : World), w.heap.size ≤ D → I N W → W.heap[D]? = some (.deferred (some [])) → Q .normal { a with defers := { target := .collected D, args := #[] } :: a.defers } W)
    (hstop : ∀ (D : Nat) (c : Code) (W : World), w.heap.size ≤ D → Ix c W → W.heap[D]? = some (.deferred (some [])) → c.wpIn Fence.wide 0 P Q { a with defers := { target := .collected D, args := #[] } :: a.defers } W) :
    (Code.rangeFunc g ps assign body).wpIn Fence.wide 0 P Q a w := by
  refine wpIn_rangeFunc ?_
  intro fn hfn
  let rc : LoopState → Option Code → Loop := fun st pe => { state := st, pending := pe, fn, tmps := a.tmps, params := ps, assign, body, defers := w.heap.size }
  obtain ⟨V, hV⟩ : ∃ V, (w.alloc (.deferred (some []))).alloc (.loop (rc .ready none)) = V := ⟨_, rfl⟩
  have sV : V.heap.size = w.heap.size + 2 := by rw [← hV]; simp
  have rV : V.heap[w.heap.size + 1]? = some (.loop (rc .ready none)) := by
    rw [← hV]; have := World.alloc_heap_new (w.alloc (.deferred (some []))) (.loop (rc .ready none)); rwa [World.size_alloc] at this
  have dV : V.heap[w.heap.size]? = some (.deferred (some [])) := by
    rw [← hV]; exact (Below.heap_alloc _ _ _ (by simp)).trans (World.alloc_heap_new w _)
  have bV : Below w.heap.size w V := by rw [← hV]; exact ((Below.refl _ w).alloc (Nat.le_refl _) _).alloc (by simp) _
  have nS : ¬ S (w.heap.size + 1) := fun h => by have := hS _ h; omega
  have iV : I 0 V := by rw [← hV]; exact hI.alloc _ (hI.alloc _ h0)
  refine ⟨w.heap.size + 1, [{ target := .collected w.heap.size, args := #[] }], V, { target := .fn (.func gf) lb, args := #[.func (.yield (w.heap.size + 1)) #[] #[]] }, V, gf,
    #[.func (.yield (w.heap.size + 1)) #[] #[]] ++ lb, V, ?_, ?_, ?_, ?_, fun h => by simp [Fence.wide] at h, ?_⟩
  · rw [← hV]; exact run_enterLoop_outer _ _ _ _ _
  · simp only [resolve, hg]
    simp [go_sem]
  · intro f' _; trivial
  · simp [invoke, go_sem, eg]
  refine (hseq (w.heap.size + 1)
    (fun i W => I i W ∧ W.heap[w.heap.size + 1]? = some (.loop (rc .ready none)) ∧ W.heap[w.heap.size]? = some (.deferred (some [])) ∧ w.heap.size + 2 ≤ W.heap.size)
    (fun W => ∃ c, Ix c W ∧ W.heap[w.heap.size + 1]? = some (.loop (rc .done (some c))) ∧ W.heap[w.heap.size]? = some (.deferred (some [])))
    V (Same.of_below bV hS) ?_ ?_ ?_ ⟨iV, rV, dV, by omega⟩).mono ?_
  · rintro i A B ⟨h1, h2, h3, h4⟩ hg'
    exact ⟨hI i A B none h1 hg' (fun r e => by cases e), (hg'.block _ (Array.getElem?_eq_some_iff.1 h2).1 (by simp)).trans h2, (hg'.block _ (Array.getElem?_eq_some_iff.1 h3).1 (by simp)).trans h3, Nat.le_trans h4 hg'.size⟩
  ·
    rintro i W hlt ⟨hi, hl, hk, hs⟩ hb1
    have hl' : w.heap.size + 1 < W.heap.size := (Array.getElem?_eq_some_iff.1 hl).1
    have hy := run_yield (P := P) (args := encs i) hl (hps i)
    refine ⟨fn, _, assign, body, hy, roundIn_of_wpIn hfn (hassign (w.heap.size + 1) i W _ hi hlt hs ?_)⟩
    intro a₁ W0 kf0 bl0 hi0 hax0
    have hl0 : W0.heap[w.heap.size + 1]? = some (.loop (rc .ready none)) := kf0.same _ _ (by omega) hl rfl
    have hk0 : W0.heap[w.heap.size]? = some (.deferred (some [])) := kf0.same _ _ (Nat.le_refl _) hk rfl
    have hz0 : w.heap.size + 1 < W0.heap.size := (Array.getElem?_eq_some_iff.1 hl0).1
    refine ⟨_, run_beginRound hl0 rfl, ?_⟩
    obtain ⟨W2, hW2⟩ : ∃ W2, W0.putObj (w.heap.size + 1) (.loop { rc .ready none with state := .busy }) = W2 := ⟨_, rfl⟩
    have hl2 : W2.heap[w.heap.size + 1]? = some (.loop { rc .ready none with state := .busy }) := by rw [← hW2]; exact World.putObj_heap_same hz0
    have hk2 : W2.heap[w.heap.size]? = some (.deferred (some [])) := by rw [← hW2]; exact (World.putObj_heap_other (by omega)).trans hk0
    have hs2 : W2.heap.size = W0.heap.size := by rw [← hW2]; simp
    have bl2 : Same S W0 W2 := by rw [← hW2]; exact Same.putObj _ nS
    have hi2 : I i W2 := by rw [← hW2]; exact hI.putObj _ hi0 (by omega) hl0 rfl
    have ha2 : Ax a.tmps i a₁ W2 := by rw [← hW2]; exact hAx.putObj (s := (i, a₁)) _ hax0 (by omega) hl0 rfl
    show body.wpIn _ _ _ _ _ (W0.putObj (w.heap.size + 1) (.loop { rc .ready none with state := .busy }))
    rw [hW2]
    refine wpIn_mono (hbody (w.heap.size + 1) i a₁ W2 hi2 hlt (by omega) ha2) ?_
    have fin : ∀ (jump : Option Code) (W3 : World), KeepsFrom w.heap.size W2 W3 →
        (Instr.endRound (w.heap.size + 1) jump).run P W3 = .ok (.bool jump.isNone) (W3.putObj (w.heap.size + 1) (.loop (rc (if jump.isNone then .ready else .done) jump))) ∧
        W3.heap[w.heap.size + 1]? = some (.loop { rc .ready none with state := .busy }) ∧
        (W3.putObj (w.heap.size + 1) (.loop (rc (if jump.isNone then .ready else .done) jump))).heap[w.heap.size + 1]? = some (.loop (rc (if jump.isNone then .ready else .done) jump)) ∧
        (W3.putObj (w.heap.size + 1) (.loop (rc (if jump.isNone then .ready else .done) jump))).heap[w.heap.size]? = some (.deferred (some [])) := fun jump W3 hk3 => by
      have hl3 := hk3.same _ _ (by omega) hl2 rfl
      exact ⟨run_endRound (P := P) jump hl3, hl3, World.putObj_heap_same (Array.getElem?_eq_some_iff.1 hl3).1, (World.putObj_heap_other (by omega)).trans (hk3.same _ _ (Nat.le_refl _) hk2 rfl)⟩
    rintro e a3 W3 hp
    cases e with
    | normal =>
      obtain ⟨hk3, hb3, hi3⟩ := hp
      obtain ⟨hr, hl3, hl4, hk4⟩ := fin none W3 hk3
      refine ⟨_, _, hr, .inl ⟨rfl, ⟨hI.putObj _ hi3 (by omega) hl3 rfl, hl4, hk4, by have := hk3.size; simp; omega⟩, ?_⟩⟩
      exact ((bl0.trans bl2).trans hb3).trans (Same.putObj _ nS)
    | ret =>
      obtain ⟨hk3, hi3⟩ := hp
      obtain ⟨hr, hl3, hl4, hk4⟩ := fin (some .ret) W3 hk3
      exact ⟨_, _, hr, .inr ⟨rfl, .ret, hIx.putObj _ hi3 (by omega) hl3 rfl, hl4, hk4⟩⟩
    | exit id =>
      obtain ⟨hk3, hi3⟩ := hp
      obtain ⟨hr, hl3, hl4, hk4⟩ := fin (some (.exit id)) W3 hk3
      exact ⟨_, _, hr, .inr ⟨rfl, .exit id, hIx.putObj _ hi3 (by omega) hl3 rfl, hl4, hk4⟩⟩
    | goto t =>
      obtain ⟨hk3, hi3⟩ := hp
      obtain ⟨hr, hl3, hl4, hk4⟩ := fin (some (.goto t)) W3 hk3
      exact ⟨_, _, hr, .inr ⟨rfl, .goto t, hIx.putObj _ hi3 (by omega) hl3 rfl, hl4, hk4⟩⟩
    | panic ch => exact hp.elim
    | outgrown => exact hp.elim
  · rintro A B ⟨c, h1, h2, h3⟩ hg'
    exact ⟨c, hIx c A B none h1 hg' (fun r e => by cases e), (hg'.block _ (Array.getElem?_eq_some_iff.1 h2).1 (by simp)).trans h2, (hg'.block _ (Array.getElem?_eq_some_iff.1 h3).1 (by simp)).trans h3⟩
  ·
    rintro e W2 ⟨⟨v, rfl⟩, (⟨hi, hl, hk, _⟩ | ⟨c, hi, hl, hk⟩)⟩
    · exact ⟨none, _, run_endLoop (P := P) hl (by simp [rc]), hdone _ _ (Nat.le_refl _) (hI.putObj _ hi (by omega) hl rfl) ((World.putObj_heap_other (by omega)).trans hk)⟩
    · exact ⟨some c, _, run_endLoop (P := P) hl (by simp [rc]), hstop _ c _ (Nat.le_refl _) (hIx.putObj _ hi (by omega) hl rfl) ((World.putObj_heap_other (by omega)).trans hk)⟩
end Go.Proofs.YtolhmibejhldkaaGreatDoor

namespace Go.Proofs.YtolhmibejhldkaaGreatDoor
open Go.RowKit
def Blk (W : World) (B : Nat) (T : TypeId) (c : Array Value) : Prop := W.heap[B]? = some (.cells c T (0, 0))
theorem Blk.lt {W : World} {B : Nat} {T : TypeId} {c : Array Value} (h : Blk W B T c) : B < W.heap.size := (Array.getElem?_eq_some_iff.1 h).1
theorem Blk.cell {W : World} {B : Nat} {T : TypeId} {c : Array Value} (h : Blk W B T c) (j : Nat) : W.cell? ⟨B, j, none⟩ = c[j]? := by simp [World.cell?, show W.heap[B]? = _ from h]
theorem Blk.frozen {W : World} {B : Nat} {T : TypeId} {c : Array Value} (h : Blk W B T c) (j : Nat) : W.frozen? ⟨B, j, none⟩ = false := by simp [World.frozen?, show W.heap[B]? = _ from h]
theorem Blk.new (W : World) (T : TypeId) (c : Array Value) : Blk (W.alloc (.cells c T)) W.heap.size T c := World.alloc_heap_new W _
theorem Blk.new_at {W : World} {T : TypeId} {c : Array Value} {B : Nat} (h : B = W.heap.size) : Blk (W.alloc (.cells c T)) B T c := by subst h; exact World.alloc_heap_new W _
theorem Blk.kept {W W' : World} {row : Option Nat} {B : Nat} {T : TypeId} {c : Array Value} (h : Blk W B T c) (hg : W.grownBy W' row) (hne : some B ≠ row) : Blk W' B T c := (hg.block B h.lt hne).trans h
theorem Blk.alloc {W : World} {B : Nat} {T : TypeId} {c : Array Value} (h : Blk W B T c) (o : Obj) : Blk (W.alloc o) B T c := h.kept (World.grownBy_alloc W o none) (by simp)
theorem Blk.drew {W : World} {B : Nat} {T : TypeId} {c : Array Value} (h : Blk W B T c) : Blk W.drew B T c := h
theorem Blk.below {n : Nat} {W W' : World} {B : Nat} {T : TypeId} {c : Array Value} (h : Blk W B T c) (hb : Below n W W') (hB : B < n) : Blk W' B T c := (hb.block B hB).trans h
theorem Blk.set {W : World} {B : Nat} {T : TypeId} {c : Array Value} (h : Blk W B T c) (j : Nat) (v : Value) : Blk (W.setCell ⟨B, j, none⟩ v) B T (c.setIfInBounds j v) := by
  obtain ⟨hlt, hk⟩ := Array.getElem?_eq_some_iff.1 h
  show (W.heap.modify B _)[B]? = _
  rw [Array.getElem?_eq_getElem (by rw [Array.size_modify]; exact hlt), Array.getElem_modify_self, hk]
  rfl
theorem Blk.other {W : World} {B B' : Nat} {T : TypeId} {c : Array Value} (h : Blk W B T c) (hne : B ≠ B') (j : Nat) (v : Value) : Blk (W.setCell ⟨B', j, none⟩ v) B T c :=
  (Below.heap_setCell W ⟨B', j, none⟩ v B hne).trans h
theorem Blk.putObj {W : World} {B : Nat} {T : TypeId} {c : Array Value} (h : Blk W B T c) {l : Nat} (hne : B ≠ l) (o : Obj) : Blk (W.putObj l o) B T c := (World.putObj_heap_other hne).trans h
theorem Blk.boxed {W : World} {B : Nat} {T : TypeId} {v : Value} (h : Blk W B T #[v]) : Boxed W B T v := h
theorem blk_own {β : Type} (B : β → Nat) (T : β → TypeId) (c : β → Array Value) : Own (fun s W => Blk W (B s) (T s) (c s)) := by
  intro s X Y row h hg hrow
  refine h.kept hg fun e => ?_
  obtain ⟨o, ho, hc⟩ := hrow (B s) e.symm
  rw [show X.heap[B s]? = _ from h] at ho; cases ho; cases hc
theorem own_and {β : Type} {I I' : β → World → Prop} (h : Own I) (h' : Own I') : Own (fun s W => I s W ∧ I' s W) := fun s W W' row hs hg hr => ⟨h s W W' row hs.1 hg hr, h' s W W' row hs.2 hg hr⟩
theorem own_pure {β : Type} (p : β → Prop) : Own (fun s (_ : World) => p s) := fun _ _ _ _ hs _ _ => hs
def ReadsInts (w : World) (v : Value) (xs : List Int) : Prop :=
  ∃ a cap, v = .slice a xs.length cap ∧ (xs ≠ [] → ∃ b off, a = some ⟨b, off, none⟩ ∧ ∀ i (h : i < xs.length), w.cell? ⟨b, off + i, none⟩ = some (.int .i64 xs[i]))
theorem ReadsInts.later {w w' : World} {v : Value} {xs : List Int} (h : ReadsInts w v xs) (hb : Below w.heap.size w w') : ReadsInts w' v xs := by
  obtain ⟨a, cap, rfl, hx⟩ := h
  refine ⟨a, cap, rfl, fun hne => ?_⟩
  obtain ⟨b, off, rfl, hc⟩ := hx hne
  exact ⟨b, off, rfl, fun i hi => (hb.cell (p := ⟨b, off + i, none⟩) (World.block_lt_of_cell? w ⟨b, off + i, none⟩ (hc i hi))).trans (hc i hi)⟩
section laws
variable {P : Program} {F : Fence} {n : Nat} {ops : Array Oper} {rest : List Oper} {o : Oper} {a : Act} {Q : Exit → Act → World → Prop} {w w' : World} {v : Value}
theorem wpList_unit (hgd : o.guard = none) (hrun : (execOp a.eval o).run P w = .ok .skip w')
    (h : wpList P ops Q rest (a.put o.dst undef) w') : wpList P ops Q (o :: rest) a w := by
  refine wpList_plain hgd fun K hK => ?_
  unfold Oper.wp
  rw [hrun]
  exact hK _ _ h
theorem exec_storeAll {ρ : Operand → Value} {t : TypeId} {x y : Operand} (hop : o.op = .store t x y) {g : Nat} {cs cur : Array Value} {T : TypeId} (hx : ρ x = .pointer (some ⟨g, 0, none⟩)) (hy : ρ y = .agg cs)
    (hg : Blk w g T cur) (hs : cs.size = cur.size) (hi : (sizeOf t).run P w = .ok cs.size w) (h1 : ∀ v ∈ cs.toList, v.oneCell' = true) :
    (execOp ρ o).run P w = .ok .skip (w.setRow g cs) := by
  have h := run_storeCells_at P g 0 T cs.toList 0 cur w hg (by simp [hs]) h1
  simp only [Nat.add_zero, List.take_zero, List.nil_append, Nat.zero_add] at h
  rw [List.drop_of_length_le (by simp [hs]), List.append_nil] at h
  simp [execOp, hop, hx, hy, Instr.storeAt, Instr.sureAddr, storeVar, Sem.run_bind, hi, Value.cells, h, Result.andThen]
end laws
section ends
variable {P : Program} {F : Fence} {n : Nat} {fn : Func} {R : Ending → World → Prop} {tmps : Array Value} {W : World} {D : Nat}
theorem end_mark {v : Value} (hK : W.heap[D]? = some (.deferred (some []))) (hr : (results fn tmps).run P (W.putObj D (.deferred none)) = .ok v (W.putObj D (.deferred none)))
    (hR : R (.returned v) (W.putObj D (.deferred none))) (e : Exit) (he : e = .ret ∨ e = .normal) : bodyPostM F n P fn R e { tmps := tmps, defers := [{ target := Target.collected D, args := #[] }] } W := by
  rcases he with rfl | rfl
  · exact ⟨by simp, .inl ⟨_, _, rfl, run_takeDeferred hK, ⟨v, hr, hR⟩⟩⟩
  · exact ⟨by simp, .inl ⟨_, _, rfl, run_takeDeferred hK, ⟨v, hr, hR⟩⟩⟩
theorem results_cell1 {p : Tmp} {ty : TypeId} {v : Value} {a : Addr} (hres : fn.results = #[.cell p ty]) (hp : tmps.getD p undef = .pointer (some a)) (hc : W.cell? a = some v) (hag : ∀ w, (isAgg ty).run P w = .ok false w) :
    (results fn tmps).run P W = .ok v W := by
  have hp' : tmps[p]?.getD undef = .pointer (some a) := by simpa using hp
  simp [results, hres, hp', asAddr, loadVar, Sem.run_bind, hag, Result.andThen, hc, go_sem]
end ends
end Go.Proofs.YtolhmibejhldkaaGreatDoor

namespace Go.Proofs.YtolhmibejhldkaaGreatDoor
open Go.RowKit
structure Chg (X : Nat → Prop) (w w' : World) : Prop where
  os : w'.os = w.os
  tape : w'.tape = w.tape
  output : w'.output = w.output
  size : w.heap.size ≤ w'.heap.size
  block : ∀ k, k < w.heap.size → ¬ X k → w'.heap[k]? = w.heap[k]?
theorem Chg.refl (X : Nat → Prop) (w : World) : Chg X w w := ⟨rfl, rfl, rfl, Nat.le_refl _, fun _ _ _ => rfl⟩
theorem Chg.trans' {X Y : Nat → Prop} {a b c : World} (h : Chg X a b) (k : Chg Y b c) (hs : ∀ i, i < a.heap.size → Y i → X i) : Chg X a c :=
  ⟨k.os.trans h.os, k.tape.trans h.tape, k.output.trans h.output, Nat.le_trans h.size k.size, fun i hi hx => (k.block i (Nat.lt_of_lt_of_le hi h.size) (fun hy => hx (hs i hi hy))).trans (h.block i hi hx)⟩
theorem Chg.trans {X : Nat → Prop} {a b c : World} (h : Chg X a b) (k : Chg X b c) : Chg X a c := h.trans' k (fun _ _ h => h)
theorem Chg.mono {X Y : Nat → Prop} {a b : World} (h : Chg X a b) (hs : ∀ i, i < a.heap.size → X i → Y i) : Chg Y a b :=
  ⟨h.os, h.tape, h.output, h.size, fun i hi hy => h.block i hi (fun hx => hy (hs i hi hx))⟩
theorem Chg.of_below {X : Nat → Prop} {w w' : World} (h : Below w.heap.size w w') : Chg X w w' := ⟨h.os, h.tape, h.output, h.size, fun k hk _ => h.block k hk⟩
theorem Chg.thenBelow {X : Nat → Prop} {a b c : World} (h : Chg X a b) (k : Below b.heap.size b c) : Chg X a c := h.trans (Chg.of_below k)
theorem Chg.below {X : Nat → Prop} {n : Nat} {w w' : World} (h : Chg X w w') (hn : n ≤ w.heap.size) (hx : ∀ k, k < n → ¬ X k) : Below n w w' :=
  ⟨h.os, h.tape, h.output, h.size, fun k hk => h.block k (Nat.lt_of_lt_of_le hk hn) (hx k hk)⟩
theorem Chg.alloc {X : Nat → Prop} {a w : World} (h : Chg X a w) (o : Obj) : Chg X a (w.alloc o) := h.trans (Chg.of_below ((Below.refl _ w).alloc (Nat.le_refl _) o))
theorem Chg.drew {X : Nat → Prop} {a w : World} (h : Chg X a w) : Chg X a w.drew := ⟨h.os, h.tape, h.output, h.size, h.block⟩
theorem Chg.drewN {X : Nat → Prop} {a w : World} (h : Chg X a w) (n : Nat) : Chg X a (w.drewN n) := ⟨h.os, h.tape, h.output, h.size, h.block⟩
theorem Chg.setCell {X : Nat → Prop} {a w : World} (h : Chg X a w) {p : Addr} (hp : X p.block ∨ a.heap.size ≤ p.block) (u : Value) : Chg X a (w.setCell p u) :=
  ⟨h.os, h.tape, h.output, by simpa [World.setCell] using h.size, fun k hk hx => by
    rw [Below.heap_setCell _ _ _ _ (fun e => by
      rcases hp with hp | hp
      · exact hx (e ▸ hp)
      · omega)]
    exact h.block k hk hx⟩
theorem Chg.set1 {B : Nat} {a w : World} (h : Chg (fun b => b = B) a w) (off : Nat) (u : Value) : Chg (fun b => b = B) a (w.setCell ⟨B, off, none⟩ u) := h.setCell (.inl rfl) u
theorem Chg.cell {X : Nat → Prop} {w w' : World} (h : Chg X w w') {p : Addr} (hp : p.block < w.heap.size) (hx : ¬ X p.block) : w'.cell? p = w.cell? p := World.cell?_of_block (w := w) (h.block _ hp hx)
theorem Chg.frozen {X : Nat → Prop} {w w' : World} (h : Chg X w w') {p : Addr} (hp : p.block < w.heap.size) (hx : ¬ X p.block) : w'.frozen? p = w.frozen? p := World.frozen?_of_block (w := w) (h.block _ hp hx)
theorem Chg.cells {X : Nat → Prop} {w w' : World} (h : Chg X w w') : ∀ b o, b < w.heap.size → ¬ X b → w'.cell? ⟨b, o, none⟩ = w.cell? ⟨b, o, none⟩ := fun b o hb hx => h.cell (p := ⟨b, o, none⟩) hb hx
theorem Chg.keep {X : Nat → Prop} {w w' : World} (h : Chg X w w') {a : Addr} {v : Value} (hc : w.cell? a = some v) (hx : ¬ X a.block) : w'.cell? a = some v := (h.cell (World.block_lt_of_cell? _ _ hc) hx).trans hc
theorem Blk.chg {X : Nat → Prop} {w w' : World} {B : Nat} {T : TypeId} {c : Array Value} (hb : Blk w B T c) (h : Chg X w w') (hx : ¬ X B) : Blk w' B T c := (h.block B hb.lt hx).trans hb
theorem Chg.blk {X : Nat → Prop} {w w' : World} {B : Nat} {T : TypeId} {c : Array Value} (h : Chg X w w') (hb : Blk w B T c) (hx : ¬ X B) : Blk w' B T c := hb.chg h hx
theorem Chg.undrew {X : Nat → Prop} {w w' : World} (h : Chg X w.drew w') : Chg X w w' := ⟨h.os, h.tape, h.output, h.size, h.block⟩
theorem Below.undrew {n : Nat} {w w' : World} (h : Below n w.drew w') : Below n w w' := ⟨h.os, h.tape, h.output, h.size, h.block⟩
theorem Below.of_chg {w w' : World} (h : Chg (fun _ => False) w w') : Below w.heap.size w w' := h.below (Nat.le_refl _) (fun _ _ h => h)
theorem setRow_size (w : World) (g : Nat) (cs : Array Value) : (w.setRow g cs).heap.size = w.heap.size := by simp [World.setRow]
theorem setRow_other (w : World) (g : Nat) (cs : Array Value) {b : Nat} (h : b ≠ g) : (w.setRow g cs).heap[b]? = w.heap[b]? := by
  simp only [World.setRow, Array.getElem?_modify]
  rw [if_neg (by omega)]
theorem Blk.setRow {w : World} {g : Nat} {T : TypeId} {cur : Array Value} (h : Blk w g T cur) (cs : Array Value) : Blk (w.setRow g cs) g T cs := by
  obtain ⟨hlt, hk⟩ := Array.getElem?_eq_some_iff.1 h
  show (w.heap.modify g _)[g]? = _
  rw [Array.getElem?_eq_getElem (by rw [Array.size_modify]; exact hlt), Array.getElem_modify_self, hk]
theorem Below.setRow {n : Nat} {a w : World} (h : Below n a w) {g : Nat} (hg : n ≤ g) (cs : Array Value) : Below n a (w.setRow g cs) :=
  h.trans ⟨rfl, rfl, rfl, by rw [setRow_size]; exact Nat.le_refl _, fun k hk => setRow_other w g cs (by omega)⟩
theorem Chg.setRow {X : Nat → Prop} {a w : World} (h : Chg X a w) {g : Nat} (hp : X g ∨ a.heap.size ≤ g) (cs : Array Value) : Chg X a (w.setRow g cs) :=
  ⟨h.os, h.tape, h.output, by rw [setRow_size]; exact h.size, fun k hk hx => by
    rw [setRow_other _ _ _ (fun e => by
      rcases hp with hp | hp
      · exact hx (e ▸ hp)
      · omega)]
    exact h.block k hk hx⟩
section
variable {P : Program} {w : World}
theorem run_loadVar_blk {t : TypeId} {g : Nat} {T : TypeId} {cs : Array Value} {d : TypeDesc} (hu : P.underlying t = some d) (hd : (match d with | .struct _ | .array _ _ => true | _ => false) = true) (hg : Blk w g T cs) (hi : (sizeOf t).run P w = .ok cs.size w) :
    (loadVar t ⟨g, 0, none⟩).run P w = .ok (.agg cs) w := by
  have hag : (isAgg t).run P w = .ok true w := by
    unfold isAgg
    rw [Sem.run_bind, run_underlying hu w]
    cases d <;> simp_all
  have hl : (loadCells ⟨g, 0, none⟩ cs.toList.length).run P w = .ok cs.toList.toArray w :=
    run_loadCells_list (P := P) w ⟨g, 0, none⟩ cs.toList (fun j v hv => by
      have : (⟨g, 0, none⟩ : Addr).add j = ⟨g, j, none⟩ := by simp [Addr.add]; intro e; exact e.symm
      rw [this, hg.cell]; simpa using hv)
  simp only [Array.length_toList, Array.toArray_toList] at hl
  simp [loadVar, Sem.run_bind, hag, hi, hl, Result.andThen]
theorem results_blk {fn : Func} {tmps : Array Value} {p : Tmp} {t : TypeId} {g : Nat} {cs : Array Value} {T : TypeId} {d : TypeDesc} (hres : fn.results = #[.cell p t]) (hp : tmps.getD p undef = .pointer (some ⟨g, 0, none⟩))
    (hu : P.underlying t = some d) (hd : (match d with | .struct _ | .array _ _ => true | _ => false) = true) (hg : Blk w g T cs) (hi : (sizeOf t).run P w = .ok cs.size w) : (results fn tmps).run P w = .ok (.agg cs) w := by
  have hp' : tmps[p]?.getD undef = .pointer (some ⟨g, 0, none⟩) := by simpa using hp
  simp [results, hres, hp', asAddr, Sem.run_bind, run_loadVar_blk hu hd hg hi, Result.andThen]
end
end Go.Proofs.YtolhmibejhldkaaGreatDoor

namespace Go.Proofs.YtolhmibejhldkaaGreatDoor
open Go.RowKit
structure Note where
  direct : Nat
  ahead : Nat
  dst : Nat
  looks : Nat
  kind : Nat
def maskL (l : List Nat) : Nat := l.foldl (fun m i => m ||| 2 ^ i) 0
theorem maskL_acc (l : List Nat) (m i : Nat) : (l.foldl (fun m i => m ||| 2 ^ i) m).testBit i = (m.testBit i || l.contains i) := by
  induction l generalizing m with
  | nil => simp
  | cons x l ih =>
    rw [List.foldl_cons, ih, Nat.testBit_or, Nat.testBit_two_pow, List.contains_cons, Bool.or_assoc]
    congr 2
    rw [Bool.eq_iff_iff, decide_eq_true_iff, beq_iff_eq]
    exact eq_comm
theorem maskL_bit (l : List Nat) (i : Nat) : (maskL l).testBit i = l.contains i := by rw [maskL, maskL_acc]; simp
def bound (md : Region.Mode) (o : Oper) : List Nat := o.after.toList.filterMap fun e => if Region.binds md e then some e.on else none
def dstL (o : Oper) : List Nat := o.dst.toList
def notesOk (md : Region.Mode) (ops : Array Oper) (ns : Array Note) : Bool :=
  ns.size == ops.size && (List.range ops.size).all fun j => match ops[j]?, ns[j]? with
    | some o, some n =>
      let b := bound md o
      n.direct == maskL b && b.all (· < ops.size) &&
      n.ahead == b.foldl (fun m i => m ||| 2 ^ i ||| (if i < j then (ns[i]?.map (·.ahead)).getD 0 else 0)) 0 &&
      n.dst == maskL (dstL o) && n.looks == maskL (o.looksAt ops)
    | _, _ => false
def ready (n : Note) (L j : Nat) : Bool := !L.testBit j && (n.direct &&& L == n.direct)
def flagged (n : Note) (loads j : Nat) : Bool := (loads &&& (n.ahead ||| 2 ^ j)) != loads
def apartN (x y : Note) : Bool := (x.dst &&& (y.looks ||| y.dst) == 0) && (y.dst &&& x.looks == 0)
def planOk (ns : Array Note) (loads : Nat) : List Nat → Nat → Bool
  | [], L => (List.range ns.size).all fun j => L.testBit j
  | i :: rest, L => match ns[i]? with
    | none => false
    | some n => ready n L i && (n.kind != 1 || loads.testBit i) &&
      (if n.kind < 2 then (List.range ns.size).all fun j => j == i || L.testBit j || (match ns[j]? with | some m => m.ahead.testBit i || apartN n m | none => true)
       else (List.range ns.size).all fun j => j == i || match ns[j]? with | some m => !ready m L j | none => true) &&
      (n.kind < 3 || !flagged n loads i) &&
      planOk ns loads rest (L ||| 2 ^ i)
section
variable {P : Program} {ops : Array Oper} {Q : Exit → Act → World → Prop} {md : Region.Mode} {X : Nat → Prop}
def wpSeq (P : Program) (ops : Array Oper) (Q : Exit → Act → World → Prop) (X : Nat → Prop) : List (Nat × Nat) → Act → World → Prop
  | [], a, w => Q .normal a w
  | (i, k) :: rest, a, w =>
    if k = 0 then ∃ o v, ops[i]? = some o ∧ Yields P ops o v a ∧ wpSeq P ops Q X rest (a.put o.dst v) w
    else if k = 1 then ∃ o v, ops[i]? = some o ∧ YieldsIf P ops (Chg X w) o v a ∧ wpSeq P ops Q X rest (a.put o.dst v) w
    else if k = 2 then wpOp P ops Q i (fun a' w' => Chg X w w' ∧ wpSeq P ops Q X rest a' w') a w
    else wpOp P ops Q i (wpSeq P ops Q X rest) a w
def wpAnyF (P : Program) (ops : Array Oper) (ns : Array Note) (fl : Nat → Bool) (Q : Exit → Act → World → Prop) (X : Nat → Prop) : Nat → Nat → Act → World → Prop
  | 0, L, a, w => (∀ j n, ns[j]? = some n → ready n L j = false) ∧ Q .normal a w
  | fuel + 1, L, a, w =>
    ((∀ j n, ns[j]? = some n → ready n L j = false) → Q .normal a w) ∧
    ∀ j n, ns[j]? = some n → ready n L j = true → wpOp P ops Q j (fun a' w' => (fl j = true → Chg X w w') ∧ wpAnyF P ops ns fl Q X fuel (L ||| 2 ^ j) a' w') a w
variable {ns : Array Note} {fl : Nat → Bool}
theorem bit_or {L i j : Nat} : (L ||| 2 ^ i).testBit j = (L.testBit j || decide (i = j)) := by rw [Nat.testBit_or, Nat.testBit_two_pow]
theorem and_eq_left_iff {x L : Nat} : (x &&& L == x) = true ↔ ∀ i, x.testBit i = true → L.testBit i = true := by
  rw [beq_iff_eq]
  constructor
  · intro h i hi
    have := congrArg (·.testBit i) h
    simp only [Nat.testBit_and, hi, Bool.true_and] at this
    exact this
  · intro h
    apply Nat.eq_of_testBit_eq
    intro i
    rw [Nat.testBit_and]
    cases hx : x.testBit i
    · simp
    · simp [h i hx]
theorem ready_iff {n : Note} {L j : Nat} : ready n L j = true ↔ L.testBit j = false ∧ ∀ i, n.direct.testBit i = true → L.testBit i = true := by
  simp only [ready, Bool.and_eq_true, Bool.not_eq_true', and_eq_left_iff]
theorem ready_more {n : Note} {L i j : Nat} (h : ready n L j = true) (hne : j ≠ i) : ready n (L ||| 2 ^ i) j = true := by
  rw [ready_iff] at *
  refine ⟨by rw [bit_or, h.1]; simp [Ne.symm hne], fun k hk => by rw [bit_or, h.2 k hk]; rfl⟩
def closedL (ns : Array Note) (L : Nat) : Prop := ∀ j n, ns[j]? = some n → L.testBit j = true → ∀ i, n.direct.testBit i = true → L.testBit i = true
theorem closed_more {L j : Nat} {n : Note} (hc : closedL ns L) (hn : ns[j]? = some n) (hr : ready n L j = true) : closedL ns (L ||| 2 ^ j) := by
  intro k m hk hL i hi
  rw [bit_or] at hL ⊢
  rw [ready_iff] at hr
  rcases Bool.or_eq_true _ _ ▸ hL with h | h
  · rw [hc k m hk h i hi]; rfl
  · have : j = k := of_decide_eq_true h
    subst this
    rw [hn] at hk; cases hk
    rw [hr.2 i hi]; rfl
def AheadOk (ns : Array Note) : Prop := ∀ (j : Nat) (n : Note), ns[j]? = some n → ∀ i, n.ahead.testBit i = true → n.direct.testBit i = true ∨ ∃ (k : Nat) (m : Note), k < j ∧ ns[k]? = some m ∧ n.direct.testBit k = true ∧ m.ahead.testBit i = true
theorem ahead_listed (ha : AheadOk ns) {L : Nat} (hc : closedL ns L) : ∀ (j : Nat) (n : Note), ns[j]? = some n → (∀ i, n.direct.testBit i = true → L.testBit i = true) → ∀ i, n.ahead.testBit i = true → L.testBit i = true := by
  intro j
  induction j using Nat.strongRecOn with
  | ind j ih =>
    intro n hn hd i hi
    rcases ha j n hn i hi with h | ⟨k, m, hk, hm, hdk, hmi⟩
    · exact hd i h
    · exact ih k hk m hm (fun x hx => hc k m hm (hd k hdk) x hx) i hmi
theorem wpAnyF_first {T : World → Prop} {i : Nat} {oi : Oper} {v : Value} (ha : AheadOk ns) (hsz : ns.size = ops.size) (hi : ops[i]? = some oi) (hsel : ∀ (j : Nat) (o : Oper) cs b, ops[j]? = some o → o.op ≠ .select cs b)
    (hQ : ∀ c a w, Q (.panic c) (a.put oi.dst v) w → Q (.panic c) a w) :
    ∀ (fuel L : Nat) (a : Act) (w : World), closedL ns L → L.testBit i = false →
      (∀ (j : Nat) (n : Note) (oj : Oper), ns[j]? = some n → ops[j]? = some oj → j ≠ i → L.testBit j = false → n.ahead.testBit i = false → oi.apart ops oj = true ∧ ∀ u u', (fl j = true → Chg X u u') → T u → T u') →
      (∀ n, ns[i]? = some n → ready n L i = true) → YieldsIf P ops T oi v a → T w →
      wpAnyF P ops ns fl Q X fuel (L ||| 2 ^ i) (a.put oi.dst v) w → wpAnyF P ops ns fl Q X (fuel + 1) L a w := by
  intro fuel
  induction fuel with
  | zero =>
    intro L a w hc hLi hfree hr hy hT H
    have hlt : i < ns.size := by rw [hsz]; exact (Array.getElem?_eq_some_iff.1 hi).1
    refine ⟨fun h => absurd (h i _ (Array.getElem?_eq_getElem hlt)) (by rw [hr _ (Array.getElem?_eq_getElem hlt)]; simp), fun j n hn hj => ?_⟩
    by_cases hji : j = i
    · subst hji; exact hy.wpOp hi hT ⟨fun _ => Chg.refl _ _, H⟩
    · have := H.1 j n hn
      rw [ready_more hj hji] at this
      cases this
  | succ fuel ih =>
    intro L a w hc hLi hfree hr hy hT H
    have hlt : i < ns.size := by rw [hsz]; exact (Array.getElem?_eq_some_iff.1 hi).1
    refine ⟨fun h => absurd (h i _ (Array.getElem?_eq_getElem hlt)) (by rw [hr _ (Array.getElem?_eq_getElem hlt)]; simp), fun j n hn hj => ?_⟩
    by_cases hji : j = i
    · subst hji; exact hy.wpOp hi hT ⟨fun _ => Chg.refl _ _, H⟩
    · have h1 := H.2 j n hn (ready_more hj hji)
      have hjl : j < ops.size := by rw [← hsz]; exact (Array.getElem?_eq_some_iff.1 hn).1
      obtain ⟨oj, hoj⟩ : ∃ oj, ops[j]? = some oj := ⟨_, Array.getElem?_eq_getElem hjl⟩
      have hjun := (ready_iff.1 hj).1
      have hahead : n.ahead.testBit i = false := by
        cases hb : n.ahead.testBit i
        · rfl
        · have := ahead_listed ha hc j n hn (ready_iff.1 hj).2 i hb
          rw [hLi] at this; cases this
      obtain ⟨hap, hTj⟩ := hfree j n oj hn hoj hji hjun hahead
      have h2 := wpOp_putIf hoj hap (fun cs b => hsel i oi cs b hi) (fun cs b => hsel j oj cs b hoj) hQ hy h1
      refine wpOp_mono (fun a' w' h3 => ⟨h3.2.1, ?_⟩) h2
      have hLi' : (L ||| 2 ^ j).testBit i = false := by rw [bit_or, hLi]; simp [hji]
      refine ih (L ||| 2 ^ j) a' w' (closed_more hc hn hj) hLi' (fun k m ok hk hok hki hun hah => hfree k m ok hk hok hki ?_ hah) (fun m hm => ready_more (hr m hm) (Ne.symm hji)) h3.1 (hTj w w' h3.2.1 hT) ?_
      · rw [bit_or, Bool.or_eq_false_iff] at hun; exact hun.1
      · rw [show (L ||| 2 ^ j) ||| 2 ^ i = (L ||| 2 ^ i) ||| 2 ^ j by rw [Nat.or_assoc, Nat.or_comm (2 ^ j), ← Nat.or_assoc]]
        exact h3.2.2
theorem wpAnyF_only {i : Nat} {fuel L : Nat} {a : Act} {w : World} (hi : i < ns.size)
    (hr : ∀ n, ns[i]? = some n → ready n L i = true) (ho : ∀ (j : Nat) (n : Note), ns[j]? = some n → j ≠ i → ready n L j = false)
    (h : wpOp P ops Q i (fun a' w' => (fl i = true → Chg X w w') ∧ wpAnyF P ops ns fl Q X fuel (L ||| 2 ^ i) a' w') a w) : wpAnyF P ops ns fl Q X (fuel + 1) L a w := by
  refine ⟨fun hn => absurd (hn i _ (Array.getElem?_eq_getElem hi)) (by rw [hr _ (Array.getElem?_eq_getElem hi)]; simp), fun j n hn hj => ?_⟩
  by_cases hji : j = i
  · subst hji; exact h
  · rw [ho j n hn hji] at hj; cases hj
theorem notesOk_spec (h : notesOk md ops ns = true) : ns.size = ops.size ∧ AheadOk ns ∧
    (∀ (j : Nat) (n : Note) (o : Oper), ns[j]? = some n → ops[j]? = some o → n.direct = maskL (bound md o) ∧ n.dst = maskL (dstL o) ∧ n.looks = maskL (o.looksAt ops) ∧ ∀ i ∈ bound md o, i < ops.size) := by
  simp only [notesOk, Bool.and_eq_true, beq_iff_eq, List.all_eq_true, List.mem_range] at h
  obtain ⟨hs, hall⟩ := h
  have key : ∀ (j : Nat) (n : Note) (o : Oper), ns[j]? = some n → ops[j]? = some o → (n.direct = maskL (bound md o) ∧ (∀ i ∈ bound md o, i < ops.size)) ∧
      n.ahead = (bound md o).foldl (fun m i => m ||| 2 ^ i ||| (if i < j then (ns[i]?.map (·.ahead)).getD 0 else 0)) 0 ∧ n.dst = maskL (dstL o) ∧ n.looks = maskL (o.looksAt ops) := by
    intro j n o hn ho
    have h1 := hall j (Array.getElem?_eq_some_iff.1 ho).1
    simp only [hn, ho, Bool.and_eq_true, beq_iff_eq, List.all_eq_true, decide_eq_true_eq] at h1
    obtain ⟨⟨⟨⟨a, b⟩, c⟩, d⟩, e⟩ := h1
    exact ⟨⟨a, b⟩, c, d, e⟩
  refine ⟨hs, fun j n hn i hi => ?_, fun j n o hn ho => ⟨(key j n o hn ho).1.1, (key j n o hn ho).2.2.1, (key j n o hn ho).2.2.2, (key j n o hn ho).1.2⟩⟩
  have hjl : j < ops.size := by rw [← hs]; exact (Array.getElem?_eq_some_iff.1 hn).1
  obtain ⟨⟨hd, _⟩, ha, _, _⟩ := key j n _ hn (Array.getElem?_eq_getElem hjl)
  rw [ha] at hi
  have gen : ∀ (l : List Nat) (m : Nat), (l.foldl (fun m i => m ||| 2 ^ i ||| (if i < j then (ns[i]?.map (·.ahead)).getD 0 else 0)) m).testBit i = true →
      m.testBit i = true ∨ i ∈ l ∨ ∃ (k : Nat) (x : Note), k ∈ l ∧ k < j ∧ ns[k]? = some x ∧ x.ahead.testBit i = true := by
    intro l
    induction l with
    | nil => intro m h; exact .inl h
    | cons y l ih =>
      intro m h
      rw [List.foldl_cons] at h
      rcases ih _ h with h | h | ⟨k, x, hk, h1, h2, h3⟩
      · rw [Nat.testBit_or, bit_or, Bool.or_eq_true, Bool.or_eq_true] at h
        rcases h with (h | h) | h
        · exact .inl h
        · exact .inr (.inl (by simp [of_decide_eq_true h]))
        · split at h
          · rename_i hy
            cases hx : ns[y]? with
            | none => simp [hx] at h
            | some x => exact .inr (.inr ⟨y, x, by simp, hy, hx, by simpa [hx] using h⟩)
          · simp at h
      · exact .inr (.inl (by simp [h]))
      · exact .inr (.inr ⟨k, x, by simp [hk], h1, h2, h3⟩)
  rcases gen _ _ hi with h | h | ⟨k, x, hk, h1, h2, h3⟩
  · simp at h
  · exact .inl (by rw [hd, maskL_bit]; simpa using h)
  · exact .inr ⟨k, x, h1, h2, by rw [hd, maskL_bit]; simpa using hk, h3⟩
theorem and_zero {a b i : Nat} (h : a &&& b = 0) (ha : a.testBit i = true) : b.testBit i = false := by
  have := congrArg (·.testBit i) h
  simpa [Nat.testBit_and, ha] using this
theorem apart_of {x y : Oper} {m n : Note} (hm : m.dst = maskL (dstL x)) (hm' : m.looks = maskL (x.looksAt ops)) (hn : n.dst = maskL (dstL y)) (hn' : n.looks = maskL (y.looksAt ops))
    (h : apartN m n = true) : x.apart ops y = true := by
  simp only [apartN, Bool.and_eq_true, beq_iff_eq] at h
  obtain ⟨h1, h2⟩ := h
  have a1 : ∀ d, x.dst = some d → ¬ (y.looksAt ops).contains d = true ∧ y.dst ≠ some d := fun d hd => by
    have hb : m.dst.testBit d = true := by rw [hm, maskL_bit]; simp [dstL, hd]
    have := and_zero h1 hb
    rw [Nat.testBit_or, Bool.or_eq_false_iff, hn, hn', maskL_bit, maskL_bit] at this
    refine ⟨by rw [this.1]; simp, fun hy => ?_⟩
    have h' := this.2
    simp [dstL, hy] at h'
  have a2 : ∀ d, y.dst = some d → ¬ (x.looksAt ops).contains d = true := fun d hd => by
    have hb : n.dst.testBit d = true := by rw [hn, maskL_bit]; simp [dstL, hd]
    have := and_zero h2 hb
    rw [hm', maskL_bit] at this
    rw [this]; simp
  unfold Oper.apart
  rw [Bool.and_eq_true]
  constructor
  · cases hx : x.dst with
    | none => rfl
    | some d =>
      have := a1 d hx
      simp only [Bool.and_eq_true, Bool.not_eq_true', bne_iff_ne, ne_eq]
      exact ⟨by simpa using this.1, this.2⟩
  · cases hy : y.dst with
    | none => rfl
    | some d => have := a2 d hy; simpa using this
theorem yieldsT {o : Oper} {v : Value} {a : Act} (h : Yields P ops o v a) : YieldsIf P ops (fun _ => True) o v a :=
  h.imp (fun ⟨hw, hv⟩ => ⟨hw, fun w _ => hv w⟩) id
theorem wpAnyF_of_seq {loads : Nat} (hn : notesOk md ops ns = true) (hsel : Region.noSelect ops = true) (hQ : ∀ c (a : Act) d v w, Q (.panic c) (a.put d v) w → Q (.panic c) a w) :
    ∀ (pl : List (Nat × Nat)) (L : Nat) (a : Act) (w : World), closedL ns L → (∀ x ∈ pl, ∀ n, ns[x.1]? = some n → n.kind = x.2) → planOk ns loads (pl.map (·.1)) L = true →
      wpSeq P ops Q X pl a w → wpAnyF P ops ns (fun j => match ns[j]? with | some n => flagged n loads j | none => false) Q X pl.length L a w := by
  obtain ⟨hsz, hah, hnote⟩ := notesOk_spec hn
  have hsel' := Region.noSelect_spec hsel
  intro pl
  induction pl with
  | nil =>
    intro L a w hc hk hp h
    simp only [List.map_nil, planOk, List.all_eq_true, List.mem_range] at hp
    refine ⟨fun j n hj => ?_, h⟩
    have := hp j (Array.getElem?_eq_some_iff.1 hj).1
    simp [ready, this]
  | cons x pl ih =>
    intro L a w hc hk hp h
    obtain ⟨i, k⟩ := x
    simp only [List.map_cons, planOk] at hp
    cases hni : ns[i]? with
    | none => simp [hni] at hp
    | some n =>
      have hkn : n.kind = k := hk (i, k) (by simp) n hni
      simp only [hni, Bool.and_eq_true] at hp
      obtain ⟨⟨⟨⟨hr, hld⟩, hcase⟩, hfl⟩, hrest⟩ := hp
      have hiL := (ready_iff.1 hr).1
      have hil : i < ns.size := (Array.getElem?_eq_some_iff.1 hni).1
      have hr' : ∀ m, ns[i]? = some m → ready m L i = true := fun m hm => by rw [hni] at hm; cases hm; exact hr
      have hc' : closedL ns (L ||| 2 ^ i) := closed_more hc hni hr
      have hk' : ∀ x ∈ pl, ∀ n, ns[x.1]? = some n → n.kind = x.2 := fun x hx => hk x (by simp [hx])
      have hfree : n.kind < 2 → ∀ (j : Nat) (m : Note) (oi oj : Oper), ns[j]? = some m → ops[i]? = some oi → ops[j]? = some oj → j ≠ i → L.testBit j = false → m.ahead.testBit i = false → oi.apart ops oj = true := by
        intro hlt j m oi oj hm hoi hoj hji hjL hja
        rw [if_pos hlt] at hcase
        have := List.all_eq_true.1 hcase j (List.mem_range.2 (Array.getElem?_eq_some_iff.1 hm).1)
        simp only [hm, hjL, hja, Bool.or_false, Bool.false_or, Bool.or_eq_true, beq_iff_eq, hji, false_or] at this
        obtain ⟨_, d1, d2, _⟩ := hnote i n oi hni hoi
        obtain ⟨_, e1, e2, _⟩ := hnote j m oj hm hoj
        exact apart_of d1 d2 e1 e2 this
      unfold wpSeq at h
      by_cases k0 : k = 0
      · rw [if_pos k0] at h
        obtain ⟨o, v, ho, hy, h⟩ := h
        exact wpAnyF_first (T := fun _ => True) hah hsz ho hsel' (fun c a w => hQ c a _ _ w) _ L a w hc hiL (fun j m oj hm hoj hji hjL hja => ⟨hfree (by omega) j m o oj hm ho hoj hji hjL hja, fun _ _ _ _ => trivial⟩) hr' (yieldsT hy) trivial
          (ih _ _ _ hc' hk' hrest h)
      · rw [if_neg k0] at h
        by_cases k1 : k = 1
        · rw [if_pos k1] at h
          obtain ⟨o, v, ho, hy, h⟩ := h
          have hlb : loads.testBit i = true := by
            rcases Bool.or_eq_true _ _ ▸ hld with h' | h'
            · rw [bne_iff_ne] at h'; exact absurd (hkn.trans k1) h'
            · exact h'
          refine wpAnyF_first (T := Chg X w) hah hsz ho hsel' (fun c a w => hQ c a _ _ w) _ L a w hc hiL (fun j m oj hm hoj hji hjL hja => ⟨hfree (by omega) j m o oj hm ho hoj hji hjL hja, fun u u' hf hT => hT.trans (hf ?_)⟩) hr' hy (Chg.refl _ _)
            (ih _ _ _ hc' hk' hrest h)
          simp only [hm, flagged, bne_iff_ne, ne_eq]
          intro e
          have := congrArg (·.testBit i) e
          simp [Nat.testBit_and, Nat.testBit_or, hlb, hja, Nat.testBit_two_pow, hji] at this
        · rw [if_neg k1] at h
          have ho : ∀ (j : Nat) (m : Note), ns[j]? = some m → j ≠ i → ready m L j = false := by
            intro j m hm hji
            by_cases h2 : n.kind < 2
            · exact absurd (by omega : k = 0 ∨ k = 1) (by omega)
            · rw [if_neg h2] at hcase
              have := List.all_eq_true.1 hcase j (List.mem_range.2 (Array.getElem?_eq_some_iff.1 hm).1)
              simpa [hm, hji] using this
          by_cases k2 : k = 2
          · rw [if_pos k2] at h
            exact wpAnyF_only hil hr' ho (wpOp_mono (fun a' w' h' => ⟨fun _ => h'.1, ih _ _ _ hc' hk' hrest h'.2⟩) h)
          · rw [if_neg k2] at h
            refine wpAnyF_only hil hr' ho (wpOp_mono (fun a' w' h' => ⟨fun hf => ?_, ih _ _ _ hc' hk' hrest h'⟩) h)
            have h3 : ¬ n.kind < 3 := by omega
            rw [hni] at hf
            simp only [h3, decide_false, Bool.false_or, Bool.not_eq_true'] at hfl
            simp only [hfl] at hf
            cases hf
theorem wpAny_of_F (hn : notesOk md ops ns = true) : ∀ (fuel : Nat) (listed : Array Bool) (L : Nat) (a : Act) (w : World), (∀ j, j < ops.size → listed[j]? = some (L.testBit j)) →
    wpAnyF P ops ns fl Q X fuel L a w → wpAny P md ops Q fuel listed a w := by
  obtain ⟨hsz, hah, hnote⟩ := notesOk_spec hn
  have key : ∀ (listed : Array Bool) (L : Nat), (∀ j, j < ops.size → listed[j]? = some (L.testBit j)) → ∀ j, j ∈ Region.ready md ops listed ↔ ∃ n, ns[j]? = some n ∧ ready n L j = true := by
    intro listed L hl j
    rw [mem_ready]
    constructor
    · rintro ⟨h0, o, ho, h1⟩
      have hjl : j < ops.size := (Array.getElem?_eq_some_iff.1 ho).1
      obtain ⟨n, hnj⟩ : ∃ n, ns[j]? = some n := ⟨_, Array.getElem?_eq_getElem (by omega)⟩
      refine ⟨n, hnj, ready_iff.2 ⟨?_, fun i hi => ?_⟩⟩
      · simpa [hl j hjl] using h0
      · obtain ⟨hd, _, _, hb⟩ := hnote j n o hnj ho
        rw [hd, maskL_bit] at hi
        have hi' : i ∈ bound md o := by simpa using hi
        have hil := hb i hi'
        simp only [bound, List.mem_filterMap] at hi'
        obtain ⟨e, he, hb'⟩ := hi'
        split at hb'
        · rename_i hbd
          cases hb'
          have := h1 e (by simpa using he) hbd
          simpa [hl _ hil] using this
        · cases hb'
    · rintro ⟨n, hnj, hr⟩
      have hjl : j < ops.size := by rw [← hsz]; exact (Array.getElem?_eq_some_iff.1 hnj).1
      obtain ⟨h0, h1⟩ := ready_iff.1 hr
      refine ⟨by simp [hl j hjl, h0], _, Array.getElem?_eq_getElem hjl, fun e he hb => ?_⟩
      obtain ⟨hd, _, _, hbl⟩ := hnote j n _ hnj (Array.getElem?_eq_getElem hjl)
      have hm : e.on ∈ bound md ops[j] := by
        simp only [bound, List.mem_filterMap]
        exact ⟨e, by simpa using he, by simp [hb]⟩
      have := h1 e.on (by rw [hd, maskL_bit]; simpa using hm)
      simp [hl _ (hbl _ hm), this]
  have knil : ∀ (listed : Array Bool) (L : Nat), (∀ j, j < ops.size → listed[j]? = some (L.testBit j)) → (Region.ready md ops listed = [] ↔ ∀ (j : Nat) (n : Note), ns[j]? = some n → ready n L j = false) := by
    intro listed L hl
    rw [List.eq_nil_iff_forall_not_mem]
    constructor
    · intro h j n hnj
      cases hr : ready n L j
      · rfl
      · exact absurd ((key listed L hl j).2 ⟨n, hnj, hr⟩) (h j)
    · intro h j hj
      obtain ⟨n, hnj, hr⟩ := (key listed L hl j).1 hj
      rw [h j n hnj] at hr; cases hr
  intro fuel
  induction fuel with
  | zero => intro listed L a w hl h; exact ⟨(knil listed L hl).2 h.1, h.2⟩
  | succ fuel ih =>
    intro listed L a w hl h
    refine ⟨fun hr => h.1 ((knil listed L hl).1 hr), fun j hj => ?_⟩
    obtain ⟨n, hnj, hr⟩ := (key listed L hl j).1 hj
    refine wpOp_mono (fun a' w' h' => ih _ _ a' w' (fun k hk => ?_) h'.2) (h.2 j n hnj hr)
    rw [Array.getElem?_setIfInBounds, bit_or]
    by_cases hjk : j = k
    · subst hjk
      have := hl j hk
      have hs : j < listed.size := (Array.getElem?_eq_some_iff.1 this).1
      simp [hs]
    · simp [hjk, hl k hk]
theorem wp_region_seq {id : Nat} {a : Act} {w : World} (X : Nat → Prop) (ns : Array Note) (loads : Nat) (pl : List (Nat × Nat)) (hm : P.follows .mixedOrders = true)
    (hn : notesOk .any ops ns = true) (hsel : Region.noSelect ops = true) (hlen : pl.length = ops.size) (hk : (pl.all fun x => (ns[x.1]?.map (·.kind)).getD x.2 == x.2) = true) (hp : planOk ns loads (pl.map (·.1)) 0 = true)
    (hQ : ∀ c (a : Act) d v w, Q (.panic c) (a.put d v) w → Q (.panic c) a w) (h : wpSeq P ops Q X pl a w.drew) : (Code.region id ops true).wp P Q a w := by
  refine wp_region_any hm ?_
  rw [← hlen]
  refine wpAny_of_F hn pl.length _ 0 a _ (fun j hj => ?_) (wpAnyF_of_seq hn hsel hQ pl 0 a w.drew (fun j n _ h0 => by simp at h0) (fun x hx n hxn => ?_) hp h)
  · rw [Array.getElem?_replicate]; simp [hlen, hj]
  · have := List.all_eq_true.1 hk x hx
    simpa [hxn] using this
theorem wp_at {c : Code} {a : Act} {w : World} (h : ∀ W, W = w → c.wp P Q a W) : c.wp P Q a w := h w rfl
theorem Blk.range {w : World} {B : Nat} {T : TypeId} {c : Array Value} (h : Blk w B T c) (off : Nat) (cs : List Value) (hc : ∀ j v, cs[j]? = some v → c[off + j]? = some v) : w.rangeAt B off cs := fun j v hj => (h.cell (off + j)).trans (hc j v hj)
theorem Blk.whole {w : World} {B : Nat} {T : TypeId} {cs : List Value} (h : Blk w B T cs.toArray) : w.rangeAt B 0 cs := h.range 0 cs fun j v hj => by simpa using hj
theorem seq_nil {a : Act} {w : World} (h : Q .normal a w) : wpSeq P ops Q X [] a w := h
theorem seq_calc {i : Nat} {rest : List (Nat × Nat)} {o : Oper} {v : Value} {a : Act} {w : World} (ho : ops[i]? = some o) (hw : Region.wanted o (yielded ops a.tmps) = true)
    (hy : ∀ u, (execOp a.eval o).run P u = .ok (.value v) u) (h : wpSeq P ops Q X rest (a.put o.dst v) w) : wpSeq P ops Q X ((i, 0) :: rest) a w := by
  unfold wpSeq; rw [if_pos rfl]; exact ⟨o, v, ho, .inl ⟨hw, hy⟩, h⟩
theorem seq_skip {i k : Nat} {rest : List (Nat × Nat)} {o : Oper} {a : Act} {w : World} (ho : ops[i]? = some o) (hw : Region.wanted o (yielded ops a.tmps) = false)
    (h : wpSeq P ops Q X rest (a.put o.dst undef) w) : wpSeq P ops Q X ((i, k) :: rest) a w := by
  unfold wpSeq
  split
  · exact ⟨o, undef, ho, .inr ⟨hw, rfl⟩, h⟩
  split
  · exact ⟨o, undef, ho, .inr ⟨hw, rfl⟩, h⟩
  split
  · unfold wpOp; simp only [ho, hw, Bool.false_eq_true, if_false]; exact ⟨Chg.refl _ _, h⟩
  · unfold wpOp; simp only [ho, hw, Bool.false_eq_true, if_false]; exact h
theorem seq_load {i : Nat} {rest : List (Nat × Nat)} {o : Oper} {v : Value} {a : Act} {w : World} (ho : ops[i]? = some o) (hw : Region.wanted o (yielded ops a.tmps) = true)
    (hy : ∀ u, Chg X w u → (execOp a.eval o).run P u = .ok (.value v) u) (h : wpSeq P ops Q X rest (a.put o.dst v) w) : wpSeq P ops Q X ((i, 1) :: rest) a w := by
  unfold wpSeq; rw [if_neg (by decide), if_pos rfl]; exact ⟨o, v, ho, .inl ⟨hw, hy⟩, h⟩
theorem run_load_agg {t : TypeId} {b off : Nat} {cs : List Value} {d : TypeDesc} {w : World} (hu : P.underlying t = some d) (hd : d.isRow = true) (hi : (P.info? t).map (·.size) = some cs.length)
    (hc : w.rangeAt b off cs) : (Instr.loadAt t (.pointer (some ⟨b, off, none⟩))).run P w = .ok (.agg cs.toArray) w := run_loadAt_mid (P := P) w b off t cs d hc hu hd hi
theorem run_load_one {t : TypeId} {p : Addr} {v : Value} {d : TypeDesc} {w : World} (hu : P.underlying t = some d) (hd : d.isRow = false) (hc : w.cell? p = some v) :
    (Instr.loadAt t (.pointer (some p))).run P w = .ok v w := by
  have hag : (isAgg t).run P w = .ok false w := by
    unfold isAgg
    rw [Sem.run_bind, run_underlying hu w]
    cases d <;> simp_all [TypeDesc.isRow]
  simp [Instr.loadAt, Instr.sureAddr, loadVar, Sem.run_bind, hag, Result.andThen, hc]
def cellsAre (w : World) (b off : Nat) : List Value → Prop
  | [] => True
  | c :: cs => w.cell? ⟨b, off, none⟩ = some c ∧ cellsAre w b (off + 1) cs
theorem cellsAre_range {w : World} {b : Nat} : ∀ {cs : List Value} {off : Nat}, cellsAre w b off cs → w.rangeAt b off cs := by
  intro cs
  induction cs with
  | nil => intro off _ j v h; simp at h
  | cons c cs ih =>
    intro off h j v hj
    cases j with
    | zero => simp at hj; subst hj; exact h.1
    | succ j => have := ih h.2 j v (by simpa using hj); rwa [show off + 1 + j = off + (j + 1) by omega] at this
theorem range_chg {w u : World} {b off : Nat} {cs : List Value} (h : w.rangeAt b off cs) (hu : Chg X w u) (hX : ¬ X b) : u.rangeAt b off cs := fun j v hj => hu.keep (h j v hj) hX
theorem seq_load1 {i : Nat} {rest : List (Nat × Nat)} {o : Oper} {v : Value} {a : Act} {w : World} {t : TypeId} {x : Operand} {p : Addr} {d : TypeDesc} (ho : ops[i]? = some o) (hw : Region.wanted o (yielded ops a.tmps) = true)
    (hop : o.op = .load t x) (hx : a.eval x = .pointer (some p)) (hu : P.underlying t = some d) (hd : d.isRow = false) (hc : w.cell? p = some v) (hX : ¬ X p.block)
    (h : wpSeq P ops Q X rest (a.put o.dst v) w) : wpSeq P ops Q X ((i, 1) :: rest) a w :=
  seq_load ho hw (fun u hc' => by simp [execOp, hop, hx, Sem.run_bind, run_load_one (P := P) hu hd (hc'.keep hc hX), Result.andThen]) h
theorem seq_loads {i : Nat} {rest : List (Nat × Nat)} {o : Oper} (cs : List Value) {a : Act} {w : World} {t : TypeId} {x : Operand} {b off : Nat} {d : TypeDesc} (ho : ops[i]? = some o) (hw : Region.wanted o (yielded ops a.tmps) = true)
    (hop : o.op = .load t x) (hx : a.eval x = .pointer (some ⟨b, off, none⟩)) (hu : P.underlying t = some d) (hd : d.isRow = true) (hi : (P.info? t).map (·.size) = some cs.length) (hc : w.rangeAt b off cs) (hX : ¬ X b)
    (h : wpSeq P ops Q X rest (a.put o.dst (.agg cs.toArray)) w) : wpSeq P ops Q X ((i, 1) :: rest) a w :=
  seq_load ho hw (fun u hc' => by simp [execOp, hop, hx, Sem.run_bind, run_load_agg (P := P) hu hd hi (range_chg hc hc' hX), Result.andThen]) h
theorem seq_do {i : Nat} {rest : List (Nat × Nat)} {o : Oper} {a : Act} {w : World} (ho : ops[i]? = some o) (hw : Region.wanted o (yielded ops a.tmps) = true)
    (h : ∀ K : Act → World → Prop, Hid (∀ a' w', Chg X w w' → wpSeq P ops Q X rest a' w' → K a' w') → o.wp P a w K Q) : wpSeq P ops Q X ((i, 2) :: rest) a w := by
  unfold wpSeq; rw [if_neg (by decide), if_neg (by decide), if_pos rfl]
  unfold wpOp; simp only [ho, hw, if_true]; exact .inl (h _ (fun _ _ h1 h2 => ⟨h1, h2⟩))
theorem seq_last {i : Nat} {rest : List (Nat × Nat)} {o : Oper} {a : Act} {w : World} (ho : ops[i]? = some o) (hw : Region.wanted o (yielded ops a.tmps) = true)
    (h : ∀ K : Act → World → Prop, Hid (∀ a' w', wpSeq P ops Q X rest a' w' → K a' w') → o.wp P a w K Q) : wpSeq P ops Q X ((i, 3) :: rest) a w := by
  unfold wpSeq; rw [if_neg (by decide), if_neg (by decide), if_neg (by decide)]
  unfold wpOp; simp only [ho, hw, if_true]; exact .inl (h _ (fun _ _ h => h))
end
end Go.Proofs.YtolhmibejhldkaaGreatDoor
namespace Go.Proofs.YtolhmibejhldkaaGreatDoor
open Go.RowKit Go.Proofs
section
variable {P : Program} {ops : Array Oper} {Q : Exit → Act → World → Prop} {X : Nat → Prop} {i : Nat} {rest : List (Nat × Nat)} {o : Oper} {a : Act} {w : World}
theorem zqP {a' : Act} (h : wpSeq P ops Q X rest a' w) (e : a = a' := by first | (simp only [Act.put, List.setIfInBounds_toArray, List.set_cons_zero, List.set_cons_succ]; rfl) | rfl) : wpSeq P ops Q X rest a w := e ▸ h
theorem zqC {v : Value} {a' : Act} (h : wpSeq P ops Q X rest a' w) (ho : ops[i]? = some o := by simp only [List.getElem?_toArray, List.getElem?_cons_succ, List.getElem?_cons_zero]; rfl) (hw : Region.wanted o (yielded ops a.tmps) = true := by rfl)
  (hy : ∀ u, (execOp a.eval o).run P u = .ok (.value v) u := by intro u; go_simp <;> with_reducible rfl) (e : a.put o.dst v = a' := by first | (simp only [Act.put, List.setIfInBounds_toArray, List.set_cons_zero, List.set_cons_succ]; rfl) | rfl) : wpSeq P ops Q X ((i, 0) :: rest) a w := seq_calc ho hw hy (e ▸ h)
theorem zqA {v : Value} (h : wpSeq P ops Q X rest (a.put o.dst v) w) (ho : ops[i]? = some o := by simp only [List.getElem?_toArray, List.getElem?_cons_succ, List.getElem?_cons_zero]; rfl) (hw : Region.wanted o (yielded ops a.tmps) = true := by rfl)
  (hy : ∀ u, (execOp a.eval o).run P u = .ok (.value v) u := by intro u; go_simp <;> with_reducible rfl) : wpSeq P ops Q X ((i, 0) :: rest) a w := seq_calc ho hw hy h
theorem zqK {k : Nat} (h : wpSeq P ops Q X rest (a.put o.dst undef) w) (ho : ops[i]? = some o := by simp only [List.getElem?_toArray, List.getElem?_cons_succ, List.getElem?_cons_zero]; rfl) (hw : Region.wanted o (yielded ops a.tmps) = false := by rfl) : wpSeq P ops Q X ((i, k) :: rest) a w := seq_skip ho hw h
theorem zq1 {v : Value} {t : TypeId} {x : Operand} {p : Addr} {d : TypeDesc} (hu : P.underlying t = some d) (h : wpSeq P ops Q X rest (a.put o.dst v) w) (ho : ops[i]? = some o := by simp only [List.getElem?_toArray, List.getElem?_cons_succ, List.getElem?_cons_zero]; rfl) (hw : Region.wanted o (yielded ops a.tmps) = true := by rfl)
  (hop : o.op = .load t x := by rfl) (hx : a.eval x = .pointer (some p) := by rfl) (hd : d.isRow = false := by rfl) (hc : w.cell? p = some v := by go_simp <;> with_reducible rfl) (hX : ¬ X p.block := by first | exact id | assumption | (simp; done) | (simp; omega)) : wpSeq P ops Q X ((i, 1) :: rest) a w := seq_load1 ho hw hop hx hu hd hc hX h
theorem zqL (cs : List Value) {t : TypeId} {x : Operand} {b off : Nat} {d : TypeDesc} (hu : P.underlying t = some d) (h : wpSeq P ops Q X rest (a.put o.dst (.agg cs.toArray)) w) (ho : ops[i]? = some o := by simp only [List.getElem?_toArray, List.getElem?_cons_succ, List.getElem?_cons_zero]; rfl) (hw : Region.wanted o (yielded ops a.tmps) = true := by rfl)
  (hop : o.op = .load t x := by rfl) (hx : a.eval x = .pointer (some ⟨b, off, none⟩) := by rfl) (hd : d.isRow = true := by rfl) (hi : (P.info? t).map (·.size) = some cs.length := by kernel_rfl) (hc : w.rangeAt b off cs := by first | (with_reducible assumption) | (refine cellsAre_range ?_; simp only [cellsAre]; (repeat' (first | exact True.intro | apply And.intro)); all_goals (go_simp <;> with_reducible rfl))) (hX : ¬ X b := by first | exact id | assumption | (simp; done) | (simp; omega)) : wpSeq P ops Q X ((i, 1) :: rest) a w := seq_loads cs ho hw hop hx hu hd hi hc hX h
theorem zqD (h : ∀ K : Act → World → Prop, Hid (∀ a' w', Chg X w w' → wpSeq P ops Q X rest a' w' → K a' w') → o.wp P a w K Q) (ho : ops[i]? = some o := by simp only [List.getElem?_toArray, List.getElem?_cons_succ, List.getElem?_cons_zero]; rfl) (hw : Region.wanted o (yielded ops a.tmps) = true := by rfl) : wpSeq P ops Q X ((i, 2) :: rest) a w := seq_do ho hw h
theorem zqE (h : ∀ K : Act → World → Prop, Hid (∀ a' w', wpSeq P ops Q X rest a' w' → K a' w') → o.wp P a w K Q) (ho : ops[i]? = some o := by simp only [List.getElem?_toArray, List.getElem?_cons_succ, List.getElem?_cons_zero]; rfl) (hw : Region.wanted o (yielded ops a.tmps) = true := by rfl) : wpSeq P ops Q X ((i, 3) :: rest) a w := seq_last ho hw h
end
end Go.Proofs.YtolhmibejhldkaaGreatDoor
namespace Go.Proofs.YtolhmibejhldkaaGreatDoor
open Go.RowKit Go.Proofs
theorem hkA {K R : Act → World → Prop} {X : Nat → Prop} {b : Act} {w u : World} (hK : Hid (∀ a' w', Chg X w w' → R a' w' → K a' w')) (hc : Chg X w u := by first | (with_reducible exact Chg.refl _ _) | (with_reducible assumption) | (refine Chg.of_below ?_; with_reducible assumption) | (with_reducible exact (Chg.refl _ _).alloc _) | (with_reducible exact (Chg.refl _ _).drewN _) | (with_reducible exact (Chg.refl _ _).drew) | exact ⟨rfl, rfl, rfl, Nat.le_refl _, fun _ _ _ => rfl⟩ | exact (Chg.refl _ _).setCell (.inl (.inl rfl)) _ | exact (Chg.refl _ _).setCell (.inl (.inr rfl)) _ | exact ((Chg.refl _ _).setCell (.inl (.inl rfl)) _).setCell (.inl (.inl rfl)) _ | exact ((Chg.refl _ _).setCell (.inl (.inr rfl)) _).setCell (.inl (.inr rfl)) _ | exact Chg.drew (Chg.setCell ⟨rfl, rfl, rfl, Nat.le_refl _, fun _ _ _ => rfl⟩ (.inl (.inl rfl)) _) | exact Chg.drew (Chg.setCell ⟨rfl, rfl, rfl, Nat.le_refl _, fun _ _ _ => rfl⟩ (.inl (.inr rfl)) _)) (h : R b u) : K b u := hK.out _ _ hc h
theorem hkI {K R : Act → World → Prop} {X : Nat → Prop} {b : Act} {w u : World} (hK : Hid (∀ a' w', Chg X w w' → R a' w' → K a' w')) (hc : Chg X w u := by first | exact Chg.drewAlloc _ _ _ | (with_reducible exact Chg.refl _ _) | (with_reducible assumption) | (refine Chg.of_below ?_; with_reducible assumption) | (with_reducible exact (Chg.refl _ _).alloc _) | (with_reducible exact (Chg.refl _ _).drewN _) | (with_reducible exact (Chg.refl _ _).drew) | exact ⟨rfl, rfl, rfl, Nat.le_refl _, fun _ _ _ => rfl⟩ | exact (Chg.refl _ _).setCell (.inl (.inl rfl)) _ | exact (Chg.refl _ _).setCell (.inl (.inr rfl)) _ | exact ((Chg.refl _ _).setCell (.inl (.inl rfl)) _).setCell (.inl (.inl rfl)) _ | exact ((Chg.refl _ _).setCell (.inl (.inr rfl)) _).setCell (.inl (.inr rfl)) _ | exact Chg.drew (Chg.setCell ⟨rfl, rfl, rfl, Nat.le_refl _, fun _ _ _ => rfl⟩ (.inl (.inl rfl)) _) | exact Chg.drew (Chg.setCell ⟨rfl, rfl, rfl, Nat.le_refl _, fun _ _ _ => rfl⟩ (.inl (.inr rfl)) _)) (h : R b u) : K b u := hK.out _ _ hc h
end Go.Proofs.YtolhmibejhldkaaGreatDoor

namespace Go.Proofs.YtolhmibejhldkaaGreatDoor
open Go.RowKit Go.Proofs
theorem ret_u64 {a b : Int} (h : a = b) : Ending.returned (.int .u64 a) = .returned (.int .u64 b) := by rw [h]
theorem repeat_any (b : Nat) (hb : b < 256) (w : World) :
    Calls Tryz.prog 187 #[.int .u8 (b : Int)] w fun e w' => e = .returned (.int .u64 ((rep b : Nat) : Int)) ∧ w = w' := by
  go_enter Tryz.func187, Tryz.ntmps187
  go_wp2
  go_ret
  exact ⟨ret_u64 (by unfold rep; omega), rfl⟩
theorem high_any (m : Nat) (hm : m < 18446744073709551616) (w : World) :
    Calls Tryz.prog 174 #[.int .u64 (m : Int)] w fun e w' => e = .returned (.int .u64 ((maskB (highB m) : Nat) : Int)) ∧ w = w' := by
  go_enter Tryz.func174, Tryz.ntmps174
  go_wp2
  go_ret
  exact ⟨ret_u64 (bits_highs m hm), rfl⟩
theorem equal_any (m b : Nat) (hm : m < 18446744073709551616) (hb : b < 256) (w : World) :
    Calls Tryz.prog 177 #[.int .u64 (m : Int), .int .u8 (b : Int)] w fun e w' => e = .returned (.int .u64 ((maskB (equalB m b) : Nat) : Int)) ∧ w = w' := by
  have hr := repeat_any b hb
  have he := equal_bits m b hm hb
  replace he := Lib.hid he
  go_enter Tryz.func177, Tryz.ntmps177
  go_wp2_with (go_at_call 187; refine (hr _).mono ?_; rintro e w' ⟨rfl, rfl⟩)
  go_ret
  exact ⟨ret_u64 he.out, rfl⟩
theorem is_in (i : Int) (h0 : 0 ≤ i) (h1 : i < 8) (w : World) : Calls Tryz.prog 188 #[.int .i64 i] w fun e w' => e = .returned (.bool true) ∧ w = w' := by
  go_enter Tryz.func188, Tryz.ntmps188
  go_wp2
  go_ret
  exact ⟨rfl, rfl⟩
theorem lane_in (m i : Nat) (hm : m < 18446744073709551616) (hi : i < 8) (w : World) :
    Calls Tryz.prog 178 #[.int .u64 (m : Int), .int .i64 (i : Int)] w fun e w' => e = .returned (.tuple #[.int .u8 ((ln m i : Nat) : Int), .bool true]) ∧ w = w' := by
  have h0 : (0 : Int) ≤ i := by omega
  have h1 : (i : Int) < 8 := by omega
  go_enter Tryz.func178, Tryz.ntmps178
  go_wp2_with (go_at_call 188; refine (is_in _ h0 h1 _).mono ?_; rintro e w' ⟨rfl, rfl⟩)
  go_ret2
  exact ⟨by rw [← ln_cast]; rfl, rfl⟩
theorem with_in (m i b : Nat) (hm : m < 18446744073709551616) (hi : i < 8) (hb : b < 256) (w : World) :
    Calls Tryz.prog 190 #[.int .u64 (m : Int), .int .i64 (i : Int), .int .u8 (b : Int)] w fun e w' => e = .returned (.int .u64 ((setL m i b : Nat) : Int)) ∧ w.drewN 1 = w' := by
  have h0 : (0 : Int) ≤ i := by omega
  have h1 : (i : Int) < 8 := by omega
  have he := with_bits m i b hm hi hb
  replace he := Lib.hid he
  go_enter Tryz.func190, Tryz.ntmps190
  go_wp2_with (go_at_call 188; refine (is_in _ h0 h1 _).mono ?_; rintro e w' ⟨rfl, rfl⟩)
  refine wp_region_seq (fun _ => False) #[⟨0, 0, 16384, 1, 0⟩, ⟨0, 0, 32768, 128, 0⟩, ⟨2, 2, 65536, 32768, 0⟩, ⟨5, 7, 131072, 81920, 0⟩, ⟨0, 0, 262144, 4, 0⟩, ⟨16, 16, 524288, 262144, 0⟩, ⟨0, 0, 1048576, 128, 0⟩, ⟨96, 112, 2097152, 1572864, 0⟩, ⟨136, 255, 4194304, 2228224, 0⟩, ⟨511, 511, 64, 4194304, 0⟩] 0 [(0, 0), (1, 0), (2, 0), (3, 0), (4, 0), (5, 0), (6, 0), (7, 0), (8, 0), (9, 0)] (by kernel_rfl) (by kernel_rfl) (by kernel_rfl) (by kernel_rfl) (by kernel_rfl) (by kernel_rfl) (fun c a d v w h => by cases d <;> exact h) ?_
  refine zqC ?_; refine zqC ?_; refine zqC ?_; refine zqC ?_; refine zqC ?_; refine zqC ?_; refine zqC ?_; refine zqC ?_; refine zqC ?_; refine zqC ?_
  refine seq_nil ?_
  go_wp2
  go_ret
  exact ⟨ret_u64 he.out, rfl⟩
end Go.Proofs.YtolhmibejhldkaaGreatDoor

namespace Go.Proofs.YtolhmibejhldkaaGreatDoor
open Go.RowKit
end Go.Proofs.YtolhmibejhldkaaGreatDoor

namespace Go.Proofs.YtolhmibejhldkaaGreatDoor
open Go.RowKit Go.Proofs
end Go.Proofs.YtolhmibejhldkaaGreatDoor

namespace Go.Proofs.YtolhmibejhldkaaGreatDoor
open Go.RowKit Go.Proofs
def Tab64 (w : World) : Prop := ∀ j : Nat, j < 64 → w.cell? ⟨16, j, none⟩ = some (.int .u8 ((Lib.deBruijn64tab.getD j 0 : Nat) : Int))
theorem Tab64.below {w w' : World} (h : Tab64 w) (hb : Below w.heap.size w w') : Tab64 w' := fun j hj => (hb.cell (World.block_lt_of_cell? _ _ (h j hj))).trans (h j hj)
theorem tz_key (x a : Nat) (hx : x < 18446744073709551616) (hx0 : x ≠ 0) (hlow : x &&& (18446744073709551616 - x) = a) :
    IntKind.u64.wrap (bits BinOp.and IntKind.u64 (x : Int) (IntKind.u64.wrap (-(x : Int))) * 285870213051353865) / 288230376151711744 = ((a * 285870213051353865 % 18446744073709551616 / 288230376151711744 : Nat) : Int) := by
  have e1 : IntKind.u64.wrap (-(x : Int)) = ((18446744073709551616 - x : Nat) : Int) := by rw [IntKind.wrap_u64]; omega
  rw [e1, bits_and_u64_nat x _ hx (by omega), hlow, IntKind.wrap_u64]
  omega
set_option maxHeartbeats 800000 in
theorem tz_any (x k : Nat) (hx : x < 18446744073709551616) (hx0 : x ≠ 0) (hk : k < 64) (hlow : x &&& (18446744073709551616 - x) = 2 ^ k) (w : World) (hT : Tab64 w) :
    Calls Tryz.prog 175 #[.int .u64 (x : Int)] w fun e w' => e = .returned (.int .i64 (k : Int)) ∧ w = w' := by
  obtain ⟨hi, htab⟩ := Lib.deBruijn64_at k hk
  have key := tz_key x _ hx hx0 hlow
  obtain ⟨idx, hidx⟩ : ∃ i, i = 2 ^ k * 285870213051353865 % 18446744073709551616 / 288230376151711744 := ⟨_, rfl⟩
  rw [← hidx] at hi htab key
  have hcell := hT idx hi
  rw [htab] at hcell
  have hz : ((x : Int) == 0) = false := by simp; omega
  have hi' : (idx : Int) < 64 := by omega
  clear hidx htab hT hlow hx0
  go_enter Tryz.func175, Tryz.ntmps175
  go_wp2_with (simp only [key])
  go_ret
  exact ⟨rfl, rfl⟩
def firstFrom (f : Nat → Bool) : Nat → Nat → Option Nat
  | 0, _ => none
  | n + 1, k => if f k then some k else firstFrom f n (k + 1)
def firstL (f : Nat → Bool) : Option Nat := firstFrom f 8 0
theorem firstFrom_spec (f : Nat → Bool) : ∀ (n k : Nat), match firstFrom f n k with
    | none => ∀ i, k ≤ i → i < k + n → f i = false
    | some j => k ≤ j ∧ j < k + n ∧ f j = true ∧ ∀ i, k ≤ i → i < j → f i = false := by
  intro n
  induction n with
  | zero => intro k; simp [firstFrom]; intro i h1 h2; omega
  | succ n ih =>
    intro k
    unfold firstFrom
    cases hk : f k
    · simp only [Bool.false_eq_true, if_false]
      have := ih (k + 1)
      cases hf : firstFrom f n (k + 1) with
      | none =>
        rw [hf] at this
        intro i h1 h2
        by_cases e : i = k
        · rw [e]; exact hk
        · exact this i (by omega) (by omega)
      | some j =>
        rw [hf] at this
        obtain ⟨a, b, c, d⟩ := this
        refine ⟨by omega, by omega, c, fun i h1 h2 => ?_⟩
        by_cases e : i = k
        · rw [e]; exact hk
        · exact d i (by omega) h2
    · simp only [if_true]
      exact ⟨Nat.le_refl _, by omega, hk, fun i h1 h2 => by omega⟩
theorem firstL_none {f : Nat → Bool} (h : firstL f = none) : ∀ i, i < 8 → f i = false := by
  have := firstFrom_spec f 8 0
  unfold firstL at h; rw [h] at this
  exact fun i hi => this i (by omega) (by omega)
theorem firstL_some {f : Nat → Bool} {j : Nat} (h : firstL f = some j) : j < 8 ∧ f j = true ∧ ∀ i, i < j → f i = false := by
  have := firstFrom_spec f 8 0
  unfold firstL at h; rw [h] at this
  exact ⟨by omega, this.2.2.1, fun i hi => this.2.2.2 i (by omega) hi⟩
theorem maskB_none {f : Nat → Bool} (h : ∀ i, i < 8 → f i = false) : maskB f = 0 := by
  simp [maskB, ofL, h 0 (by omega), h 1 (by omega), h 2 (by omega), h 3 (by omega), h 4 (by omega), h 5 (by omega), h 6 (by omega), h 7 (by omega)]
theorem maskB_some {f : Nat → Bool} {j : Nat} (h : firstL f = some j) : ∃ m, maskB f = 2 ^ (8 * j + 7) * (2 * m + 1) := by
  obtain ⟨hj, hf, hb⟩ := firstL_some h
  have t : ∀ i, ∃ u, u ≤ 1 ∧ (if f i then 128 else 0) = 128 * u := fun i => by
    cases f i
    · exact ⟨0, by omega, rfl⟩
    · exact ⟨1, by omega, rfl⟩
  have t' : ∀ i, i < j → (if f i then 128 else 0) = 0 := fun i hi => by rw [hb i hi]; rfl
  have tj : (if f j then 128 else 0) = 128 := by rw [hf]; rfl
  obtain ⟨u1, _, e1⟩ := t 1
  obtain ⟨u2, _, e2⟩ := t 2
  obtain ⟨u3, _, e3⟩ := t 3
  obtain ⟨u4, _, e4⟩ := t 4
  obtain ⟨u5, _, e5⟩ := t 5
  obtain ⟨u6, _, e6⟩ := t 6
  obtain ⟨u7, _, e7⟩ := t 7
  unfold maskB ofL
  rcases lt8 hj with rfl | rfl | rfl | rfl | rfl | rfl | rfl | rfl
  · exact ⟨128 * (u1 + 256 * u2 + 65536 * u3 + 16777216 * u4 + 4294967296 * u5 + 1099511627776 * u6 + 281474976710656 * u7), by simp only [tj, e1, e2, e3, e4, e5, e6, e7, Nat.reduceMul, Nat.reduceAdd, Nat.reducePow]; omega⟩
  · exact ⟨128 * (u2 + 256 * u3 + 65536 * u4 + 16777216 * u5 + 4294967296 * u6 + 1099511627776 * u7), by simp only [tj, t' 0 (by omega), e2, e3, e4, e5, e6, e7, Nat.reduceMul, Nat.reduceAdd, Nat.reducePow]; omega⟩
  · exact ⟨128 * (u3 + 256 * u4 + 65536 * u5 + 16777216 * u6 + 4294967296 * u7), by simp only [tj, t' 0 (by omega), t' 1 (by omega), e3, e4, e5, e6, e7, Nat.reduceMul, Nat.reduceAdd, Nat.reducePow]; omega⟩
  · exact ⟨128 * (u4 + 256 * u5 + 65536 * u6 + 16777216 * u7), by simp only [tj, t' 0 (by omega), t' 1 (by omega), t' 2 (by omega), e4, e5, e6, e7, Nat.reduceMul, Nat.reduceAdd, Nat.reducePow]; omega⟩
  · exact ⟨128 * (u5 + 256 * u6 + 65536 * u7), by simp only [tj, t' 0 (by omega), t' 1 (by omega), t' 2 (by omega), t' 3 (by omega), e5, e6, e7, Nat.reduceMul, Nat.reduceAdd, Nat.reducePow]; omega⟩
  · exact ⟨128 * (u6 + 256 * u7), by simp only [tj, t' 0 (by omega), t' 1 (by omega), t' 2 (by omega), t' 3 (by omega), t' 4 (by omega), e6, e7, Nat.reduceMul, Nat.reduceAdd, Nat.reducePow]; omega⟩
  · exact ⟨128 * u7, by simp only [tj, t' 0 (by omega), t' 1 (by omega), t' 2 (by omega), t' 3 (by omega), t' 4 (by omega), t' 5 (by omega), e7, Nat.reduceMul, Nat.reduceAdd, Nat.reducePow]; omega⟩
  · exact ⟨0, by simp only [tj, t' 0 (by omega), t' 1 (by omega), t' 2 (by omega), t' 3 (by omega), t' 4 (by omega), t' 5 (by omega), t' 6 (by omega), Nat.reduceMul, Nat.reduceAdd, Nat.reducePow]⟩
theorem maskB_low {f : Nat → Bool} {j : Nat} (h : firstL f = some j) : maskB f ≠ 0 ∧ maskB f &&& (18446744073709551616 - maskB f) = 2 ^ (8 * j + 7) := by
  obtain ⟨m, hm⟩ := maskB_some h
  have hlt := maskB_lt f
  refine ⟨by rw [hm]; exact Nat.ne_of_gt (Nat.mul_pos (Nat.two_pow_pos _) (by omega)), ?_⟩
  have := Lib.and_neg 64 (8 * j + 7) m (by rw [← hm]; exact hlt)
  rw [← hm] at this; exact this
theorem first_none (m : Nat) (hm : m < 18446744073709551616) (h : firstL (highB m) = none) (w : World) :
    Calls Tryz.prog 141 #[.int .u64 (m : Int)] w fun e w' => e = .returned (.int .i64 (-1)) ∧ w = w' := by
  have hh := high_any m hm
  have h0 := maskB_none (firstL_none h)
  rw [h0] at hh
  clear h h0
  go_enter Tryz.func141, Tryz.ntmps141
  go_wp2_with (go_at_call 174; refine (hh _).mono ?_; rintro e w' ⟨rfl, rfl⟩)
  go_ret
  exact ⟨rfl, rfl⟩
theorem first_some (m j : Nat) (hm : m < 18446744073709551616) (h : firstL (highB m) = some j) (w : World) (hT : Tab64 w) :
    Calls Tryz.prog 141 #[.int .u64 (m : Int)] w fun e w' => e = .returned (.int .i64 (j : Int)) ∧ w = w' := by
  have hh := high_any m hm
  obtain ⟨h1, h2⟩ := maskB_low h
  have hj := (firstL_some h).1
  have ht := tz_any _ (8 * j + 7) (maskB_lt _) h1 (by omega) h2 w hT
  obtain ⟨x, hx⟩ : ∃ x, x = maskB (highB m) := ⟨_, rfl⟩
  rw [← hx] at hh ht h1
  have hz : ((x : Int) == 0) = false := by simp; omega
  have hq : ((8 * j + 7 : Nat) : Int) / 8 = j := by omega
  have hj' : ((8 * j + 7 : Nat) : Int) ≤ 63 := by omega
  have hj2 : (0 : Int) ≤ ((8 * j + 7 : Nat) : Int) := by omega
  generalize ((8 * j + 7 : Nat) : Int) = z at *
  clear h h1 h2 hx hm
  go_enter Tryz.func141, Tryz.ntmps141
  go_wp2_with (first | (go_at_call 174; refine (hh _).mono ?_; rintro e w' ⟨rfl, rfl⟩) | (go_at_call 175; refine ht.mono ?_; rintro e w' ⟨rfl, rfl⟩))
  go_ret
  exact ⟨by rw [← hq]; rfl, rfl⟩
end Go.Proofs.YtolhmibejhldkaaGreatDoor

namespace Go.Proofs.YtolhmibejhldkaaGreatDoor
open Go.RowKit Go.Proofs
attribute [local go_sem] Oper.semAt_some wide_depth round_depth wide_fn round_fn
def lanesL (f : Nat → Bool) : List Nat := (List.range 8).filter f
theorem lanesL_mem {f : Nat → Bool} {k : Nat} : k ∈ lanesL f ↔ k < 8 ∧ f k = true := by simp [lanesL]
theorem lanesL_pair (f : Nat → Bool) : (lanesL f).Pairwise (· < ·) := List.Pairwise.filter _ List.pairwise_lt_range
theorem lanesL_len (f : Nat → Bool) : (lanesL f).length ≤ 8 := by
  have := List.length_filter_le f (List.range 8)
  simpa [lanesL] using this
theorem lanesL_congr {f g : Nat → Bool} (h : ∀ k, k < 8 → f k = g k) : lanesL f = lanesL g := by
  unfold lanesL
  exact List.filter_congr fun k hk => h k (by simpa using hk)
def restF (f : Nat → Bool) (i : Nat) (k : Nat) : Bool := decide (k ∈ (lanesL f).drop i)
theorem restF_zero (f : Nat → Bool) : ∀ k, k < 8 → restF f 0 k = f k := by
  intro k hk
  unfold restF
  rw [List.drop_zero]
  cases h : f k
  · rw [decide_eq_false_iff_not, lanesL_mem]; simp [h]
  · rw [decide_eq_true_iff, lanesL_mem]; exact ⟨hk, h⟩
theorem firstL_eq {f : Nat → Bool} {j : Nat} (hj : j < 8) (hf : f j = true) (hb : ∀ i, i < j → f i = false) : firstL f = some j := by
  cases h : firstL f with
  | none => have := firstL_none h j hj; rw [hf] at this; cases this
  | some i =>
    obtain ⟨h1, h2, h3⟩ := firstL_some h
    rcases Nat.lt_trichotomy i j with h' | h' | h'
    · rw [hb i h'] at h2; cases h2
    · rw [h']
    · rw [h3 j h'] at hf; cases hf
theorem drop_cons (f : Nat → Bool) (i : Nat) (hi : i < (lanesL f).length) : (lanesL f).drop i = (lanesL f)[i] :: (lanesL f).drop (i + 1) := List.drop_eq_getElem_cons hi
theorem drop_gt (f : Nat → Bool) (i : Nat) (hi : i < (lanesL f).length) : ∀ k ∈ (lanesL f).drop (i + 1), (lanesL f)[i] < k := by
  have h := (lanesL_pair f).drop (i := i)
  rw [drop_cons f i hi, List.pairwise_cons] at h
  exact h.1
theorem restF_first (f : Nat → Bool) (i : Nat) (hi : i < (lanesL f).length) : firstL (restF f i) = some (lanesL f)[i] := by
  have hm : (lanesL f)[i] ∈ lanesL f := List.getElem_mem hi
  refine firstL_eq (lanesL_mem.1 hm).1 ?_ fun k hk => ?_
  · unfold restF; rw [decide_eq_true_iff, drop_cons f i hi]; exact List.mem_cons_self
  · unfold restF; rw [decide_eq_false_iff_not, drop_cons f i hi]
    intro h
    rcases List.mem_cons.1 h with h | h
    · omega
    · have := drop_gt f i hi k h; omega
theorem restF_next (f : Nat → Bool) (i : Nat) (hi : i < (lanesL f).length) (k : Nat) : restF f (i + 1) k = (restF f i k && decide (k ≠ (lanesL f)[i])) := by
  unfold restF
  rw [Bool.eq_iff_iff, Bool.and_eq_true, decide_eq_true_iff, decide_eq_true_iff, decide_eq_true_iff, drop_cons f i hi]
  constructor
  · intro h; exact ⟨List.mem_cons_of_mem _ h, fun e => by have := drop_gt f i hi k h; omega⟩
  · rintro ⟨h1, h2⟩
    rcases List.mem_cons.1 h1 with h | h
    · exact absurd h h2
    · exact h
theorem restF_last (f : Nat → Bool) (k : Nat) : restF f (lanesL f).length k = false := by
  unfold restF; simp
theorem maskB_congr {f g : Nat → Bool} (h : ∀ k, k < 8 → f k = g k) : maskB f = maskB g := ofL_congr fun i hi => by rw [h i hi]
theorem and_pred (k m : Nat) : (2 ^ k * (2 * m + 1)) &&& (2 ^ k * (2 * m + 1) - 1) = 2 ^ k * (2 * m) := by
  have hp : 0 < 2 ^ k := Nat.two_pow_pos k
  have e1 : 2 ^ k * (2 * m + 1) = 2 ^ k * (2 * m + 1) + 0 := rfl
  have e2 : 2 ^ k * (2 * m + 1) - 1 = 2 ^ k * (2 * m) + (2 ^ k - 1) := by rw [Nat.mul_add]; omega
  have e3 : 2 ^ k * (2 * m) = 2 ^ k * (2 * m) + 0 := rfl
  apply Nat.eq_of_testBit_eq
  intro j
  rw [Nat.testBit_and, e2]
  conv => lhs; rw [e1]
  conv => rhs; rw [e3]
  rw [Nat.testBit_two_pow_mul_add _ hp, Nat.testBit_two_pow_mul_add _ (by omega), Nat.testBit_two_pow_mul_add _ hp]
  split
  · simp
  · cases hj : j - k with
    | zero => simp
    | succ n =>
      rw [Nat.testBit_succ, Nat.testBit_succ]
      have d1 : (2 * m + 1) / 2 = m := by omega
      have d2 : 2 * m / 2 = m := by omega
      rw [d1, d2]; simp
theorem mask_drop {f g : Nat → Bool} {j : Nat} (h : firstL f = some j) (hg : ∀ k, k < 8 → g k = (f k && decide (k ≠ j))) : maskB f &&& (maskB f - 1) = maskB g := by
  obtain ⟨hj, hf, _⟩ := firstL_some h
  obtain ⟨m, hm⟩ := maskB_some h
  have hs : maskB f = maskB g + 2 ^ (8 * j + 7) := by
    have t : ∀ i, i < 8 → (if f i then 128 else 0) = (if g i then 128 else 0) + (if i = j then 128 else 0) := fun i hi => by
      rw [hg i hi]
      by_cases e : i = j
      · subst e; simp [hf]
      · cases f i <;> simp [e]
    have t0 := t 0 (by omega); have t1 := t 1 (by omega); have t2 := t 2 (by omega); have t3 := t 3 (by omega)
    have t4 := t 4 (by omega); have t5 := t 5 (by omega); have t6 := t 6 (by omega); have t7 := t 7 (by omega)
    unfold maskB ofL
    simp only [t0, t1, t2, t3, t4, t5, t6, t7]
    rcases lt8 hj with rfl | rfl | rfl | rfl | rfl | rfl | rfl | rfl <;> simp <;> omega
  have e : 2 ^ (8 * j + 7) * (2 * m) = maskB g := by
    have : 2 ^ (8 * j + 7) * (2 * m + 1) = 2 ^ (8 * j + 7) * (2 * m) + 2 ^ (8 * j + 7) := by rw [Nat.mul_add, Nat.mul_one]
    omega
  rw [hm, and_pred, e]
theorem maskB_high (f : Nat → Bool) : ∀ k, k < 8 → highB (maskB f) k = f k := by
  intro k hk
  unfold highB
  rw [ln_maskB f k hk]
  cases f k <;> simp
theorem mask_next (f : Nat → Bool) (i : Nat) (hi : i < (lanesL f).length) : bits .and .u64 (maskB (restF f i) : Int) (IntKind.u64.wrap ((maskB (restF f i) : Int) - 1)) = ((maskB (restF f (i + 1)) : Nat) : Int) := by
  have h1 := restF_first f i hi
  have hne := (maskB_low h1).1
  have hlt := maskB_lt (restF f i)
  rw [show ((maskB (restF f i) : Int) - 1) = ((maskB (restF f i) - 1 : Nat) : Int) by omega, IntWalk.u64_in _ (by omega), bits_and_u64_nat _ _ hlt (by omega), mask_drop h1 fun k _ => restF_next f i hi k]
theorem rest_first (f : Nat → Bool) (i : Nat) (hi : i < (lanesL f).length) : firstL (highB (maskB (restF f i))) = some (lanesL f)[i] := by
  have h := restF_first f i hi
  obtain ⟨h1, h2, h3⟩ := firstL_some h
  exact firstL_eq h1 ((maskB_high _ _ h1).trans h2) fun k hk => (maskB_high _ _ (by omega)).trans (h3 k hk)
theorem lanes_any (m : Int) (w : World) :
    Calls Tryz.prog 143 #[.int .u64 m] w fun e w' => e = .returned (.func (.func 176) #[] #[.pointer (some ⟨w.heap.size, 0, none⟩)]) ∧ w.alloc (.cells #[.int .u64 m] 38) = w' := by
  go_enter Tryz.func143, Tryz.ntmps143
  go_wp2
  go_ret
  exact ⟨rfl, rfl⟩
theorem enters_lanes (args : Array Value) (w : World) : (callFunc 176 args).run Tryz.prog w = .ok (.enter 176 args) w :=
  enters_of Tryz.func176 (by kernel_rfl) rfl args w
def laneAt (f : Nat → Bool) (i : Nat) : Nat := (lanesL f).getD i 0
set_option maxRecDepth 100000 in
set_option maxHeartbeats 2000000 in
theorem lanes_gives (m : Nat) (hm : m < 18446744073709551616) (B : Nat) (w : World) (hc : w.cell? ⟨B, 0, none⟩ = some (.int .u64 (m : Int))) (hT : Tab64 w) :
    GivesAt Tryz.prog 176 #[.pointer (some ⟨B, 0, none⟩)] (fun i => #[.int .i64 ((laneAt (highB m) i : Nat) : Int)]) (lanesL (highB m)).length (fun b => b = B ∨ b = 16) w := by
  intro l J Jx W hW _ hY _ h0
  have gc : ∀ W1, Same (fun b => b = B ∨ b = 16) W W1 → W1.cell? ⟨B, 0, none⟩ = some (.int .u64 (m : Int)) := fun W1 h1 => ((hW.trans h1).cell (a := ⟨B, 0, none⟩) (Or.inl rfl)).trans hc
  have gT : ∀ W1, Same (fun b => b = B ∨ b = 16) W W1 → Tab64 W1 := fun W1 h1 j hj => ((hW.trans h1).cell (a := ⟨16, j, none⟩) (Or.inr rfl)).trans (hT j hj)
  have cW := gc W (Same.refl _ _)
  have hh := high_any m hm
  obtain ⟨f, hf⟩ : ∃ f, f = highB m := ⟨_, rfl⟩
  rw [← hf] at hY hh ⊢
  rw [show maskB f = maskB (restF f 0) from (maskB_congr (restF_zero f)).symm] at hh
  have HN := Lib.hid (mask_next f)
  have HF := Lib.hid (rest_first f)
  have HL := Lib.hid (restF_last f)
  have hG := Lib.hid gT
  have hY' := Lib.hid hY
  replace hh := Lib.hid hh
  clear gc gT hY hc hT hf
  refine callsIn_of_wp Tryz.func176 rfl trivial ?_ rfl
  simp only [Tryz.ntmps176, List.size_toArray, List.length_cons, List.length_nil, Nat.reduceAdd, Nat.reduceSub, Array.replicate_succ, Array.replicate_zero, List.push_toArray, List.append_toArray, List.nil_append, List.cons_append]
  gi_wp2_with (gi_at_call 174; refine (callsIn_wide.2 (hh.out _)).mono ?_; rintro e w' ⟨rfl, rfl⟩)
  gi_loopw [3] (fun v3 wr => ∃ k : Nat, k ≤ (lanesL f).length ∧ v3 = .int .u64 ((maskB (restF f k) : Nat) : Int) ∧ J k wr ∧ Same (fun b => b = B ∨ b = 16) W wr)
    (fun v3 _ => (intOf v3).toNat)
  case atStart => exact ⟨0, Nat.zero_le _, rfl, h0, Same.refl _ _⟩
  case round =>
    obtain ⟨k, hk, rfl, hJ, hB⟩ := hrel
    by_cases hlt : k < (lanesL f).length
    · have hm' := HN.out k hlt
      have hfi := first_some _ _ (maskB_lt (restF f k)) (HF.out k hlt) wr (hG.out wr hB)
      obtain ⟨fn, tmps, assign, body, hy, hR⟩ := hY'.out k wr hlt hJ hB
      have hne := (maskB_low (restF_first f k hlt)).1
      have hla : laneAt f k = (lanesL f)[k] := by simp [laneAt, hlt]
      rw [← hla] at hfi
      have hz : ((maskB (restF f k) : Int) != 0) = true := by simp; omega
      have hdec : maskB (restF f (k + 1)) < maskB (restF f k) := by
        have h1 := restF_first f k hlt
        rw [← mask_drop h1 fun j _ => restF_next f k hlt j]
        exact Nat.lt_of_le_of_lt Nat.and_le_right (by omega)
      replace hdec := Lib.hid hdec
      replace hla := Lib.hid hla
      replace hfi := Lib.hid hfi
      gi_wp2_with (gi_at_call 141; refine (callsIn_wide.2 hfi.out).mono ?_; rintro e w' ⟨rfl, rfl⟩)
      refine hR.mono ?_
      rintro e W' (⟨rfl, hJ', hB'⟩ | ⟨rfl, hx⟩)
      · gi_wp2
        go_roundw
        case rel => exact ⟨k + 1, by omega, by first | rfl | go_num, hJ', hB.trans hB'⟩
        case measure => have := hdec.out; simp [intOf]; omega
      · gi_wp2
        refine bodyPost_ret (results_none rfl _ _ _) rfl ?_
        exact ⟨⟨_, rfl⟩, .inr hx⟩
    · obtain rfl : k = (lanesL f).length := by omega
      have hz : maskB (restF f (lanesL f).length) = 0 := maskB_none fun i _ => HL.out i
      rw [hz]
      gi_wp2
      go_end0
      exact ⟨⟨_, rfl⟩, .inl hJ⟩
end Go.Proofs.YtolhmibejhldkaaGreatDoor

namespace Go.Proofs.YtolhmibejhldkaaGreatDoor
open Go.RowKit Go.Proofs
end Go.Proofs.YtolhmibejhldkaaGreatDoor

namespace Go.Proofs.YtolhmibejhldkaaGreatDoor
open Go.RowKit Go.Proofs
def one (b : Bool) : Nat := if b then 1 else 0
def stages (v n : Nat) : Prop :=
  (64 * v) &&& 6148914691236517205 = 64 * v ∧ (128 * v) &&& 6148914691236517205 = 0 ∧ (16 * v) &&& 3689348814741910323 = 16 * v ∧ (64 * v) &&& 3689348814741910323 = 0 ∧
  (v + 16 * v) &&& 1085102592571150095 = v ∧ (v + v / 256 + (v + v / 256) / 65536 + (v + v / 256 + (v + v / 256) / 65536) / 4294967296) &&& 127 = n
instance (v n : Nat) : Decidable (stages v n) := by unfold stages; infer_instance
end Go.Proofs.YtolhmibejhldkaaGreatDoor

namespace Go.Proofs.YtolhmibejhldkaaGreatDoor
open Go.RowKit Go.Proofs
attribute [local go_sem] Oper.semAt_some wide_depth round_depth wide_fn round_fn
end Go.Proofs.YtolhmibejhldkaaGreatDoor
