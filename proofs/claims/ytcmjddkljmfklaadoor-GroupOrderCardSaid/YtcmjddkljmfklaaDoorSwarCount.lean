/- How many lanes a mask tells. No condition. -/
import Derived.Test.YtcmjddkljmfklaaDoorSwar
import Derived.Test.YtcmjddkljmfklaaDoorSwarIter
namespace Go.Proofs.YtcmjddkljmfklaaDoor
set_option linter.unusedVariables false
set_option linter.unusedSimpArgs false
open Go.RowKit Go.Proofs

def one (b : Bool) : Nat := if b then 1 else 0
def mk8 (b0 b1 b2 b3 b4 b5 b6 b7 : Bool) : Nat := one b0 + 256 * one b1 + 65536 * one b2 + 16777216 * one b3 + 4294967296 * one b4 + 1099511627776 * one b5 + 281474976710656 * one b6 + 72057594037927936 * one b7
def cnt8 (b0 b1 b2 b3 b4 b5 b6 b7 : Bool) : Nat := one b0 + one b1 + one b2 + one b3 + one b4 + one b5 + one b6 + one b7
/-- the stages of OnesCount64, at 128 v -/
def stages (v n : Nat) : Prop :=
  (64 * v) &&& 6148914691236517205 = 64 * v ∧ (128 * v) &&& 6148914691236517205 = 0 ∧ (16 * v) &&& 3689348814741910323 = 16 * v ∧ (64 * v) &&& 3689348814741910323 = 0 ∧
  (v + 16 * v) &&& 1085102592571150095 = v ∧ (v + v / 256 + (v + v / 256) / 65536 + (v + v / 256 + (v + v / 256) / 65536) / 4294967296) &&& 127 = n
instance (v n : Nat) : Decidable (stages v n) := by unfold stages; infer_instance
theorem stages_all : ∀ b0 b1 b2 b3 b4 b5 b6 b7 : Bool, stages (mk8 b0 b1 b2 b3 b4 b5 b6 b7) (cnt8 b0 b1 b2 b3 b4 b5 b6 b7) := by decide +kernel
theorem one_le (b : Bool) : one b ≤ 1 := by cases b <;> decide
theorem maskB_mk (f : Nat → Bool) : maskB f = 128 * mk8 (f 0) (f 1) (f 2) (f 3) (f 4) (f 5) (f 6) (f 7) := by
  have t : ∀ b : Bool, (if b then 128 else 0) = 128 * one b := fun b => by cases b <;> rfl
  unfold maskB ofL mk8
  simp only [t]
  omega
theorem lanesL_cnt (f : Nat → Bool) : (lanesL f).length = cnt8 (f 0) (f 1) (f 2) (f 3) (f 4) (f 5) (f 6) (f 7) := by
  have h : ∀ (k n : Nat), ((List.range' k n).filter f).length = (List.range' k n).foldr (fun i s => one (f i) + s) 0 := by
    intro k n
    induction n generalizing k with
    | zero => rfl
    | succ n ih =>
      rw [List.range'_succ, List.filter_cons, List.foldr_cons, ← ih]
      cases f k <;> simp [one] <;> omega
  have := h 0 8
  unfold lanesL
  rw [List.range_eq_range', this]
  simp [List.range', cnt8]
  omega

set_option maxHeartbeats 1600000 in
theorem ones_any (f : Nat → Bool) (w : World) :
    Calls Tryd.prog 120 #[.int .u64 (maskB f : Int)] w fun e w' => e = .returned (.int .i64 ((lanesL f).length : Int)) ∧ w = w' := by
  have hst := stages_all (f 0) (f 1) (f 2) (f 3) (f 4) (f 5) (f 6) (f 7)
  rw [← lanesL_cnt] at hst
  have hx := maskB_mk f
  have hlt := maskB_lt f
  have hn := lanesL_len f
  generalize mk8 (f 0) (f 1) (f 2) (f 3) (f 4) (f 5) (f 6) (f 7) = v at hst hx
  generalize (lanesL f).length = n at hst hn ⊢
  generalize maskB f = x at *
  obtain ⟨s1, s2, s3, s4, s5, s6⟩ := hst
  have hv : v < 144115188075855872 := by omega
  have q1 : (x : Int) / 2 = ((64 * v : Nat) : Int) := by omega
  have b1 : bits .and .u64 ((64 * v : Nat) : Int) 6148914691236517205 = ((64 * v : Nat) : Int) := by
    have := bits_and_u64_nat (64 * v) 6148914691236517205 (by omega) (by decide); rw [s1] at this; exact this
  have b2 : bits .and .u64 (x : Int) 6148914691236517205 = 0 := by
    have := bits_and_u64_nat (128 * v) 6148914691236517205 (by omega) (by decide); rw [s2, ← hx] at this; exact this
  have q2 : ((64 * v : Nat) : Int) / 4 = ((16 * v : Nat) : Int) := by omega
  have b3 : bits .and .u64 ((16 * v : Nat) : Int) 3689348814741910323 = ((16 * v : Nat) : Int) := by
    have := bits_and_u64_nat (16 * v) 3689348814741910323 (by omega) (by decide); rw [s3] at this; exact this
  have b4 : bits .and .u64 ((64 * v : Nat) : Int) 3689348814741910323 = 0 := by
    have := bits_and_u64_nat (64 * v) 3689348814741910323 (by omega) (by decide); rw [s4] at this; exact this
  have q3 : ((16 * v : Nat) : Int) / 16 = (v : Int) := by omega
  have b5 : bits .and .u64 ((v : Int) + ((16 * v : Nat) : Int)) 1085102592571150095 = (v : Int) := by
    have := bits_and_u64_nat (v + 16 * v) 1085102592571150095 (by omega) (by decide); rw [s5, Int.natCast_add] at this; exact this
  have q4 : (v : Int) / 256 = ((v / 256 : Nat) : Int) := by omega
  obtain ⟨a, ha⟩ : ∃ a, a = v + v / 256 := ⟨_, rfl⟩
  have a1 : (v : Int) + ((v / 256 : Nat) : Int) = (a : Int) := by omega
  rw [← ha] at s6
  have q5 : (a : Int) / 65536 = ((a / 65536 : Nat) : Int) := by omega
  obtain ⟨b, hb⟩ : ∃ b, b = a + a / 65536 := ⟨_, rfl⟩
  have a2 : (a : Int) + ((a / 65536 : Nat) : Int) = (b : Int) := by omega
  rw [← hb] at s6
  have q6 : (b : Int) / 4294967296 = ((b / 4294967296 : Nat) : Int) := by omega
  obtain ⟨c, hc⟩ : ∃ c, c = b + b / 4294967296 := ⟨_, rfl⟩
  have a3 : (b : Int) + ((b / 4294967296 : Nat) : Int) = (c : Int) := by omega
  rw [← hc] at s6
  have hcl : c < 1152921504606846976 := by omega
  have b6 : bits .and .i64 (c : Int) 127 = (n : Int) := by
    have h1 : (BitVec.ofInt 64 (c : Int)).toNat = c := bv_nat c (by omega)
    show IntKind.i64.wrap ((BitVec.ofInt 64 (c : Int) &&& BitVec.ofInt 64 127).toNat : Int) = _
    rw [BitVec.toNat_and, h1, show (BitVec.ofInt 64 127).toNat = 127 from rfl, s6, IntWalk.i64_in _ (by omega)]
  have l1 : 64 * v < 18446744073709551616 := by omega
  have l2 : 16 * v < 18446744073709551616 := by omega
  have l3 : v + 16 * v < 18446744073709551616 := by omega
  have l4 : a < 18446744073709551616 := by omega
  have l5 : b < 18446744073709551616 := by omega
  clear hx ha hb hc s1 s2 s3 s4 s5 s6
  generalize hy : 64 * v = y at *
  generalize hz : 16 * v = z at *
  generalize v / 256 = v1 at *
  generalize a / 65536 = a' at *
  generalize b / 4294967296 = b' at *
  have i1 : IntKind.u64.wrap (y : Int) = y := IntWalk.u64_in _ (by omega)
  have i2 : IntKind.u64.wrap (z : Int) = z := IntWalk.u64_in _ (by omega)
  have i3 : IntKind.u64.wrap ((v : Int) + (z : Int)) = (v : Int) + (z : Int) := IntWalk.u64_in _ (by omega)
  have i4 : IntKind.u64.wrap (a : Int) = a := IntWalk.u64_in _ (by omega)
  have i5 : IntKind.u64.wrap (b : Int) = b := IntWalk.u64_in _ (by omega)
  have i6 : IntKind.u64.wrap (c : Int) = c := IntWalk.u64_in _ (by omega)
  have i7 : IntKind.i64.wrap (c : Int) = c := IntWalk.i64_in _ (by omega)
  have i8 : wrap64 (c : Int) = c := IntWalk.wrap64_in _ (by omega)
  clear hy hz l1 l2 l3 l4 l5 hcl hlt hv hn
  go_enter Tryd.func120, Tryd.ntmps120
  go_wp2
  go_ret
  exact ⟨by rfl, rfl⟩

theorem count_any (m : Nat) (hm : m < 18446744073709551616) (w : World) :
    Calls Tryd.prog 93 #[.int .u64 (m : Int)] w fun e w' => e = .returned (.int .i64 ((lanesL (highB m)).length : Int)) ∧ w = w' := by
  have hh := Lib.hid (high_any m hm)
  have ho := Lib.hid (ones_any (highB m))
  go_enter Tryd.func93, Tryd.ntmps93
  go_wp2_with (first | (go_at_call 119; refine (hh.out _).mono ?_; rintro e w' ⟨rfl, rfl⟩) | (go_at_call 120; refine (ho.out _).mono ?_; rintro e w' ⟨rfl, rfl⟩))
  go_ret
  exact ⟨rfl, rfl⟩
end Go.Proofs.YtcmjddkljmfklaaDoor
