/- The walk of MixBack. Condition: the errors. -/
import Derived.Test.YtplimhllfbdocaaDoorMix
namespace Go.Proofs.YtplimhllfbdocaaDoor
set_option linter.unusedVariables false
set_option linter.unusedSimpArgs false
open Go.RowKit Go.Proofs

theorem alive29_any (w : World) : Calls Tryd.prog 15 #[] w fun e w' => e = .returned (.bool true) ∧ w = w' := by
  have A : ∀ w : World, Calls Tryd.prog 16 #[.int .i64 4, .int .u64 1] w fun e w' => e = .returned (.tuple #[.int .u64 9223372036854775808, .nilIface]) ∧ w = w' := fun w => by
    have h := of_4 1 (by decide) w
    rw [mixN_4, show revN 1 = 9223372036854775808 by decide +kernel] at h
    exact h
  have B : ∀ w : World, Calls Tryd.prog 16 #[.int .i64 2, .int .u64 2] w fun e w' => e = .returned (.tuple #[.int .u64 4354685564936845354, .nilIface]) ∧ w = w' := fun w => by
    have h := of_2 2 (by decide) w
    rw [mixN_2, show mulF 2 = 4354685564936845354 by decide +kernel] at h
    exact h
  have C : ∀ w : World, Calls Tryd.prog 16 #[.int .i64 5, .int .u64 33] w fun e w' => e = .returned (.tuple #[.int .u64 9511602413006487552, .nilIface]) ∧ w = w' := fun w => by
    have h := of_5 33 (by decide) w
    rw [mixN_5, show shlF 33 = 9511602413006487552 by decide +kernel] at h
    exact h
  replace A := Lib.hid A
  replace B := Lib.hid B
  replace C := Lib.hid C
  go_enter Tryd.func15, Tryd.ntmps15
  go_wp2_with (go_at_call 16; (first | (with_reducible refine (A.out _).mono ?_) | (with_reducible refine (B.out _).mono ?_) | (with_reducible refine (C.out _).mono ?_)); rintro e w' ⟨rfl, rfl⟩)
  go_ret
  exact ⟨rfl, rfl⟩
/-- a key that comes back -/
def BackOk (k a : Nat) (w : World) (e : Ending) (w' : World) : Prop := ∃ y : Nat, y < 18446744073709551616 ∧ mixN k y = a ∧ e = .returned (.tuple #[.int .u64 (y : Int), .nilIface]) ∧ w = w'
theorem back_eq (M F a y q : Int) (h : F * y % M = 1) (hq : q = a * y % M) (ha : 0 ≤ a) (hb : a < M) : q * F % M = a := by
  rw [hq, Int.mul_emod, Int.emod_emod, ← Int.mul_emod, Int.mul_assoc, Int.mul_comm y, Int.mul_emod, h, Int.mul_one, Int.emod_emod]
  exact Int.emod_eq_of_lt ha hb
theorem mulF_int (q : Int) (h0 : 0 ≤ q) : ((mulF q.toNat : Nat) : Int) = q * 11400714819323198485 % 18446744073709551616 := by unfold mulF; omega
theorem u64_range (q z : Int) (hq : q = z % 18446744073709551616) : 0 ≤ q ∧ q < 18446744073709551616 := by omega
theorem mul_back1 (a y : Nat) (q : Int) (ha : a < 18446744073709551616) (h : (11400714819323198485 : Int) * (y : Int) % 18446744073709551616 = 1) (hq : q = (a : Int) * (y : Int) % 18446744073709551616) : q * 11400714819323198485 % 18446744073709551616 = (a : Int) :=
  back_eq _ _ _ _ _ h hq (Int.natCast_nonneg _) (Int.ofNat_lt.2 ha)
theorem mul_back2 (a : Nat) (q : Int) (h0 : 0 ≤ q) (e : q * 11400714819323198485 % 18446744073709551616 = (a : Int)) : mixN 2 q.toNat = a := (mixN_2 _).trans (Int.ofNat.inj ((mulF_int q h0).trans e))
theorem mul_back (a y : Nat) (ha : a < 18446744073709551616) (h : (11400714819323198485 : Int) * (y : Int) % 18446744073709551616 = 1) (q : Int) (hq : q = (a : Int) * (y : Int) % 18446744073709551616) :
    0 ≤ q ∧ q < 18446744073709551616 ∧ mixN 2 q.toNat = a :=
  ⟨(u64_range q _ hq).1, (u64_range q _ hq).2, mul_back2 a q (u64_range q _ hq).1 (mul_back1 a y q ha h hq)⟩
/-- the factor's inverse -/
def InvF (w : World) (e : Ending) (w' : World) : Prop := ∃ y : Nat, y < 18446744073709551616 ∧ (11400714819323198485 : Int) * (y : Int) % 18446744073709551616 = 1 ∧ e = .returned (.tuple #[.int .u64 (y : Int), .nilIface]) ∧ w = w'
theorem facF (y : Nat) (h : ((11400714819323198485 : Nat) : Int) * (y : Int) % 18446744073709551616 = 1) : (11400714819323198485 : Int) * (y : Int) % 18446744073709551616 = 1 := by omega
theorem mix_inj0 (a b : Nat) : mixN 0 a = mixN 0 b ↔ a = b := by rw [mixN_0, mixN_0]
theorem mix_inj4 (a b : Nat) (ha : a < 18446744073709551616) (hb : b < 18446744073709551616) : mixN 4 a = mixN 4 b ↔ a = b := by
  rw [mixN_4, mixN_4]
  refine ⟨fun h => ?_, fun h => by rw [h]⟩
  have := congrArg revN h
  rwa [revN_rev a ha, revN_rev b hb] at this
theorem inv_exists : ∃ y : Int, (11400714819323198485 : Int) * y % 18446744073709551616 = 1 := ⟨17428512612931826493, by decide +kernel⟩
theorem mulF_nat (a : Nat) : ((mulF a : Nat) : Int) = (a : Int) * 11400714819323198485 % 18446744073709551616 := by unfold mulF; omega
theorem nat_range (a : Nat) (ha : a < 18446744073709551616) : 0 ≤ (a : Int) ∧ (a : Int) < 18446744073709551616 := ⟨Int.natCast_nonneg _, Int.ofNat_lt.2 ha⟩
theorem mulF_inj (a b : Nat) (ha : a < 18446744073709551616) (hb : b < 18446744073709551616) (h : mulF a = mulF b) : a = b := by
  obtain ⟨y, hy⟩ := inv_exists
  exact Int.ofNat.inj (mul_inj _ y a b hy (nat_range a ha) (nat_range b hb) ((mulF_nat a).symm.trans ((congrArg Int.ofNat h).trans (mulF_nat b))))
theorem mix_inj2 (a b : Nat) (ha : a < 18446744073709551616) (hb : b < 18446744073709551616) : mixN 2 a = mixN 2 b ↔ a = b :=
  ⟨fun h => mulF_inj a b ha hb ((mixN_2 a).symm.trans (h.trans (mixN_2 b))), fun h => by rw [h]⟩
theorem beq_of {a b x y : Nat} (h : x = y ↔ a = b) : ((x : Int) == (y : Int)) = ((a : Int) == (b : Int)) := by
  rw [Bool.eq_iff_iff, beq_iff_eq, beq_iff_eq]; omega
theorem wrap_one (b y : Nat) (h : (b : Int) * (y : Int) % 18446744073709551616 = 1) : IntKind.u64.wrap ((y : Int) * (b : Int)) = 1 := by rw [IntKind.wrap_u64, Int.mul_comm]; exact h
end Go.Proofs.YtplimhllfbdocaaDoor
