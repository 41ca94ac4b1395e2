/- Counts in plain numbers. No condition. -/
import Derived.WalkKit
namespace Go.Proofs.YtcmjddkljmfklaaDoor
set_option linter.unusedVariables false
set_option linter.unusedSimpArgs false
open Go.RowKit

/-- the least, the greatest of two, kept from the walk's splitting -/
def mnZ (x y : Int) : Int := if y < x then y else x
def mxZ (x y : Int) : Int := if x < y then y else x
theorem mnZ_eq (x y : Int) : mnZ x y = min x y := by unfold mnZ; omega
theorem mxZ_eq (x y : Int) : mxZ x y = max x y := by unfold mxZ; omega
/-- a count as it may be -/
def clampZ (n : Int) : Int := mnZ (mxZ n 0) 1099511627776
theorem clampZ_bd (n : Int) : 0 ≤ clampZ n ∧ clampZ n ≤ 1099511627776 := by unfold clampZ mnZ mxZ; omega
theorem clampZ_id {n : Int} (h0 : 0 ≤ n) (h1 : n ≤ 1099511627776) : clampZ n = n := by unfold clampZ mnZ mxZ; omega
theorem clampZ_neg {n : Int} (h0 : n < 0) : clampZ n = 0 := by unfold clampZ mnZ mxZ; omega
theorem clampZ_big {n : Int} (h0 : 1099511627776 < n) : clampZ n = 1099511627776 := by unfold clampZ mnZ mxZ; omega
/-- two counts together -/
def sumZ (a b : Int) : Int := mnZ (clampZ a + clampZ b) 1099511627776
theorem sumZ_bd (a b : Int) : 0 ≤ sumZ a b ∧ sumZ a b ≤ 1099511627776 := by
  have := clampZ_bd a; have := clampZ_bd b
  unfold sumZ mnZ; omega
theorem sumZ_comm (a b : Int) : sumZ a b = sumZ b a := by unfold sumZ; rw [Int.add_comm]
theorem sumZ_add {a b : Int} (ha : 0 ≤ a) (hb : 0 ≤ b) (h : a + b ≤ 1099511627776) : sumZ a b = a + b := by
  unfold sumZ; rw [clampZ_id ha (by omega), clampZ_id hb (by omega)]; unfold mnZ; omega
theorem clampZ_sum (a b : Int) : clampZ (clampZ a + clampZ b) = sumZ a b := by
  have := clampZ_bd a; have := clampZ_bd b
  unfold sumZ; generalize clampZ a = x at *; generalize clampZ b = y at *
  unfold clampZ mnZ mxZ; omega

theorem run_minZ {P : Program} (w : World) (ts : Array TypeId) (ty : TypeId) (k k' : IntKind) (x y : Int) :
    (Builtin.min_ ts ty #[.int k x, .int k' y]).run P w = .ok (.int k (mnZ x y)) w := by
  simp [Builtin.min_, Builtin.min2]; rfl
theorem run_maxZ {P : Program} (w : World) (ts : Array TypeId) (ty : TypeId) (k k' : IntKind) (x y : Int) :
    (Builtin.max_ ts ty #[.int k x, .int k' y]).run P w = .ok (.int k (mxZ x y)) w := by
  simp [Builtin.max_, Builtin.max2]; rfl
end Go.Proofs.YtcmjddkljmfklaaDoor
