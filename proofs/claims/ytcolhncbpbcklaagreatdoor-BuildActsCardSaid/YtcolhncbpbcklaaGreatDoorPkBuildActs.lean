/- Texts joined: RefRight BuildActs. No condition but those that stand within. -/
import Derived.Test.YtcolhncbpbcklaaGreatDoorProg
import Derived.Handy
import Derived.Lib.Hide
import Derived.WalkSmall
import Derived.Test.YtcolhncbpbcklaaGreatDoorPkSwar
import Derived.Test.YtcolhncbpbcklaaGreatDoorPkMeter
import Derived.Test.YtcolhncbpbcklaaGreatDoorPkErrs
import Derived.Test.YtcolhncbpbcklaaGreatDoorPkGroup
import Derived.Test.YtcolhncbpbcklaaGreatDoorPkTab
import Derived.Test.YtcolhncbpbcklaaGreatDoorPkTab2
import Derived.Test.YtcolhncbpbcklaaGreatDoorPkTake
import Derived.Test.YtcolhncbpbcklaaGreatDoorPkTabM
import Derived.Test.YtcolhncbpbcklaaGreatDoorPkBuild
import Derived.Test.YtcolhncbpbcklaaGreatDoorPkSound
namespace Go.Proofs.YtcolhncbpbcklaaGreatDoor
set_option linter.unusedVariables false
set_option linter.unusedSimpArgs false
open Go.RowKit Go.Proofs

set_option maxHeartbeats 1600000 in
theorem refRight_any (g : Int) (w : World) :
    Calls Tryz.prog 26 #[.int .i64 g] w fun e w' => e = .returned (.bool (rightB g)) ∧ w = w' := by
  have HR := Lib.hid (rightB_iff g)
  go_enter Tryz.func26, Tryz.ntmps26
  go_wp2
  go_loop [3] (fun v => (v = .int .i64 1) ∨ (v = .int .i64 2 ∧ g ≠ 1) ∨ (v = .int .i64 4 ∧ g ≠ 1 ∧ g ≠ 2) ∨ (v = .int .i64 8 ∧ g ≠ 1 ∧ g ≠ 2 ∧ g ≠ 4) ∨ (v = .int .i64 16 ∧ g ≠ 1 ∧ g ≠ 2 ∧ g ≠ 4 ∧ g ≠ 8) ∨ (v = .int .i64 32 ∧ g ≠ 1 ∧ g ≠ 2 ∧ g ≠ 4 ∧ g ≠ 8 ∧ g ≠ 16) ∨ (v = .int .i64 64 ∧ g ≠ 1 ∧ g ≠ 2 ∧ g ≠ 4 ∧ g ≠ 8 ∧ g ≠ 16 ∧ g ≠ 32) ∨ (v = .int .i64 128 ∧ g ≠ 1 ∧ g ≠ 2 ∧ g ≠ 4 ∧ g ≠ 8 ∧ g ≠ 16 ∧ g ≠ 32 ∧ g ≠ 64)) (fun v => 128 - (intOf v).toNat)
  case atStart => exact .inl rfl
  case round =>
    rcases hrel with rfl | ⟨rfl, h1⟩ | ⟨rfl, h1, h2⟩ | ⟨rfl, h1, h2, h4⟩ | ⟨rfl, h1, h2, h4, h8⟩ | ⟨rfl, h1, h2, h4, h8, h16⟩ | ⟨rfl, h1, h2, h4, h8, h16, h32⟩ | ⟨rfl, h1, h2, h4, h8, h16, h32, h64⟩
    · by_cases h : g = 1
      · have hb : rightB g = true := HR.out.2 (by omega)
        replace hb := Lib.hid hb
        subst h
        go_wp2
        go_ret
        exact ⟨by rw [hb.out]; rfl, rfl⟩
      · go_wp2
        go_round
        case rel => first | (refine .inr ?_; simp; omega) | (simp; omega)
        case measure => simp [intOf]
    · by_cases h : g = 2
      · have hb : rightB g = true := HR.out.2 (by omega)
        replace hb := Lib.hid hb
        subst h
        go_wp2
        go_ret
        exact ⟨by rw [hb.out]; rfl, rfl⟩
      · go_wp2
        go_round
        case rel => first | (refine .inr ?_; simp; omega) | (simp; omega)
        case measure => simp [intOf]
    · by_cases h : g = 4
      · have hb : rightB g = true := HR.out.2 (by omega)
        replace hb := Lib.hid hb
        subst h
        go_wp2
        go_ret
        exact ⟨by rw [hb.out]; rfl, rfl⟩
      · go_wp2
        go_round
        case rel => first | (refine .inr ?_; simp; omega) | (simp; omega)
        case measure => simp [intOf]
    · by_cases h : g = 8
      · have hb : rightB g = true := HR.out.2 (by omega)
        replace hb := Lib.hid hb
        subst h
        go_wp2
        go_ret
        exact ⟨by rw [hb.out]; rfl, rfl⟩
      · go_wp2
        go_round
        case rel => first | (refine .inr ?_; simp; omega) | (simp; omega)
        case measure => simp [intOf]
    · by_cases h : g = 16
      · have hb : rightB g = true := HR.out.2 (by omega)
        replace hb := Lib.hid hb
        subst h
        go_wp2
        go_ret
        exact ⟨by rw [hb.out]; rfl, rfl⟩
      · go_wp2
        go_round
        case rel => first | (refine .inr ?_; simp; omega) | (simp; omega)
        case measure => simp [intOf]
    · by_cases h : g = 32
      · have hb : rightB g = true := HR.out.2 (by omega)
        replace hb := Lib.hid hb
        subst h
        go_wp2
        go_ret
        exact ⟨by rw [hb.out]; rfl, rfl⟩
      · go_wp2
        go_round
        case rel => first | (refine .inr ?_; simp; omega) | (simp; omega)
        case measure => simp [intOf]
    · by_cases h : g = 64
      · have hb : rightB g = true := HR.out.2 (by omega)
        replace hb := Lib.hid hb
        subst h
        go_wp2
        go_ret
        exact ⟨by rw [hb.out]; rfl, rfl⟩
      · go_wp2
        go_round
        case rel => first | (refine .inr ?_; simp; omega) | (simp; omega)
        case measure => simp [intOf]
    · have hb : rightB g = false := by rw [Bool.eq_false_iff, ne_eq, HR.out]; omega
      replace hb := Lib.hid hb
      go_wp2
      go_ret
      exact ⟨by rw [hb.out]; rfl, rfl⟩
end Go.Proofs.YtcolhncbpbcklaaGreatDoor

namespace Go.Proofs.YtcolhncbpbcklaaGreatDoor
set_option linter.unusedVariables false
set_option linter.unusedSimpArgs false
open Go.RowKit Go.Proofs
attribute [local go_sem] neq_nilG eql_nilG

/-- the document's build -/
def RB (w : World) (W g k : Nat) (tk : Bool) : Prop := Blk w W 67 #[.int .i64 (g : Int), .int .i64 (k : Int), .bool tk]
theorem RB.chg {X : Nat → Prop} {w w' : World} {W g k : Nat} {tk : Bool} (h : RB w W g k tk) (hc : Chg X w w') (hX : ¬ X W) : RB w' W g k tk := Blk.chg h hc hX
theorem RB.below {w w' : World} {W g k : Nat} {tk : Bool} (h : RB w W g k tk) (hb : Below w.heap.size w w') : RB w' W g k tk := Blk.below h hb (Blk.lt h)
theorem rbcells {w : World} {W g k : Nat} {tk : Bool} (h : RB w W g k tk) : w.cell? ⟨W, 0, none⟩ = some (.int .i64 (g : Int)) ∧ w.cell? ⟨W, 1, none⟩ = some (.int .i64 (k : Int)) ∧ w.cell? ⟨W, 2, none⟩ = some (.bool tk) ∧ W < w.heap.size ∧ (∀ j, w.frozen? ⟨W, j, none⟩ = false) := ⟨Blk.cell h 0, Blk.cell h 1, Blk.cell h 2, Blk.lt h, fun j => Blk.frozen h j⟩
set_option maxRecDepth 100000 in
theorem rstep_yes {w : World} {W g k : Nat} {tk : Bool} (h : RB w W g k tk) (hk : k < g) (hg : g ≤ 64) :
    Calls Tryz.prog 28 #[.pointer (some ⟨W, 0, none⟩)] w fun e w' => e = .returned (.bool true) ∧ RB w' W g (k + 1) tk ∧ Chg (fun b => b = W) w w' := by
  obtain ⟨c0, c1, c2, hl, hf⟩ := rbcells h
  have HB := Lib.hid h
  have e1 : ((k : Int) == (g : Int)) = false := by simp; omega
  have e2 : IntKind.i64.wrap ((k : Int) + 1) = ((k + 1 : Nat) : Int) := by rw [IntKind.wrap_i64]; omega
  clear h
  go_enter Tryz.func28, Tryz.ntmps28
  go_wp2
  refine wp_region_seq (fun _ => False) #[⟨0, 0, 8, 1, 0⟩, ⟨1, 1, 16, 8, 0⟩, ⟨2, 3, 32, 16, 0⟩, ⟨4, 7, 64, 32, 1⟩, ⟨0, 0, 128, 1, 0⟩, ⟨16, 16, 256, 128, 0⟩, ⟨32, 48, 512, 256, 0⟩, ⟨64, 112, 1024, 512, 1⟩, ⟨136, 255, 2048, 1088, 0⟩] 136 [(0, 0), (1, 0), (2, 0), (3, 1), (4, 0), (5, 0), (6, 0), (7, 1), (8, 0)] (by kernel_rfl) (by kernel_rfl) (by kernel_rfl) (by kernel_rfl) (by kernel_rfl) (by kernel_rfl) (fun c a d v w h => by cases d <;> exact h) ?_
  refine seq_calc (by simp only [List.getElem?_toArray, List.getElem?_cons_succ, List.getElem?_cons_zero]; rfl) (by rfl) (fun u => by go_simp <;> with_reducible rfl) ?_
  try simp only [Act.put, List.setIfInBounds_toArray, List.set_cons_zero, List.set_cons_succ]
  refine seq_calc (by simp only [List.getElem?_toArray, List.getElem?_cons_succ, List.getElem?_cons_zero]; rfl) (by rfl) (fun u => by go_simp <;> with_reducible rfl) ?_
  try simp only [Act.put, List.setIfInBounds_toArray, List.set_cons_zero, List.set_cons_succ]
  refine seq_calc (by simp only [List.getElem?_toArray, List.getElem?_cons_succ, List.getElem?_cons_zero]; rfl) (by rfl) (fun u => by go_simp <;> with_reducible rfl) ?_
  try simp only [Act.put, List.setIfInBounds_toArray, List.set_cons_zero, List.set_cons_succ]
  refine seq_load1 (by simp only [List.getElem?_toArray, List.getElem?_cons_succ, List.getElem?_cons_zero]; rfl) (by rfl) rfl rfl Tryz.underlying3 rfl (by go_simp <;> with_reducible rfl) (by first | exact id | assumption | (simp; done) | (simp; omega)) ?_
  try simp only [Act.put, List.setIfInBounds_toArray, List.set_cons_zero, List.set_cons_succ]
  refine seq_calc (by simp only [List.getElem?_toArray, List.getElem?_cons_succ, List.getElem?_cons_zero]; rfl) (by rfl) (fun u => by go_simp <;> with_reducible rfl) ?_
  try simp only [Act.put, List.setIfInBounds_toArray, List.set_cons_zero, List.set_cons_succ]
  refine seq_calc (by simp only [List.getElem?_toArray, List.getElem?_cons_succ, List.getElem?_cons_zero]; rfl) (by rfl) (fun u => by go_simp <;> with_reducible rfl) ?_
  try simp only [Act.put, List.setIfInBounds_toArray, List.set_cons_zero, List.set_cons_succ]
  refine seq_calc (by simp only [List.getElem?_toArray, List.getElem?_cons_succ, List.getElem?_cons_zero]; rfl) (by rfl) (fun u => by go_simp <;> with_reducible rfl) ?_
  try simp only [Act.put, List.setIfInBounds_toArray, List.set_cons_zero, List.set_cons_succ]
  refine seq_load1 (by simp only [List.getElem?_toArray, List.getElem?_cons_succ, List.getElem?_cons_zero]; rfl) (by rfl) rfl rfl Tryz.underlying3 rfl (by go_simp <;> with_reducible rfl) (by first | exact id | assumption | (simp; done) | (simp; omega)) ?_
  try simp only [Act.put, List.setIfInBounds_toArray, List.set_cons_zero, List.set_cons_succ]
  refine seq_calc (by simp only [List.getElem?_toArray, List.getElem?_cons_succ, List.getElem?_cons_zero]; rfl) (by rfl) (fun u => by go_simp <;> with_reducible rfl) ?_
  try simp only [Act.put, List.setIfInBounds_toArray, List.set_cons_zero, List.set_cons_succ]
  refine seq_nil ?_
  go_wp2
  go_ret
  exact ⟨rfl, Blk.set (Blk.drew HB.out) 1 _, ((Chg.refl _ _).drew).set1 _ _⟩
set_option maxRecDepth 100000 in
theorem rstep_no {w : World} {W g : Nat} {tk : Bool} (h : RB w W g g tk) :
    Calls Tryz.prog 28 #[.pointer (some ⟨W, 0, none⟩)] w fun e w' => e = .returned (.bool false) ∧ Below w.heap.size w w' := by
  obtain ⟨c0, c1, c2, hl, hf⟩ := rbcells h
  have e1 : ((g : Int) == (g : Int)) = true := by simp
  clear h
  go_enter Tryz.func28, Tryz.ntmps28
  go_wp2
  refine wp_region_seq (fun _ => False) #[⟨0, 0, 8, 1, 0⟩, ⟨1, 1, 16, 8, 0⟩, ⟨2, 3, 32, 16, 0⟩, ⟨4, 7, 64, 32, 1⟩, ⟨0, 0, 128, 1, 0⟩, ⟨16, 16, 256, 128, 0⟩, ⟨32, 48, 512, 256, 0⟩, ⟨64, 112, 1024, 512, 1⟩, ⟨136, 255, 2048, 1088, 0⟩] 136 [(0, 0), (1, 0), (2, 0), (3, 1), (4, 0), (5, 0), (6, 0), (7, 1), (8, 0)] (by kernel_rfl) (by kernel_rfl) (by kernel_rfl) (by kernel_rfl) (by kernel_rfl) (by kernel_rfl) (fun c a d v w h => by cases d <;> exact h) ?_
  refine seq_calc (by simp only [List.getElem?_toArray, List.getElem?_cons_succ, List.getElem?_cons_zero]; rfl) (by rfl) (fun u => by go_simp <;> with_reducible rfl) ?_
  try simp only [Act.put, List.setIfInBounds_toArray, List.set_cons_zero, List.set_cons_succ]
  refine seq_calc (by simp only [List.getElem?_toArray, List.getElem?_cons_succ, List.getElem?_cons_zero]; rfl) (by rfl) (fun u => by go_simp <;> with_reducible rfl) ?_
  try simp only [Act.put, List.setIfInBounds_toArray, List.set_cons_zero, List.set_cons_succ]
  refine seq_calc (by simp only [List.getElem?_toArray, List.getElem?_cons_succ, List.getElem?_cons_zero]; rfl) (by rfl) (fun u => by go_simp <;> with_reducible rfl) ?_
  try simp only [Act.put, List.setIfInBounds_toArray, List.set_cons_zero, List.set_cons_succ]
  refine seq_load1 (by simp only [List.getElem?_toArray, List.getElem?_cons_succ, List.getElem?_cons_zero]; rfl) (by rfl) rfl rfl Tryz.underlying3 rfl (by go_simp <;> with_reducible rfl) (by first | exact id | assumption | (simp; done) | (simp; omega)) ?_
  try simp only [Act.put, List.setIfInBounds_toArray, List.set_cons_zero, List.set_cons_succ]
  refine seq_calc (by simp only [List.getElem?_toArray, List.getElem?_cons_succ, List.getElem?_cons_zero]; rfl) (by rfl) (fun u => by go_simp <;> with_reducible rfl) ?_
  try simp only [Act.put, List.setIfInBounds_toArray, List.set_cons_zero, List.set_cons_succ]
  refine seq_calc (by simp only [List.getElem?_toArray, List.getElem?_cons_succ, List.getElem?_cons_zero]; rfl) (by rfl) (fun u => by go_simp <;> with_reducible rfl) ?_
  try simp only [Act.put, List.setIfInBounds_toArray, List.set_cons_zero, List.set_cons_succ]
  refine seq_calc (by simp only [List.getElem?_toArray, List.getElem?_cons_succ, List.getElem?_cons_zero]; rfl) (by rfl) (fun u => by go_simp <;> with_reducible rfl) ?_
  try simp only [Act.put, List.setIfInBounds_toArray, List.set_cons_zero, List.set_cons_succ]
  refine seq_load1 (by simp only [List.getElem?_toArray, List.getElem?_cons_succ, List.getElem?_cons_zero]; rfl) (by rfl) rfl rfl Tryz.underlying3 rfl (by go_simp <;> with_reducible rfl) (by first | exact id | assumption | (simp; done) | (simp; omega)) ?_
  try simp only [Act.put, List.setIfInBounds_toArray, List.set_cons_zero, List.set_cons_succ]
  refine seq_calc (by simp only [List.getElem?_toArray, List.getElem?_cons_succ, List.getElem?_cons_zero]; rfl) (by rfl) (fun u => by go_simp <;> with_reducible rfl) ?_
  try simp only [Act.put, List.setIfInBounds_toArray, List.set_cons_zero, List.set_cons_succ]
  refine seq_nil ?_
  go_wp2
  go_ret
  exact ⟨rfl, (Below.refl _ _).drew⟩
set_option maxRecDepth 100000 in
theorem rtake_any {w : World} {W g k : Nat} {tk : Bool} (h : RB w W g k tk) (is : Bool) (hi : is = (decide (k = g) && !tk)) :
    Calls Tryz.prog 30 #[.pointer (some ⟨W, 0, none⟩)] w fun e w' => e = .returned (.bool is) ∧ RB w' W g k (tk || is) ∧ Chg (fun b => b = W) w w' := by
  obtain ⟨c0, c1, c2, hl, hf⟩ := rbcells h
  have HB := Lib.hid h
  clear h
  cases tk with
  | true =>
    obtain rfl : is = false := by rw [hi]; simp
    by_cases hk : k = g
    · have e1 : ((k : Int) == (g : Int)) = true := by simp [hk]
      clear hi hk
      go_enter Tryz.func30, Tryz.ntmps30
      go_wp2
      refine wp_region_seq (fun _ => False) #[⟨0, 0, 16, 1, 0⟩, ⟨1, 1, 32, 16, 0⟩, ⟨2, 3, 64, 32, 0⟩, ⟨4, 7, 128, 64, 1⟩, ⟨0, 0, 256, 1, 0⟩, ⟨16, 16, 512, 256, 0⟩, ⟨32, 48, 1024, 512, 0⟩, ⟨64, 112, 2048, 1024, 1⟩, ⟨136, 255, 4096, 2176, 0⟩, ⟨256, 511, 8192, 4096, 0⟩, ⟨512, 1023, 16384, 8193, 0⟩, ⟨1536, 2047, 32768, 24576, 0⟩, ⟨2560, 4095, 65536, 40960, 0⟩, ⟨4608, 8191, 131072, 73728, 1⟩, ⟨8704, 16383, 262144, 139264, 0⟩, ⟨16896, 32767, 524288, 270336, 0⟩, ⟨65535, 65535, 8, 524288, 0⟩] 8328 [(0, 0), (1, 0), (2, 0), (3, 1), (4, 0), (5, 0), (6, 0), (7, 1), (8, 0), (9, 0), (10, 0), (11, 0), (12, 0), (13, 1), (14, 0), (15, 0), (16, 0)] (by kernel_rfl) (by kernel_rfl) (by kernel_rfl) (by kernel_rfl) (by kernel_rfl) (by kernel_rfl) (fun c a d v w h => by cases d <;> exact h) ?_
      refine seq_calc (by simp only [List.getElem?_toArray, List.getElem?_cons_succ, List.getElem?_cons_zero]; rfl) (by rfl) (fun u => by go_simp <;> with_reducible rfl) ?_
      try simp only [Act.put, List.setIfInBounds_toArray, List.set_cons_zero, List.set_cons_succ]
      refine seq_calc (by simp only [List.getElem?_toArray, List.getElem?_cons_succ, List.getElem?_cons_zero]; rfl) (by rfl) (fun u => by go_simp <;> with_reducible rfl) ?_
      try simp only [Act.put, List.setIfInBounds_toArray, List.set_cons_zero, List.set_cons_succ]
      refine seq_calc (by simp only [List.getElem?_toArray, List.getElem?_cons_succ, List.getElem?_cons_zero]; rfl) (by rfl) (fun u => by go_simp <;> with_reducible rfl) ?_
      try simp only [Act.put, List.setIfInBounds_toArray, List.set_cons_zero, List.set_cons_succ]
      refine seq_load1 (by simp only [List.getElem?_toArray, List.getElem?_cons_succ, List.getElem?_cons_zero]; rfl) (by rfl) rfl rfl Tryz.underlying3 rfl (by go_simp <;> with_reducible rfl) (by first | exact id | assumption | (simp; done) | (simp; omega)) ?_
      try simp only [Act.put, List.setIfInBounds_toArray, List.set_cons_zero, List.set_cons_succ]
      refine seq_calc (by simp only [List.getElem?_toArray, List.getElem?_cons_succ, List.getElem?_cons_zero]; rfl) (by rfl) (fun u => by go_simp <;> with_reducible rfl) ?_
      try simp only [Act.put, List.setIfInBounds_toArray, List.set_cons_zero, List.set_cons_succ]
      refine seq_calc (by simp only [List.getElem?_toArray, List.getElem?_cons_succ, List.getElem?_cons_zero]; rfl) (by rfl) (fun u => by go_simp <;> with_reducible rfl) ?_
      try simp only [Act.put, List.setIfInBounds_toArray, List.set_cons_zero, List.set_cons_succ]
      refine seq_calc (by simp only [List.getElem?_toArray, List.getElem?_cons_succ, List.getElem?_cons_zero]; rfl) (by rfl) (fun u => by go_simp <;> with_reducible rfl) ?_
      try simp only [Act.put, List.setIfInBounds_toArray, List.set_cons_zero, List.set_cons_succ]
      refine seq_load1 (by simp only [List.getElem?_toArray, List.getElem?_cons_succ, List.getElem?_cons_zero]; rfl) (by rfl) rfl rfl Tryz.underlying3 rfl (by go_simp <;> with_reducible rfl) (by first | exact id | assumption | (simp; done) | (simp; omega)) ?_
      try simp only [Act.put, List.setIfInBounds_toArray, List.set_cons_zero, List.set_cons_succ]
      refine seq_calc (by simp only [List.getElem?_toArray, List.getElem?_cons_succ, List.getElem?_cons_zero]; rfl) (by rfl) (fun u => by go_simp <;> with_reducible rfl) ?_
      try simp only [Act.put, List.setIfInBounds_toArray, List.set_cons_zero, List.set_cons_succ]
      refine seq_calc (by simp only [List.getElem?_toArray, List.getElem?_cons_succ, List.getElem?_cons_zero]; rfl) (by rfl) (fun u => by go_simp <;> with_reducible rfl) ?_
      try simp only [Act.put, List.setIfInBounds_toArray, List.set_cons_zero, List.set_cons_succ]
      first
        | (refine seq_skip (by simp only [List.getElem?_toArray, List.getElem?_cons_succ, List.getElem?_cons_zero]; rfl) (by rfl) ?_)
        | (refine seq_calc (by simp only [List.getElem?_toArray, List.getElem?_cons_succ, List.getElem?_cons_zero]; rfl) (by rfl) (fun u => by go_simp <;> with_reducible rfl) ?_)
      try simp only [Act.put, List.setIfInBounds_toArray, List.set_cons_zero, List.set_cons_succ]
      first
        | (refine seq_skip (by simp only [List.getElem?_toArray, List.getElem?_cons_succ, List.getElem?_cons_zero]; rfl) (by rfl) ?_)
        | (refine seq_calc (by simp only [List.getElem?_toArray, List.getElem?_cons_succ, List.getElem?_cons_zero]; rfl) (by rfl) (fun u => by go_simp <;> with_reducible rfl) ?_)
      try simp only [Act.put, List.setIfInBounds_toArray, List.set_cons_zero, List.set_cons_succ]
      first
        | (refine seq_skip (by simp only [List.getElem?_toArray, List.getElem?_cons_succ, List.getElem?_cons_zero]; rfl) (by rfl) ?_)
        | (refine seq_calc (by simp only [List.getElem?_toArray, List.getElem?_cons_succ, List.getElem?_cons_zero]; rfl) (by rfl) (fun u => by go_simp <;> with_reducible rfl) ?_)
      try simp only [Act.put, List.setIfInBounds_toArray, List.set_cons_zero, List.set_cons_succ]
      first
        | (refine seq_skip (by simp only [List.getElem?_toArray, List.getElem?_cons_succ, List.getElem?_cons_zero]; rfl) (by rfl) ?_)
        | (refine seq_load1 (by simp only [List.getElem?_toArray, List.getElem?_cons_succ, List.getElem?_cons_zero]; rfl) (by rfl) rfl rfl Tryz.underlying4 rfl (by go_simp <;> with_reducible rfl) (by first | exact id | assumption | (simp; done) | (simp; omega)) ?_)
      try simp only [Act.put, List.setIfInBounds_toArray, List.set_cons_zero, List.set_cons_succ]
      first
        | (refine seq_skip (by simp only [List.getElem?_toArray, List.getElem?_cons_succ, List.getElem?_cons_zero]; rfl) (by rfl) ?_)
        | (refine seq_calc (by simp only [List.getElem?_toArray, List.getElem?_cons_succ, List.getElem?_cons_zero]; rfl) (by rfl) (fun u => by go_simp <;> with_reducible rfl) ?_)
      try simp only [Act.put, List.setIfInBounds_toArray, List.set_cons_zero, List.set_cons_succ]
      refine seq_calc (by simp only [List.getElem?_toArray, List.getElem?_cons_succ, List.getElem?_cons_zero]; rfl) (by rfl) (fun u => by go_simp <;> with_reducible rfl) ?_
      try simp only [Act.put, List.setIfInBounds_toArray, List.set_cons_zero, List.set_cons_succ]
      refine seq_calc (by simp only [List.getElem?_toArray, List.getElem?_cons_succ, List.getElem?_cons_zero]; rfl) (by rfl) (fun u => by go_simp <;> with_reducible rfl) ?_
      try simp only [Act.put, List.setIfInBounds_toArray, List.set_cons_zero, List.set_cons_succ]
      refine seq_nil ?_
      go_wp2
      go_ret
      exact ⟨rfl, Blk.set (Blk.drew HB.out) 2 _, ((Chg.refl _ _).drew).set1 _ _⟩
    · have e1 : ((k : Int) == (g : Int)) = false := by simp; omega
      clear hi hk
      go_enter Tryz.func30, Tryz.ntmps30
      go_wp2
      refine wp_region_seq (fun _ => False) #[⟨0, 0, 16, 1, 0⟩, ⟨1, 1, 32, 16, 0⟩, ⟨2, 3, 64, 32, 0⟩, ⟨4, 7, 128, 64, 1⟩, ⟨0, 0, 256, 1, 0⟩, ⟨16, 16, 512, 256, 0⟩, ⟨32, 48, 1024, 512, 0⟩, ⟨64, 112, 2048, 1024, 1⟩, ⟨136, 255, 4096, 2176, 0⟩, ⟨256, 511, 8192, 4096, 0⟩, ⟨512, 1023, 16384, 8193, 0⟩, ⟨1536, 2047, 32768, 24576, 0⟩, ⟨2560, 4095, 65536, 40960, 0⟩, ⟨4608, 8191, 131072, 73728, 1⟩, ⟨8704, 16383, 262144, 139264, 0⟩, ⟨16896, 32767, 524288, 270336, 0⟩, ⟨65535, 65535, 8, 524288, 0⟩] 8328 [(0, 0), (1, 0), (2, 0), (3, 1), (4, 0), (5, 0), (6, 0), (7, 1), (8, 0), (9, 0), (10, 0), (11, 0), (12, 0), (13, 1), (14, 0), (15, 0), (16, 0)] (by kernel_rfl) (by kernel_rfl) (by kernel_rfl) (by kernel_rfl) (by kernel_rfl) (by kernel_rfl) (fun c a d v w h => by cases d <;> exact h) ?_
      refine seq_calc (by simp only [List.getElem?_toArray, List.getElem?_cons_succ, List.getElem?_cons_zero]; rfl) (by rfl) (fun u => by go_simp <;> with_reducible rfl) ?_
      try simp only [Act.put, List.setIfInBounds_toArray, List.set_cons_zero, List.set_cons_succ]
      refine seq_calc (by simp only [List.getElem?_toArray, List.getElem?_cons_succ, List.getElem?_cons_zero]; rfl) (by rfl) (fun u => by go_simp <;> with_reducible rfl) ?_
      try simp only [Act.put, List.setIfInBounds_toArray, List.set_cons_zero, List.set_cons_succ]
      refine seq_calc (by simp only [List.getElem?_toArray, List.getElem?_cons_succ, List.getElem?_cons_zero]; rfl) (by rfl) (fun u => by go_simp <;> with_reducible rfl) ?_
      try simp only [Act.put, List.setIfInBounds_toArray, List.set_cons_zero, List.set_cons_succ]
      refine seq_load1 (by simp only [List.getElem?_toArray, List.getElem?_cons_succ, List.getElem?_cons_zero]; rfl) (by rfl) rfl rfl Tryz.underlying3 rfl (by go_simp <;> with_reducible rfl) (by first | exact id | assumption | (simp; done) | (simp; omega)) ?_
      try simp only [Act.put, List.setIfInBounds_toArray, List.set_cons_zero, List.set_cons_succ]
      refine seq_calc (by simp only [List.getElem?_toArray, List.getElem?_cons_succ, List.getElem?_cons_zero]; rfl) (by rfl) (fun u => by go_simp <;> with_reducible rfl) ?_
      try simp only [Act.put, List.setIfInBounds_toArray, List.set_cons_zero, List.set_cons_succ]
      refine seq_calc (by simp only [List.getElem?_toArray, List.getElem?_cons_succ, List.getElem?_cons_zero]; rfl) (by rfl) (fun u => by go_simp <;> with_reducible rfl) ?_
      try simp only [Act.put, List.setIfInBounds_toArray, List.set_cons_zero, List.set_cons_succ]
      refine seq_calc (by simp only [List.getElem?_toArray, List.getElem?_cons_succ, List.getElem?_cons_zero]; rfl) (by rfl) (fun u => by go_simp <;> with_reducible rfl) ?_
      try simp only [Act.put, List.setIfInBounds_toArray, List.set_cons_zero, List.set_cons_succ]
      refine seq_load1 (by simp only [List.getElem?_toArray, List.getElem?_cons_succ, List.getElem?_cons_zero]; rfl) (by rfl) rfl rfl Tryz.underlying3 rfl (by go_simp <;> with_reducible rfl) (by first | exact id | assumption | (simp; done) | (simp; omega)) ?_
      try simp only [Act.put, List.setIfInBounds_toArray, List.set_cons_zero, List.set_cons_succ]
      refine seq_calc (by simp only [List.getElem?_toArray, List.getElem?_cons_succ, List.getElem?_cons_zero]; rfl) (by rfl) (fun u => by go_simp <;> with_reducible rfl) ?_
      try simp only [Act.put, List.setIfInBounds_toArray, List.set_cons_zero, List.set_cons_succ]
      refine seq_calc (by simp only [List.getElem?_toArray, List.getElem?_cons_succ, List.getElem?_cons_zero]; rfl) (by rfl) (fun u => by go_simp <;> with_reducible rfl) ?_
      try simp only [Act.put, List.setIfInBounds_toArray, List.set_cons_zero, List.set_cons_succ]
      first
        | (refine seq_skip (by simp only [List.getElem?_toArray, List.getElem?_cons_succ, List.getElem?_cons_zero]; rfl) (by rfl) ?_)
        | (refine seq_calc (by simp only [List.getElem?_toArray, List.getElem?_cons_succ, List.getElem?_cons_zero]; rfl) (by rfl) (fun u => by go_simp <;> with_reducible rfl) ?_)
      try simp only [Act.put, List.setIfInBounds_toArray, List.set_cons_zero, List.set_cons_succ]
      first
        | (refine seq_skip (by simp only [List.getElem?_toArray, List.getElem?_cons_succ, List.getElem?_cons_zero]; rfl) (by rfl) ?_)
        | (refine seq_calc (by simp only [List.getElem?_toArray, List.getElem?_cons_succ, List.getElem?_cons_zero]; rfl) (by rfl) (fun u => by go_simp <;> with_reducible rfl) ?_)
      try simp only [Act.put, List.setIfInBounds_toArray, List.set_cons_zero, List.set_cons_succ]
      first
        | (refine seq_skip (by simp only [List.getElem?_toArray, List.getElem?_cons_succ, List.getElem?_cons_zero]; rfl) (by rfl) ?_)
        | (refine seq_calc (by simp only [List.getElem?_toArray, List.getElem?_cons_succ, List.getElem?_cons_zero]; rfl) (by rfl) (fun u => by go_simp <;> with_reducible rfl) ?_)
      try simp only [Act.put, List.setIfInBounds_toArray, List.set_cons_zero, List.set_cons_succ]
      first
        | (refine seq_skip (by simp only [List.getElem?_toArray, List.getElem?_cons_succ, List.getElem?_cons_zero]; rfl) (by rfl) ?_)
        | (refine seq_load1 (by simp only [List.getElem?_toArray, List.getElem?_cons_succ, List.getElem?_cons_zero]; rfl) (by rfl) rfl rfl Tryz.underlying4 rfl (by go_simp <;> with_reducible rfl) (by first | exact id | assumption | (simp; done) | (simp; omega)) ?_)
      try simp only [Act.put, List.setIfInBounds_toArray, List.set_cons_zero, List.set_cons_succ]
      first
        | (refine seq_skip (by simp only [List.getElem?_toArray, List.getElem?_cons_succ, List.getElem?_cons_zero]; rfl) (by rfl) ?_)
        | (refine seq_calc (by simp only [List.getElem?_toArray, List.getElem?_cons_succ, List.getElem?_cons_zero]; rfl) (by rfl) (fun u => by go_simp <;> with_reducible rfl) ?_)
      try simp only [Act.put, List.setIfInBounds_toArray, List.set_cons_zero, List.set_cons_succ]
      refine seq_calc (by simp only [List.getElem?_toArray, List.getElem?_cons_succ, List.getElem?_cons_zero]; rfl) (by rfl) (fun u => by go_simp <;> with_reducible rfl) ?_
      try simp only [Act.put, List.setIfInBounds_toArray, List.set_cons_zero, List.set_cons_succ]
      refine seq_calc (by simp only [List.getElem?_toArray, List.getElem?_cons_succ, List.getElem?_cons_zero]; rfl) (by rfl) (fun u => by go_simp <;> with_reducible rfl) ?_
      try simp only [Act.put, List.setIfInBounds_toArray, List.set_cons_zero, List.set_cons_succ]
      refine seq_nil ?_
      go_wp2
      go_ret
      exact ⟨rfl, Blk.set (Blk.drew HB.out) 2 _, ((Chg.refl _ _).drew).set1 _ _⟩
  | false =>
    by_cases hk : k = g
    · obtain rfl : is = true := by rw [hi]; simp [hk]
      have e1 : ((k : Int) == (g : Int)) = true := by simp [hk]
      clear hi hk
      go_enter Tryz.func30, Tryz.ntmps30
      go_wp2
      refine wp_region_seq (fun _ => False) #[⟨0, 0, 16, 1, 0⟩, ⟨1, 1, 32, 16, 0⟩, ⟨2, 3, 64, 32, 0⟩, ⟨4, 7, 128, 64, 1⟩, ⟨0, 0, 256, 1, 0⟩, ⟨16, 16, 512, 256, 0⟩, ⟨32, 48, 1024, 512, 0⟩, ⟨64, 112, 2048, 1024, 1⟩, ⟨136, 255, 4096, 2176, 0⟩, ⟨256, 511, 8192, 4096, 0⟩, ⟨512, 1023, 16384, 8193, 0⟩, ⟨1536, 2047, 32768, 24576, 0⟩, ⟨2560, 4095, 65536, 40960, 0⟩, ⟨4608, 8191, 131072, 73728, 1⟩, ⟨8704, 16383, 262144, 139264, 0⟩, ⟨16896, 32767, 524288, 270336, 0⟩, ⟨65535, 65535, 8, 524288, 0⟩] 8328 [(0, 0), (1, 0), (2, 0), (3, 1), (4, 0), (5, 0), (6, 0), (7, 1), (8, 0), (9, 0), (10, 0), (11, 0), (12, 0), (13, 1), (14, 0), (15, 0), (16, 0)] (by kernel_rfl) (by kernel_rfl) (by kernel_rfl) (by kernel_rfl) (by kernel_rfl) (by kernel_rfl) (fun c a d v w h => by cases d <;> exact h) ?_
      refine seq_calc (by simp only [List.getElem?_toArray, List.getElem?_cons_succ, List.getElem?_cons_zero]; rfl) (by rfl) (fun u => by go_simp <;> with_reducible rfl) ?_
      try simp only [Act.put, List.setIfInBounds_toArray, List.set_cons_zero, List.set_cons_succ]
      refine seq_calc (by simp only [List.getElem?_toArray, List.getElem?_cons_succ, List.getElem?_cons_zero]; rfl) (by rfl) (fun u => by go_simp <;> with_reducible rfl) ?_
      try simp only [Act.put, List.setIfInBounds_toArray, List.set_cons_zero, List.set_cons_succ]
      refine seq_calc (by simp only [List.getElem?_toArray, List.getElem?_cons_succ, List.getElem?_cons_zero]; rfl) (by rfl) (fun u => by go_simp <;> with_reducible rfl) ?_
      try simp only [Act.put, List.setIfInBounds_toArray, List.set_cons_zero, List.set_cons_succ]
      refine seq_load1 (by simp only [List.getElem?_toArray, List.getElem?_cons_succ, List.getElem?_cons_zero]; rfl) (by rfl) rfl rfl Tryz.underlying3 rfl (by go_simp <;> with_reducible rfl) (by first | exact id | assumption | (simp; done) | (simp; omega)) ?_
      try simp only [Act.put, List.setIfInBounds_toArray, List.set_cons_zero, List.set_cons_succ]
      refine seq_calc (by simp only [List.getElem?_toArray, List.getElem?_cons_succ, List.getElem?_cons_zero]; rfl) (by rfl) (fun u => by go_simp <;> with_reducible rfl) ?_
      try simp only [Act.put, List.setIfInBounds_toArray, List.set_cons_zero, List.set_cons_succ]
      refine seq_calc (by simp only [List.getElem?_toArray, List.getElem?_cons_succ, List.getElem?_cons_zero]; rfl) (by rfl) (fun u => by go_simp <;> with_reducible rfl) ?_
      try simp only [Act.put, List.setIfInBounds_toArray, List.set_cons_zero, List.set_cons_succ]
      refine seq_calc (by simp only [List.getElem?_toArray, List.getElem?_cons_succ, List.getElem?_cons_zero]; rfl) (by rfl) (fun u => by go_simp <;> with_reducible rfl) ?_
      try simp only [Act.put, List.setIfInBounds_toArray, List.set_cons_zero, List.set_cons_succ]
      refine seq_load1 (by simp only [List.getElem?_toArray, List.getElem?_cons_succ, List.getElem?_cons_zero]; rfl) (by rfl) rfl rfl Tryz.underlying3 rfl (by go_simp <;> with_reducible rfl) (by first | exact id | assumption | (simp; done) | (simp; omega)) ?_
      try simp only [Act.put, List.setIfInBounds_toArray, List.set_cons_zero, List.set_cons_succ]
      refine seq_calc (by simp only [List.getElem?_toArray, List.getElem?_cons_succ, List.getElem?_cons_zero]; rfl) (by rfl) (fun u => by go_simp <;> with_reducible rfl) ?_
      try simp only [Act.put, List.setIfInBounds_toArray, List.set_cons_zero, List.set_cons_succ]
      refine seq_calc (by simp only [List.getElem?_toArray, List.getElem?_cons_succ, List.getElem?_cons_zero]; rfl) (by rfl) (fun u => by go_simp <;> with_reducible rfl) ?_
      try simp only [Act.put, List.setIfInBounds_toArray, List.set_cons_zero, List.set_cons_succ]
      first
        | (refine seq_skip (by simp only [List.getElem?_toArray, List.getElem?_cons_succ, List.getElem?_cons_zero]; rfl) (by rfl) ?_)
        | (refine seq_calc (by simp only [List.getElem?_toArray, List.getElem?_cons_succ, List.getElem?_cons_zero]; rfl) (by rfl) (fun u => by go_simp <;> with_reducible rfl) ?_)
      try simp only [Act.put, List.setIfInBounds_toArray, List.set_cons_zero, List.set_cons_succ]
      first
        | (refine seq_skip (by simp only [List.getElem?_toArray, List.getElem?_cons_succ, List.getElem?_cons_zero]; rfl) (by rfl) ?_)
        | (refine seq_calc (by simp only [List.getElem?_toArray, List.getElem?_cons_succ, List.getElem?_cons_zero]; rfl) (by rfl) (fun u => by go_simp <;> with_reducible rfl) ?_)
      try simp only [Act.put, List.setIfInBounds_toArray, List.set_cons_zero, List.set_cons_succ]
      first
        | (refine seq_skip (by simp only [List.getElem?_toArray, List.getElem?_cons_succ, List.getElem?_cons_zero]; rfl) (by rfl) ?_)
        | (refine seq_calc (by simp only [List.getElem?_toArray, List.getElem?_cons_succ, List.getElem?_cons_zero]; rfl) (by rfl) (fun u => by go_simp <;> with_reducible rfl) ?_)
      try simp only [Act.put, List.setIfInBounds_toArray, List.set_cons_zero, List.set_cons_succ]
      first
        | (refine seq_skip (by simp only [List.getElem?_toArray, List.getElem?_cons_succ, List.getElem?_cons_zero]; rfl) (by rfl) ?_)
        | (refine seq_load1 (by simp only [List.getElem?_toArray, List.getElem?_cons_succ, List.getElem?_cons_zero]; rfl) (by rfl) rfl rfl Tryz.underlying4 rfl (by go_simp <;> with_reducible rfl) (by first | exact id | assumption | (simp; done) | (simp; omega)) ?_)
      try simp only [Act.put, List.setIfInBounds_toArray, List.set_cons_zero, List.set_cons_succ]
      first
        | (refine seq_skip (by simp only [List.getElem?_toArray, List.getElem?_cons_succ, List.getElem?_cons_zero]; rfl) (by rfl) ?_)
        | (refine seq_calc (by simp only [List.getElem?_toArray, List.getElem?_cons_succ, List.getElem?_cons_zero]; rfl) (by rfl) (fun u => by go_simp <;> with_reducible rfl) ?_)
      try simp only [Act.put, List.setIfInBounds_toArray, List.set_cons_zero, List.set_cons_succ]
      refine seq_calc (by simp only [List.getElem?_toArray, List.getElem?_cons_succ, List.getElem?_cons_zero]; rfl) (by rfl) (fun u => by go_simp <;> with_reducible rfl) ?_
      try simp only [Act.put, List.setIfInBounds_toArray, List.set_cons_zero, List.set_cons_succ]
      refine seq_calc (by simp only [List.getElem?_toArray, List.getElem?_cons_succ, List.getElem?_cons_zero]; rfl) (by rfl) (fun u => by go_simp <;> with_reducible rfl) ?_
      try simp only [Act.put, List.setIfInBounds_toArray, List.set_cons_zero, List.set_cons_succ]
      refine seq_nil ?_
      go_wp2
      go_ret
      exact ⟨rfl, Blk.set (Blk.drew HB.out) 2 _, ((Chg.refl _ _).drew).set1 _ _⟩
    · obtain rfl : is = false := by rw [hi]; simp [hk]
      have e1 : ((k : Int) == (g : Int)) = false := by simp; omega
      clear hi hk
      go_enter Tryz.func30, Tryz.ntmps30
      go_wp2
      refine wp_region_seq (fun _ => False) #[⟨0, 0, 16, 1, 0⟩, ⟨1, 1, 32, 16, 0⟩, ⟨2, 3, 64, 32, 0⟩, ⟨4, 7, 128, 64, 1⟩, ⟨0, 0, 256, 1, 0⟩, ⟨16, 16, 512, 256, 0⟩, ⟨32, 48, 1024, 512, 0⟩, ⟨64, 112, 2048, 1024, 1⟩, ⟨136, 255, 4096, 2176, 0⟩, ⟨256, 511, 8192, 4096, 0⟩, ⟨512, 1023, 16384, 8193, 0⟩, ⟨1536, 2047, 32768, 24576, 0⟩, ⟨2560, 4095, 65536, 40960, 0⟩, ⟨4608, 8191, 131072, 73728, 1⟩, ⟨8704, 16383, 262144, 139264, 0⟩, ⟨16896, 32767, 524288, 270336, 0⟩, ⟨65535, 65535, 8, 524288, 0⟩] 8328 [(0, 0), (1, 0), (2, 0), (3, 1), (4, 0), (5, 0), (6, 0), (7, 1), (8, 0), (9, 0), (10, 0), (11, 0), (12, 0), (13, 1), (14, 0), (15, 0), (16, 0)] (by kernel_rfl) (by kernel_rfl) (by kernel_rfl) (by kernel_rfl) (by kernel_rfl) (by kernel_rfl) (fun c a d v w h => by cases d <;> exact h) ?_
      refine seq_calc (by simp only [List.getElem?_toArray, List.getElem?_cons_succ, List.getElem?_cons_zero]; rfl) (by rfl) (fun u => by go_simp <;> with_reducible rfl) ?_
      try simp only [Act.put, List.setIfInBounds_toArray, List.set_cons_zero, List.set_cons_succ]
      refine seq_calc (by simp only [List.getElem?_toArray, List.getElem?_cons_succ, List.getElem?_cons_zero]; rfl) (by rfl) (fun u => by go_simp <;> with_reducible rfl) ?_
      try simp only [Act.put, List.setIfInBounds_toArray, List.set_cons_zero, List.set_cons_succ]
      refine seq_calc (by simp only [List.getElem?_toArray, List.getElem?_cons_succ, List.getElem?_cons_zero]; rfl) (by rfl) (fun u => by go_simp <;> with_reducible rfl) ?_
      try simp only [Act.put, List.setIfInBounds_toArray, List.set_cons_zero, List.set_cons_succ]
      refine seq_load1 (by simp only [List.getElem?_toArray, List.getElem?_cons_succ, List.getElem?_cons_zero]; rfl) (by rfl) rfl rfl Tryz.underlying3 rfl (by go_simp <;> with_reducible rfl) (by first | exact id | assumption | (simp; done) | (simp; omega)) ?_
      try simp only [Act.put, List.setIfInBounds_toArray, List.set_cons_zero, List.set_cons_succ]
      refine seq_calc (by simp only [List.getElem?_toArray, List.getElem?_cons_succ, List.getElem?_cons_zero]; rfl) (by rfl) (fun u => by go_simp <;> with_reducible rfl) ?_
      try simp only [Act.put, List.setIfInBounds_toArray, List.set_cons_zero, List.set_cons_succ]
      refine seq_calc (by simp only [List.getElem?_toArray, List.getElem?_cons_succ, List.getElem?_cons_zero]; rfl) (by rfl) (fun u => by go_simp <;> with_reducible rfl) ?_
      try simp only [Act.put, List.setIfInBounds_toArray, List.set_cons_zero, List.set_cons_succ]
      refine seq_calc (by simp only [List.getElem?_toArray, List.getElem?_cons_succ, List.getElem?_cons_zero]; rfl) (by rfl) (fun u => by go_simp <;> with_reducible rfl) ?_
      try simp only [Act.put, List.setIfInBounds_toArray, List.set_cons_zero, List.set_cons_succ]
      refine seq_load1 (by simp only [List.getElem?_toArray, List.getElem?_cons_succ, List.getElem?_cons_zero]; rfl) (by rfl) rfl rfl Tryz.underlying3 rfl (by go_simp <;> with_reducible rfl) (by first | exact id | assumption | (simp; done) | (simp; omega)) ?_
      try simp only [Act.put, List.setIfInBounds_toArray, List.set_cons_zero, List.set_cons_succ]
      refine seq_calc (by simp only [List.getElem?_toArray, List.getElem?_cons_succ, List.getElem?_cons_zero]; rfl) (by rfl) (fun u => by go_simp <;> with_reducible rfl) ?_
      try simp only [Act.put, List.setIfInBounds_toArray, List.set_cons_zero, List.set_cons_succ]
      refine seq_calc (by simp only [List.getElem?_toArray, List.getElem?_cons_succ, List.getElem?_cons_zero]; rfl) (by rfl) (fun u => by go_simp <;> with_reducible rfl) ?_
      try simp only [Act.put, List.setIfInBounds_toArray, List.set_cons_zero, List.set_cons_succ]
      first
        | (refine seq_skip (by simp only [List.getElem?_toArray, List.getElem?_cons_succ, List.getElem?_cons_zero]; rfl) (by rfl) ?_)
        | (refine seq_calc (by simp only [List.getElem?_toArray, List.getElem?_cons_succ, List.getElem?_cons_zero]; rfl) (by rfl) (fun u => by go_simp <;> with_reducible rfl) ?_)
      try simp only [Act.put, List.setIfInBounds_toArray, List.set_cons_zero, List.set_cons_succ]
      first
        | (refine seq_skip (by simp only [List.getElem?_toArray, List.getElem?_cons_succ, List.getElem?_cons_zero]; rfl) (by rfl) ?_)
        | (refine seq_calc (by simp only [List.getElem?_toArray, List.getElem?_cons_succ, List.getElem?_cons_zero]; rfl) (by rfl) (fun u => by go_simp <;> with_reducible rfl) ?_)
      try simp only [Act.put, List.setIfInBounds_toArray, List.set_cons_zero, List.set_cons_succ]
      first
        | (refine seq_skip (by simp only [List.getElem?_toArray, List.getElem?_cons_succ, List.getElem?_cons_zero]; rfl) (by rfl) ?_)
        | (refine seq_calc (by simp only [List.getElem?_toArray, List.getElem?_cons_succ, List.getElem?_cons_zero]; rfl) (by rfl) (fun u => by go_simp <;> with_reducible rfl) ?_)
      try simp only [Act.put, List.setIfInBounds_toArray, List.set_cons_zero, List.set_cons_succ]
      first
        | (refine seq_skip (by simp only [List.getElem?_toArray, List.getElem?_cons_succ, List.getElem?_cons_zero]; rfl) (by rfl) ?_)
        | (refine seq_load1 (by simp only [List.getElem?_toArray, List.getElem?_cons_succ, List.getElem?_cons_zero]; rfl) (by rfl) rfl rfl Tryz.underlying4 rfl (by go_simp <;> with_reducible rfl) (by first | exact id | assumption | (simp; done) | (simp; omega)) ?_)
      try simp only [Act.put, List.setIfInBounds_toArray, List.set_cons_zero, List.set_cons_succ]
      first
        | (refine seq_skip (by simp only [List.getElem?_toArray, List.getElem?_cons_succ, List.getElem?_cons_zero]; rfl) (by rfl) ?_)
        | (refine seq_calc (by simp only [List.getElem?_toArray, List.getElem?_cons_succ, List.getElem?_cons_zero]; rfl) (by rfl) (fun u => by go_simp <;> with_reducible rfl) ?_)
      try simp only [Act.put, List.setIfInBounds_toArray, List.set_cons_zero, List.set_cons_succ]
      refine seq_calc (by simp only [List.getElem?_toArray, List.getElem?_cons_succ, List.getElem?_cons_zero]; rfl) (by rfl) (fun u => by go_simp <;> with_reducible rfl) ?_
      try simp only [Act.put, List.setIfInBounds_toArray, List.set_cons_zero, List.set_cons_succ]
      refine seq_calc (by simp only [List.getElem?_toArray, List.getElem?_cons_succ, List.getElem?_cons_zero]; rfl) (by rfl) (fun u => by go_simp <;> with_reducible rfl) ?_
      try simp only [Act.put, List.setIfInBounds_toArray, List.set_cons_zero, List.set_cons_succ]
      refine seq_nil ?_
      go_wp2
      go_ret
      exact ⟨rfl, Blk.set (Blk.drew HB.out) 2 _, ((Chg.refl _ _).drew).set1 _ _⟩
theorem BM.chg {X : Nat → Prop} {w w' w0 : World} {D B Q M n k : Nat} {tk : Bool} {mt : MeterS} {E : Nat → Addr} (h : BM w D B Q M n k tk mt E w0) (hc : Chg X w w') (hX : ∀ b, X b → w0.heap.size ≤ b) (hD : ¬ X D) (hB : ¬ X B) (hQ : ¬ X Q) (hM : ¬ X M) : BM w' D B Q M n k tk mt E w0 :=
  ⟨h.b.chg hc hD hB hQ, h.m.chg hc hM, h.low.chg hc hX, h.bel.trans (hc.below (n := w0.heap.size) h.bel.size (fun k hk e => by have := hX k e; omega)), h.ho, h.hm⟩
/-- what is there between the acts of BuildActs -/
structure BA (w : World) (D B Q M W g k : Nat) (tk : Bool) (E : Nat → Addr) (w0 : World) : Prop where
  b : BM w D B Q M g k tk (mtB k) E w0
  r : RB w W g k tk
  hk : tk = true → k = g
theorem BA.later {w w' w0 : World} {D B Q M W g k : Nat} {tk : Bool} {E : Nat → Addr} (h : BA w D B Q M W g k tk E w0) (hb : Below w.heap.size w w') : BA w' D B Q M W g k tk E w0 := ⟨h.b.later hb, h.r.below hb, h.hk⟩
theorem BA.drew {w w0 : World} {D B Q M W g k : Nat} {tk : Bool} {E : Nat → Addr} (h : BA w D B Q M W g k tk E w0) : BA w.drew D B Q M W g k tk E w0 := h.later (Below.refl _ _).drew
set_option maxRecDepth 100000 in
set_option maxHeartbeats 16000000 in
theorem buildActs_any (n : Int) (v : Value) (n1 : Nat) (f : Nat → Nat → Int) (E : Nat → Addr) (w0 : World) (he : ErrsAre w0 E) (hT : Tab64 w0) (h1 : RowsAt w0 v n1 1 .i64 f) :
    Calls Tryz.prog 4 #[.int .i64 n, v] w0 fun e w' => e = .returned (.bool true) ∧ Below w0.heap.size w0 w' := by
  have m1 := h1.2.2
  unfold maxLen at m1
  have HE := Lib.hid he
  have HEC := Lib.hid (show EC w0 E [1, 2, 4, 5, 14, 16] from he.ec.sub (by decide))
  have HT := Lib.hid hT
  have AL := Lib.hid (alive11_any E w0 HEC.out hT)
  have RT := Lib.hid (fun (w' : World) => refRight_any n w')
  obtain ⟨a1, cap1, rfl, hx1⟩ := h1.cellAt (by decide)
  have HX := Lib.hid hx1
  clear he hT h1 hx1
  by_cases g1 : 100 < n1
  · have d1 : (100 : Int) < (n1 : Int) := by omega
    go_enter Tryz.func4, Tryz.ntmps4
    go_wp2_with (go_at_call 24; refine AL.out.mono ?_; rintro e w1 ⟨rfl, hb1⟩)
    go_ret
    exact ⟨rfl, hb1⟩
  have d1 : (n1 : Int) ≤ 100 := by omega
  by_cases hr : rightB n = true
  · obtain ⟨g, rfl⟩ := Int.eq_ofNat_of_zero_le (show 0 ≤ n by rw [rightB_iff] at hr; omega)
    have hn := right_bd hr
    have BN := Lib.hid (fun (w' : World) => bnew_ok g hr w')
    have HR := Lib.hid hr
    rw [hr] at RT
    clear hr
    go_enter Tryz.func4, Tryz.ntmps4
    go_wp2_with (first
      | (go_at_call 24; refine AL.out.mono ?_; rintro e w1 ⟨rfl, hb1⟩; have hz1 := hb1.size)
      | (go_at_call 25; refine (BN.out w1).mono ?_; rintro e w2 ⟨D, B, Q, rfl, hD, hB, hQ, ht, hb2⟩; have hz2 := hb2.size; have S2 := Lib.hid ht; have hlD := ht.b.lt; have hlB := (ht.t rfl).head.lt; have hlQ := (ht.t rfl).lt; have hDB := ht.ne; clear ht)
      | (go_at_call 26; refine (RT.out _).mono ?_; rintro e w' ⟨rfl, rfl⟩))
    refine wp_at (fun wL hwL => ?_)
    obtain ⟨W, hW⟩ : ∃ W, W = w2.heap.size := ⟨_, rfl⟩
    obtain ⟨M, hM⟩ : ∃ M, M = W + 1 := ⟨_, rfl⟩
    have hB2 := hb1.trans (hb2.mono hz1)
    have D0 := Lib.hid (show BA wL D B Q M W g 0 false E w0 by
      rw [hwL, hM, hW]
      refine ⟨BM.new (wb := w0) ((S2.out.alloc _).alloc _) (by simp only [mtB, MeterS.zero, MeterS.cells]; exact Blk.new_at (by simp)) HEC.out HT.out ((hB2.alloc hB2.size _).alloc (by have := hB2.size; simp; omega) _) (by omega) (by omega), ?_, fun e => by cases e⟩
      exact (Blk.new w2 _ _).alloc _)
    have hs : W ≠ B ∧ W ≠ Q ∧ W ≠ D ∧ W ≠ M ∧ w0.heap.size ≤ W := by omega
    rw [← hW, ← hM]
    obtain ⟨hWB, hWQ, hWD, hWM, hW0⟩ := hs
    replace hwL := Lib.hid hwL
    clear hW hM S2 hlB hlQ hlD hz1 hz2 hb1 hb2 hB2 hB hQ hD BN AL hDB RT
    go_loopw [46] (fun v46 wr => ∃ (j k : Nat) (tk : Bool), j ≤ n1 ∧ v46 = .int .i64 (j : Int) ∧ BA wr D B Q M W g k tk E w0) (fun v46 _ => n1 - (intOf v46).toNat)
    case atStart => exact ⟨0, 0, false, Nat.zero_le _, rfl, D0.out⟩
    case round =>
      clear D0
      obtain ⟨j, k, tk, hj, rfl, hA⟩ := hrel
      have KA := Lib.hid hA
      have hkg := hA.b.b.hk
      have hK := hA.hk
      clear hA
      by_cases hlt : j < n1
      · obtain ⟨b, off, rfl, hbz, hcells⟩ := HX.out (by omega)
        have a0 : wr.cell? ⟨b, off + j, none⟩ = some (.int .i64 (f j 0)) := by have := hcells wr KA.out.b.bel j hlt 0 (by decide); simpa using this
        have hltI : (j : Int) < (n1 : Int) := by omega
        have hbz2 := Nat.lt_of_lt_of_le hbz KA.out.b.bel.size
        generalize f j 0 = q at *
        clear hcells hbz
        by_cases hq : 0 ≤ q
        · by_cases hk : k < g
          · obtain rfl : tk = false := by cases tk with
              | false => rfl
              | true => have := hK rfl; omega
            have ST := Lib.hid (KA.out.b.step hk (mtB_limited k))
            have RS := Lib.hid (fun (w' : World) (h : RB w' W g k false) => rstep_yes h hk hn.2)
            clear hK
            go_upto_region 23 with (first
              | (go_at_call 27; (with_reducible refine ST.out.mono ?_); rintro e w4 ⟨rfl, hs4, hc4⟩; have S4 := Lib.hid hs4; have R4 := Lib.hid (KA.out.r.chg hc4 (by rintro (e | e | e) <;> omega)); clear hs4)
              | (go_at_call 28; (with_reducible refine (RS.out _ R4.out).mono ?_); rintro e w5 ⟨rfl, hr5, hc5⟩; have A5 := Lib.hid (show BA w5 D B Q M W g (k + 1) false E w0 from ⟨BM.chg S4.out hc5 (by rintro b rfl; exact hW0) (fun e => hWD e.symm) (fun e => hWB e.symm) (fun e => hWQ e.symm) (fun e => hWM e.symm), hr5, fun e => by cases e⟩); clear hr5))
            obtain ⟨k2, hk2⟩ : ∃ k2, k2 = k + 1 := ⟨_, rfl⟩
            rw [← hk2] at A5
            clear hk2
            obtain ⟨d, hd⟩ : ∃ d, d = g - (k2) := ⟨_, rfl⟩
            have LF := Lib.hid (fun (w' : World) (h : BA w' D B Q M W g (k2) false E w0) => bleft_any D B Q g (k2) false w' h.b.b)
            rw [← hd] at LF
            have GR := Lib.hid (fun (w' : World) (h : BA w' D B Q M W g (k2) false E w0) => bgroups_any D B Q g (k2) false w' h.b.b)
            have AM := Lib.hid (fun (w' : World) (h : BA w' D B Q M W g (k2) false E w0) => meterAll_any (mtB (k2)) M 38 w' h.b.m)
            have hkk := A5.out.b.b.hk
            have hmt := mtB_is (k2) (by omega)
            rw [hmt.1, hmt.2.1, hmt.2.2] at AM
            obtain ⟨r0, r1, r2, zW, -⟩ := rbcells A5.out.r
            have e9 : IntKind.i64.wrap ((g : Int) - (((k2) : Nat) : Int)) = (d : Int) := by rw [IntKind.wrap_i64]; omega
            have e10 : ((d : Int) != (d : Int)) = false := by simp
            have e11 : ((g : Int) != (g : Int)) = false := by simp
            clear hmt hd hkk
            go_wp2
            refine wp_region_seq (fun _ => False) #[⟨0, 0, 19807040628566084398385987584, 32, 0⟩, ⟨1, 1, 39614081257132168796771975168, 19807040628566084398385987584, 2⟩, ⟨0, 0, 79228162514264337593543950336, 1, 0⟩, ⟨0, 0, 158456325028528675187087900672, 128, 0⟩, ⟨8, 8, 316912650057057350374175801344, 158456325028528675187087900672, 0⟩, ⟨16, 24, 633825300114114700748351602688, 316912650057057350374175801344, 0⟩, ⟨32, 56, 1267650600228229401496703205376, 633825300114114700748351602688, 1⟩, ⟨68, 124, 2535301200456458802993406410752, 1346878762742493739090247155712, 0⟩, ⟨130, 255, 5070602400912917605986812821504, 2574915281713590971790178385920, 0⟩, ⟨258, 511, 10141204801825835211973625643008, 5070602400912917605986812821504, 0⟩, ⟨512, 1023, 20282409603651670423947251286016, 10141204801825835211973625643040, 0⟩, ⟨1536, 2047, 40564819207303340847894502572032, 30423614405477505635920876929024, 2⟩, ⟨512, 1023, 81129638414606681695789005144064, 10141204801825835211973625643009, 0⟩, ⟨6656, 8191, 162259276829213363391578010288128, 131835662423735857755657133359104, 0⟩, ⟨8704, 16383, 324518553658426726783156020576256, 172400481631039198603551635931136, 0⟩, ⟨18432, 32767, 649037107316853453566312041152512, 324518553658426726783156020576256, 0⟩, ⟨32768, 65535, 1298074214633706907132624082305024, 649037107316853453566312041152768, 0⟩, ⟨98304, 131071, 2596148429267413814265248164610048, 1947111321950560360698936123457536, 2⟩, ⟨32768, 65535, 5192296858534827628530496329220096, 649037107316853453566312041152640, 0⟩, ⟨294912, 327679, 10384593717069655257060992658440192, 5841333965851681082096808370372608, 0⟩, ⟨557056, 851967, 20769187434139310514121985316880384, 11033630824386508710627304699592704, 0⟩, ⟨1081344, 1900543, 41538374868278621028243970633760768, 21418224541456163967688297358032896, 1⟩, ⟨32768, 65535, 83076749736557242056487941267521536, 649037107316853453566312041152640, 0⟩, ⟨4227072, 4259839, 166153499473114484112975882535043072, 83725786843874095510054253308674048, 0⟩, ⟨8421376, 12648447, 332306998946228968225951765070086144, 166802536580431337566542194576195584, 0⟩, ⟨16809984, 29425663, 664613997892457936451903530140172288, 332956036053545821679518077111238656, 1⟩, ⟨35684352, 66912255, 1329227995784915872903807060280344576, 706801409868053410933713812815085568, 0⟩, ⟨67272704, 134217727, 2658455991569831745807614120560689152, 1332473181321500140171638620486107136, 0⟩, ⟨134250496, 268435455, 5316911983139663491615228241121378304, 2659105028677148599261180432601841664, 0⟩] 35651648 [(0, 0), (2, 0), (3, 0), (4, 0), (5, 0), (6, 1), (7, 0), (1, 2), (8, 0), (9, 0), (10, 0), (12, 0), (11, 2), (13, 0), (14, 0), (15, 0), (16, 0), (18, 0), (19, 0), (20, 0), (21, 1), (22, 0), (23, 0), (24, 0), (25, 1), (26, 0), (17, 2), (27, 0), (28, 0)] (by kernel_rfl) (by kernel_rfl) (by kernel_rfl) (by kernel_rfl) (by kernel_rfl) (by kernel_rfl) (fun c a d v w h => by cases d <;> exact h) ?_
            refine seq_calc (by simp only [List.getElem?_toArray, List.getElem?_cons_succ, List.getElem?_cons_zero]; rfl) (by rfl) (fun u => by go_simp <;> with_reducible rfl) ?_
            try simp only [Act.put, List.setIfInBounds_toArray, List.set_cons_zero, List.set_cons_succ]
            refine seq_calc (by simp only [List.getElem?_toArray, List.getElem?_cons_succ, List.getElem?_cons_zero]; rfl) (by rfl) (fun u => by go_simp <;> with_reducible rfl) ?_
            try simp only [Act.put, List.setIfInBounds_toArray, List.set_cons_zero, List.set_cons_succ]
            refine seq_calc (by simp only [List.getElem?_toArray, List.getElem?_cons_succ, List.getElem?_cons_zero]; rfl) (by rfl) (fun u => by go_simp <;> with_reducible rfl) ?_
            try simp only [Act.put, List.setIfInBounds_toArray, List.set_cons_zero, List.set_cons_succ]
            refine seq_calc (by simp only [List.getElem?_toArray, List.getElem?_cons_succ, List.getElem?_cons_zero]; rfl) (by rfl) (fun u => by go_simp <;> with_reducible rfl) ?_
            try simp only [Act.put, List.setIfInBounds_toArray, List.set_cons_zero, List.set_cons_succ]
            refine seq_calc (by simp only [List.getElem?_toArray, List.getElem?_cons_succ, List.getElem?_cons_zero]; rfl) (by rfl) (fun u => by go_simp <;> with_reducible rfl) ?_
            try simp only [Act.put, List.setIfInBounds_toArray, List.set_cons_zero, List.set_cons_succ]
            refine seq_load1 (by simp only [List.getElem?_toArray, List.getElem?_cons_succ, List.getElem?_cons_zero]; rfl) (by rfl) rfl rfl Tryz.underlying3 rfl (by go_simp <;> with_reducible rfl) (by first | exact id | assumption | (simp; done) | (simp; omega)) ?_
            try simp only [Act.put, List.setIfInBounds_toArray, List.set_cons_zero, List.set_cons_succ]
            refine seq_calc (by simp only [List.getElem?_toArray, List.getElem?_cons_succ, List.getElem?_cons_zero]; rfl) (by rfl) (fun u => by go_simp <;> with_reducible rfl) ?_
            try simp only [Act.put, List.setIfInBounds_toArray, List.set_cons_zero, List.set_cons_succ]
            refine seq_do (by simp only [List.getElem?_toArray, List.getElem?_cons_succ, List.getElem?_cons_zero]; rfl) (by rfl) (fun K hK => ?_); go_wp2_with (first | (go_at_call 32; (with_reducible refine (LF.out _ A5.out.drew).mono ?_); rintro e wt1 ⟨rfl, hbt1⟩; have A1 := Lib.hid (A5.out.drew.later hbt1); obtain ⟨r10, r11, r12, zW1, -⟩ := rbcells A1.out.r) | (go_at_call 33; (with_reducible refine (GR.out _ A1.out).mono ?_); rintro e wt2 ⟨rfl, rfl⟩) | (go_at_call 20; (with_reducible refine (AM.out _ A1.out).mono ?_); rintro e wt3 ⟨rfl, hbt3⟩; have A3 := Lib.hid (A1.out.later hbt3); obtain ⟨r30, r31, r32, zW3, -⟩ := rbcells A3.out.r)); refine hK.out _ _ (by first | (with_reducible exact Chg.refl _ _) | (with_reducible assumption) | (refine Chg.of_below ?_; with_reducible assumption) | (with_reducible exact (Chg.refl _ _).alloc _) | (with_reducible exact (Chg.refl _ _).drewN _) | (with_reducible exact (Chg.refl _ _).drew) | exact ⟨rfl, rfl, rfl, Nat.le_refl _, fun _ _ _ => rfl⟩ | exact (Chg.refl _ _).setCell (.inl (.inl rfl)) _ | exact (Chg.refl _ _).setCell (.inl (.inr rfl)) _ | exact ((Chg.refl _ _).setCell (.inl (.inl rfl)) _).setCell (.inl (.inl rfl)) _ | exact ((Chg.refl _ _).setCell (.inl (.inr rfl)) _).setCell (.inl (.inr rfl)) _ | exact Chg.drew (Chg.setCell ⟨rfl, rfl, rfl, Nat.le_refl _, fun _ _ _ => rfl⟩ (.inl (.inl rfl)) _) | exact Chg.drew (Chg.setCell ⟨rfl, rfl, rfl, Nat.le_refl _, fun _ _ _ => rfl⟩ (.inl (.inr rfl)) _)) ?_; clear hK K
            try simp only [Act.put, List.setIfInBounds_toArray, List.set_cons_zero, List.set_cons_succ]
            refine seq_calc (by simp only [List.getElem?_toArray, List.getElem?_cons_succ, List.getElem?_cons_zero]; rfl) (by rfl) (fun u => by go_simp <;> with_reducible rfl) ?_
            try simp only [Act.put, List.setIfInBounds_toArray, List.set_cons_zero, List.set_cons_succ]
            refine seq_calc (by simp only [List.getElem?_toArray, List.getElem?_cons_succ, List.getElem?_cons_zero]; rfl) (by rfl) (fun u => by go_simp <;> with_reducible rfl) ?_
            try simp only [Act.put, List.setIfInBounds_toArray, List.set_cons_zero, List.set_cons_succ]
            first
              | (refine seq_skip (by simp only [List.getElem?_toArray, List.getElem?_cons_succ, List.getElem?_cons_zero]; rfl) (by rfl) ?_)
              | (refine seq_calc (by simp only [List.getElem?_toArray, List.getElem?_cons_succ, List.getElem?_cons_zero]; rfl) (by rfl) (fun u => by go_simp <;> with_reducible rfl) ?_)
            try simp only [Act.put, List.setIfInBounds_toArray, List.set_cons_zero, List.set_cons_succ]
            first
              | (refine seq_skip (by simp only [List.getElem?_toArray, List.getElem?_cons_succ, List.getElem?_cons_zero]; rfl) (by rfl) ?_)
              | (refine seq_calc (by simp only [List.getElem?_toArray, List.getElem?_cons_succ, List.getElem?_cons_zero]; rfl) (by rfl) (fun u => by go_simp <;> with_reducible rfl) ?_)
            try simp only [Act.put, List.setIfInBounds_toArray, List.set_cons_zero, List.set_cons_succ]
            first
              | (refine seq_skip (by simp only [List.getElem?_toArray, List.getElem?_cons_succ, List.getElem?_cons_zero]; rfl) (by rfl) ?_)
              | (refine seq_do (by simp only [List.getElem?_toArray, List.getElem?_cons_succ, List.getElem?_cons_zero]; rfl) (by rfl) (fun K hK => ?_); go_wp2_with (first | (go_at_call 32; (with_reducible refine (LF.out _ A5.out.drew).mono ?_); rintro e wt1 ⟨rfl, hbt1⟩; have A1 := Lib.hid (A5.out.drew.later hbt1); obtain ⟨r10, r11, r12, zW1, -⟩ := rbcells A1.out.r) | (go_at_call 33; (with_reducible refine (GR.out _ A1.out).mono ?_); rintro e wt2 ⟨rfl, rfl⟩) | (go_at_call 20; (with_reducible refine (AM.out _ A1.out).mono ?_); rintro e wt3 ⟨rfl, hbt3⟩; have A3 := Lib.hid (A1.out.later hbt3); obtain ⟨r30, r31, r32, zW3, -⟩ := rbcells A3.out.r)); refine hK.out _ _ (by first | (with_reducible exact Chg.refl _ _) | (with_reducible assumption) | (refine Chg.of_below ?_; with_reducible assumption) | (with_reducible exact (Chg.refl _ _).alloc _) | (with_reducible exact (Chg.refl _ _).drewN _) | (with_reducible exact (Chg.refl _ _).drew) | exact ⟨rfl, rfl, rfl, Nat.le_refl _, fun _ _ _ => rfl⟩ | exact (Chg.refl _ _).setCell (.inl (.inl rfl)) _ | exact (Chg.refl _ _).setCell (.inl (.inr rfl)) _ | exact ((Chg.refl _ _).setCell (.inl (.inl rfl)) _).setCell (.inl (.inl rfl)) _ | exact ((Chg.refl _ _).setCell (.inl (.inr rfl)) _).setCell (.inl (.inr rfl)) _ | exact Chg.drew (Chg.setCell ⟨rfl, rfl, rfl, Nat.le_refl _, fun _ _ _ => rfl⟩ (.inl (.inl rfl)) _) | exact Chg.drew (Chg.setCell ⟨rfl, rfl, rfl, Nat.le_refl _, fun _ _ _ => rfl⟩ (.inl (.inr rfl)) _)) ?_; clear hK K)
            try simp only [Act.put, List.setIfInBounds_toArray, List.set_cons_zero, List.set_cons_succ]
            first
              | (refine seq_skip (by simp only [List.getElem?_toArray, List.getElem?_cons_succ, List.getElem?_cons_zero]; rfl) (by rfl) ?_)
              | (refine seq_calc (by simp only [List.getElem?_toArray, List.getElem?_cons_succ, List.getElem?_cons_zero]; rfl) (by rfl) (fun u => by go_simp <;> with_reducible rfl) ?_)
            try simp only [Act.put, List.setIfInBounds_toArray, List.set_cons_zero, List.set_cons_succ]
            refine seq_calc (by simp only [List.getElem?_toArray, List.getElem?_cons_succ, List.getElem?_cons_zero]; rfl) (by rfl) (fun u => by go_simp <;> with_reducible rfl) ?_
            try simp only [Act.put, List.setIfInBounds_toArray, List.set_cons_zero, List.set_cons_succ]
            refine seq_calc (by simp only [List.getElem?_toArray, List.getElem?_cons_succ, List.getElem?_cons_zero]; rfl) (by rfl) (fun u => by go_simp <;> with_reducible rfl) ?_
            try simp only [Act.put, List.setIfInBounds_toArray, List.set_cons_zero, List.set_cons_succ]
            first
              | (refine seq_skip (by simp only [List.getElem?_toArray, List.getElem?_cons_succ, List.getElem?_cons_zero]; rfl) (by rfl) ?_)
              | (refine seq_calc (by simp only [List.getElem?_toArray, List.getElem?_cons_succ, List.getElem?_cons_zero]; rfl) (by rfl) (fun u => by go_simp <;> with_reducible rfl) ?_)
            try simp only [Act.put, List.setIfInBounds_toArray, List.set_cons_zero, List.set_cons_succ]
            first
              | (refine seq_skip (by simp only [List.getElem?_toArray, List.getElem?_cons_succ, List.getElem?_cons_zero]; rfl) (by rfl) ?_)
              | (refine seq_calc (by simp only [List.getElem?_toArray, List.getElem?_cons_succ, List.getElem?_cons_zero]; rfl) (by rfl) (fun u => by go_simp <;> with_reducible rfl) ?_)
            try simp only [Act.put, List.setIfInBounds_toArray, List.set_cons_zero, List.set_cons_succ]
            first
              | (refine seq_skip (by simp only [List.getElem?_toArray, List.getElem?_cons_succ, List.getElem?_cons_zero]; rfl) (by rfl) ?_)
              | (refine seq_calc (by simp only [List.getElem?_toArray, List.getElem?_cons_succ, List.getElem?_cons_zero]; rfl) (by rfl) (fun u => by go_simp <;> with_reducible rfl) ?_)
            try simp only [Act.put, List.setIfInBounds_toArray, List.set_cons_zero, List.set_cons_succ]
            first
              | (refine seq_skip (by simp only [List.getElem?_toArray, List.getElem?_cons_succ, List.getElem?_cons_zero]; rfl) (by rfl) ?_)
              | (refine seq_calc (by simp only [List.getElem?_toArray, List.getElem?_cons_succ, List.getElem?_cons_zero]; rfl) (by rfl) (fun u => by go_simp <;> with_reducible rfl) ?_)
            try simp only [Act.put, List.setIfInBounds_toArray, List.set_cons_zero, List.set_cons_succ]
            first
              | (refine seq_skip (by simp only [List.getElem?_toArray, List.getElem?_cons_succ, List.getElem?_cons_zero]; rfl) (by rfl) ?_)
              | (refine seq_load1 (by simp only [List.getElem?_toArray, List.getElem?_cons_succ, List.getElem?_cons_zero]; rfl) (by rfl) rfl rfl Tryz.underlying3 rfl (by go_simp <;> with_reducible rfl) (by first | exact id | assumption | (simp; done) | (simp; omega)) ?_)
            try simp only [Act.put, List.setIfInBounds_toArray, List.set_cons_zero, List.set_cons_succ]
            first
              | (refine seq_skip (by simp only [List.getElem?_toArray, List.getElem?_cons_succ, List.getElem?_cons_zero]; rfl) (by rfl) ?_)
              | (refine seq_calc (by simp only [List.getElem?_toArray, List.getElem?_cons_succ, List.getElem?_cons_zero]; rfl) (by rfl) (fun u => by go_simp <;> with_reducible rfl) ?_)
            try simp only [Act.put, List.setIfInBounds_toArray, List.set_cons_zero, List.set_cons_succ]
            first
              | (refine seq_skip (by simp only [List.getElem?_toArray, List.getElem?_cons_succ, List.getElem?_cons_zero]; rfl) (by rfl) ?_)
              | (refine seq_calc (by simp only [List.getElem?_toArray, List.getElem?_cons_succ, List.getElem?_cons_zero]; rfl) (by rfl) (fun u => by go_simp <;> with_reducible rfl) ?_)
            try simp only [Act.put, List.setIfInBounds_toArray, List.set_cons_zero, List.set_cons_succ]
            first
              | (refine seq_skip (by simp only [List.getElem?_toArray, List.getElem?_cons_succ, List.getElem?_cons_zero]; rfl) (by rfl) ?_)
              | (refine seq_calc (by simp only [List.getElem?_toArray, List.getElem?_cons_succ, List.getElem?_cons_zero]; rfl) (by rfl) (fun u => by go_simp <;> with_reducible rfl) ?_)
            try simp only [Act.put, List.setIfInBounds_toArray, List.set_cons_zero, List.set_cons_succ]
            first
              | (refine seq_skip (by simp only [List.getElem?_toArray, List.getElem?_cons_succ, List.getElem?_cons_zero]; rfl) (by rfl) ?_)
              | (refine seq_load1 (by simp only [List.getElem?_toArray, List.getElem?_cons_succ, List.getElem?_cons_zero]; rfl) (by rfl) rfl rfl Tryz.underlying3 rfl (by go_simp <;> with_reducible rfl) (by first | exact id | assumption | (simp; done) | (simp; omega)) ?_)
            try simp only [Act.put, List.setIfInBounds_toArray, List.set_cons_zero, List.set_cons_succ]
            first
              | (refine seq_skip (by simp only [List.getElem?_toArray, List.getElem?_cons_succ, List.getElem?_cons_zero]; rfl) (by rfl) ?_)
              | (refine seq_calc (by simp only [List.getElem?_toArray, List.getElem?_cons_succ, List.getElem?_cons_zero]; rfl) (by rfl) (fun u => by go_simp <;> with_reducible rfl) ?_)
            try simp only [Act.put, List.setIfInBounds_toArray, List.set_cons_zero, List.set_cons_succ]
            first
              | (refine seq_skip (by simp only [List.getElem?_toArray, List.getElem?_cons_succ, List.getElem?_cons_zero]; rfl) (by rfl) ?_)
              | (refine seq_do (by simp only [List.getElem?_toArray, List.getElem?_cons_succ, List.getElem?_cons_zero]; rfl) (by rfl) (fun K hK => ?_); go_wp2_with (first | (go_at_call 32; (with_reducible refine (LF.out _ A5.out.drew).mono ?_); rintro e wt1 ⟨rfl, hbt1⟩; have A1 := Lib.hid (A5.out.drew.later hbt1); obtain ⟨r10, r11, r12, zW1, -⟩ := rbcells A1.out.r) | (go_at_call 33; (with_reducible refine (GR.out _ A1.out).mono ?_); rintro e wt2 ⟨rfl, rfl⟩) | (go_at_call 20; (with_reducible refine (AM.out _ A1.out).mono ?_); rintro e wt3 ⟨rfl, hbt3⟩; have A3 := Lib.hid (A1.out.later hbt3); obtain ⟨r30, r31, r32, zW3, -⟩ := rbcells A3.out.r)); refine hK.out _ _ (by first | (with_reducible exact Chg.refl _ _) | (with_reducible assumption) | (refine Chg.of_below ?_; with_reducible assumption) | (with_reducible exact (Chg.refl _ _).alloc _) | (with_reducible exact (Chg.refl _ _).drewN _) | (with_reducible exact (Chg.refl _ _).drew) | exact ⟨rfl, rfl, rfl, Nat.le_refl _, fun _ _ _ => rfl⟩ | exact (Chg.refl _ _).setCell (.inl (.inl rfl)) _ | exact (Chg.refl _ _).setCell (.inl (.inr rfl)) _ | exact ((Chg.refl _ _).setCell (.inl (.inl rfl)) _).setCell (.inl (.inl rfl)) _ | exact ((Chg.refl _ _).setCell (.inl (.inr rfl)) _).setCell (.inl (.inr rfl)) _ | exact Chg.drew (Chg.setCell ⟨rfl, rfl, rfl, Nat.le_refl _, fun _ _ _ => rfl⟩ (.inl (.inl rfl)) _) | exact Chg.drew (Chg.setCell ⟨rfl, rfl, rfl, Nat.le_refl _, fun _ _ _ => rfl⟩ (.inl (.inr rfl)) _)) ?_; clear hK K)
            try simp only [Act.put, List.setIfInBounds_toArray, List.set_cons_zero, List.set_cons_succ]
            first
              | (refine seq_skip (by simp only [List.getElem?_toArray, List.getElem?_cons_succ, List.getElem?_cons_zero]; rfl) (by rfl) ?_)
              | (refine seq_calc (by simp only [List.getElem?_toArray, List.getElem?_cons_succ, List.getElem?_cons_zero]; rfl) (by rfl) (fun u => by go_simp <;> with_reducible rfl) ?_)
            try simp only [Act.put, List.setIfInBounds_toArray, List.set_cons_zero, List.set_cons_succ]
            refine seq_calc (by simp only [List.getElem?_toArray, List.getElem?_cons_succ, List.getElem?_cons_zero]; rfl) (by rfl) (fun u => by go_simp <;> with_reducible rfl) ?_
            try simp only [Act.put, List.setIfInBounds_toArray, List.set_cons_zero, List.set_cons_succ]
            refine seq_nil ?_
            go_wp2
            go_roundw
            case rel => exact ⟨j + 1, _, _, by omega, by go_num, A3.out⟩
            case measure => simp [intOf]; omega
          · have hkg' : k = g := by omega
            have KB := KA.out.b
            rw [hkg'] at KB
            have ST := Lib.hid KB.stepNo
            have RS := Lib.hid (fun (w' : World) (h : RB w' W g k tk) => rstep_no (tk := tk) (w := w') (W := W) (g := g) (by rw [hkg'] at h; exact h))
            clear KB hkg' hk
            go_upto_region 23 with (first
              | (go_at_call 27; (with_reducible refine ST.out.mono ?_); rintro e w4 ⟨rfl, -, hb4⟩; have A4 := Lib.hid (KA.out.later hb4))
              | (go_at_call 28; (with_reducible refine (RS.out _ A4.out.r).mono ?_); rintro e w5 ⟨rfl, hb5⟩; have A5 := Lib.hid (A4.out.later hb5)))
            obtain ⟨d, hd⟩ : ∃ d, d = g - (k) := ⟨_, rfl⟩
            have LF := Lib.hid (fun (w' : World) (h : BA w' D B Q M W g (k) tk E w0) => bleft_any D B Q g (k) tk w' h.b.b)
            rw [← hd] at LF
            have GR := Lib.hid (fun (w' : World) (h : BA w' D B Q M W g (k) tk E w0) => bgroups_any D B Q g (k) tk w' h.b.b)
            have AM := Lib.hid (fun (w' : World) (h : BA w' D B Q M W g (k) tk E w0) => meterAll_any (mtB (k)) M 38 w' h.b.m)
            have hkk := A5.out.b.b.hk
            have hmt := mtB_is (k) (by omega)
            rw [hmt.1, hmt.2.1, hmt.2.2] at AM
            obtain ⟨r0, r1, r2, zW, -⟩ := rbcells A5.out.r
            have e9 : IntKind.i64.wrap ((g : Int) - (((k) : Nat) : Int)) = (d : Int) := by rw [IntKind.wrap_i64]; omega
            have e10 : ((d : Int) != (d : Int)) = false := by simp
            have e11 : ((g : Int) != (g : Int)) = false := by simp
            clear hmt hd hkk
            go_wp2
            refine wp_region_seq (fun _ => False) #[⟨0, 0, 19807040628566084398385987584, 32, 0⟩, ⟨1, 1, 39614081257132168796771975168, 19807040628566084398385987584, 2⟩, ⟨0, 0, 79228162514264337593543950336, 1, 0⟩, ⟨0, 0, 158456325028528675187087900672, 128, 0⟩, ⟨8, 8, 316912650057057350374175801344, 158456325028528675187087900672, 0⟩, ⟨16, 24, 633825300114114700748351602688, 316912650057057350374175801344, 0⟩, ⟨32, 56, 1267650600228229401496703205376, 633825300114114700748351602688, 1⟩, ⟨68, 124, 2535301200456458802993406410752, 1346878762742493739090247155712, 0⟩, ⟨130, 255, 5070602400912917605986812821504, 2574915281713590971790178385920, 0⟩, ⟨258, 511, 10141204801825835211973625643008, 5070602400912917605986812821504, 0⟩, ⟨512, 1023, 20282409603651670423947251286016, 10141204801825835211973625643040, 0⟩, ⟨1536, 2047, 40564819207303340847894502572032, 30423614405477505635920876929024, 2⟩, ⟨512, 1023, 81129638414606681695789005144064, 10141204801825835211973625643009, 0⟩, ⟨6656, 8191, 162259276829213363391578010288128, 131835662423735857755657133359104, 0⟩, ⟨8704, 16383, 324518553658426726783156020576256, 172400481631039198603551635931136, 0⟩, ⟨18432, 32767, 649037107316853453566312041152512, 324518553658426726783156020576256, 0⟩, ⟨32768, 65535, 1298074214633706907132624082305024, 649037107316853453566312041152768, 0⟩, ⟨98304, 131071, 2596148429267413814265248164610048, 1947111321950560360698936123457536, 2⟩, ⟨32768, 65535, 5192296858534827628530496329220096, 649037107316853453566312041152640, 0⟩, ⟨294912, 327679, 10384593717069655257060992658440192, 5841333965851681082096808370372608, 0⟩, ⟨557056, 851967, 20769187434139310514121985316880384, 11033630824386508710627304699592704, 0⟩, ⟨1081344, 1900543, 41538374868278621028243970633760768, 21418224541456163967688297358032896, 1⟩, ⟨32768, 65535, 83076749736557242056487941267521536, 649037107316853453566312041152640, 0⟩, ⟨4227072, 4259839, 166153499473114484112975882535043072, 83725786843874095510054253308674048, 0⟩, ⟨8421376, 12648447, 332306998946228968225951765070086144, 166802536580431337566542194576195584, 0⟩, ⟨16809984, 29425663, 664613997892457936451903530140172288, 332956036053545821679518077111238656, 1⟩, ⟨35684352, 66912255, 1329227995784915872903807060280344576, 706801409868053410933713812815085568, 0⟩, ⟨67272704, 134217727, 2658455991569831745807614120560689152, 1332473181321500140171638620486107136, 0⟩, ⟨134250496, 268435455, 5316911983139663491615228241121378304, 2659105028677148599261180432601841664, 0⟩] 35651648 [(0, 0), (2, 0), (3, 0), (4, 0), (5, 0), (6, 1), (7, 0), (1, 2), (8, 0), (9, 0), (10, 0), (12, 0), (11, 2), (13, 0), (14, 0), (15, 0), (16, 0), (18, 0), (19, 0), (20, 0), (21, 1), (22, 0), (23, 0), (24, 0), (25, 1), (26, 0), (17, 2), (27, 0), (28, 0)] (by kernel_rfl) (by kernel_rfl) (by kernel_rfl) (by kernel_rfl) (by kernel_rfl) (by kernel_rfl) (fun c a d v w h => by cases d <;> exact h) ?_
            refine seq_calc (by simp only [List.getElem?_toArray, List.getElem?_cons_succ, List.getElem?_cons_zero]; rfl) (by rfl) (fun u => by go_simp <;> with_reducible rfl) ?_
            try simp only [Act.put, List.setIfInBounds_toArray, List.set_cons_zero, List.set_cons_succ]
            refine seq_calc (by simp only [List.getElem?_toArray, List.getElem?_cons_succ, List.getElem?_cons_zero]; rfl) (by rfl) (fun u => by go_simp <;> with_reducible rfl) ?_
            try simp only [Act.put, List.setIfInBounds_toArray, List.set_cons_zero, List.set_cons_succ]
            refine seq_calc (by simp only [List.getElem?_toArray, List.getElem?_cons_succ, List.getElem?_cons_zero]; rfl) (by rfl) (fun u => by go_simp <;> with_reducible rfl) ?_
            try simp only [Act.put, List.setIfInBounds_toArray, List.set_cons_zero, List.set_cons_succ]
            refine seq_calc (by simp only [List.getElem?_toArray, List.getElem?_cons_succ, List.getElem?_cons_zero]; rfl) (by rfl) (fun u => by go_simp <;> with_reducible rfl) ?_
            try simp only [Act.put, List.setIfInBounds_toArray, List.set_cons_zero, List.set_cons_succ]
            refine seq_calc (by simp only [List.getElem?_toArray, List.getElem?_cons_succ, List.getElem?_cons_zero]; rfl) (by rfl) (fun u => by go_simp <;> with_reducible rfl) ?_
            try simp only [Act.put, List.setIfInBounds_toArray, List.set_cons_zero, List.set_cons_succ]
            refine seq_load1 (by simp only [List.getElem?_toArray, List.getElem?_cons_succ, List.getElem?_cons_zero]; rfl) (by rfl) rfl rfl Tryz.underlying3 rfl (by go_simp <;> with_reducible rfl) (by first | exact id | assumption | (simp; done) | (simp; omega)) ?_
            try simp only [Act.put, List.setIfInBounds_toArray, List.set_cons_zero, List.set_cons_succ]
            refine seq_calc (by simp only [List.getElem?_toArray, List.getElem?_cons_succ, List.getElem?_cons_zero]; rfl) (by rfl) (fun u => by go_simp <;> with_reducible rfl) ?_
            try simp only [Act.put, List.setIfInBounds_toArray, List.set_cons_zero, List.set_cons_succ]
            refine seq_do (by simp only [List.getElem?_toArray, List.getElem?_cons_succ, List.getElem?_cons_zero]; rfl) (by rfl) (fun K hK => ?_); go_wp2_with (first | (go_at_call 32; (with_reducible refine (LF.out _ A5.out.drew).mono ?_); rintro e wt1 ⟨rfl, hbt1⟩; have A1 := Lib.hid (A5.out.drew.later hbt1); obtain ⟨r10, r11, r12, zW1, -⟩ := rbcells A1.out.r) | (go_at_call 33; (with_reducible refine (GR.out _ A1.out).mono ?_); rintro e wt2 ⟨rfl, rfl⟩) | (go_at_call 20; (with_reducible refine (AM.out _ A1.out).mono ?_); rintro e wt3 ⟨rfl, hbt3⟩; have A3 := Lib.hid (A1.out.later hbt3); obtain ⟨r30, r31, r32, zW3, -⟩ := rbcells A3.out.r)); refine hK.out _ _ (by first | (with_reducible exact Chg.refl _ _) | (with_reducible assumption) | (refine Chg.of_below ?_; with_reducible assumption) | (with_reducible exact (Chg.refl _ _).alloc _) | (with_reducible exact (Chg.refl _ _).drewN _) | (with_reducible exact (Chg.refl _ _).drew) | exact ⟨rfl, rfl, rfl, Nat.le_refl _, fun _ _ _ => rfl⟩ | exact (Chg.refl _ _).setCell (.inl (.inl rfl)) _ | exact (Chg.refl _ _).setCell (.inl (.inr rfl)) _ | exact ((Chg.refl _ _).setCell (.inl (.inl rfl)) _).setCell (.inl (.inl rfl)) _ | exact ((Chg.refl _ _).setCell (.inl (.inr rfl)) _).setCell (.inl (.inr rfl)) _ | exact Chg.drew (Chg.setCell ⟨rfl, rfl, rfl, Nat.le_refl _, fun _ _ _ => rfl⟩ (.inl (.inl rfl)) _) | exact Chg.drew (Chg.setCell ⟨rfl, rfl, rfl, Nat.le_refl _, fun _ _ _ => rfl⟩ (.inl (.inr rfl)) _)) ?_; clear hK K
            try simp only [Act.put, List.setIfInBounds_toArray, List.set_cons_zero, List.set_cons_succ]
            refine seq_calc (by simp only [List.getElem?_toArray, List.getElem?_cons_succ, List.getElem?_cons_zero]; rfl) (by rfl) (fun u => by go_simp <;> with_reducible rfl) ?_
            try simp only [Act.put, List.setIfInBounds_toArray, List.set_cons_zero, List.set_cons_succ]
            refine seq_calc (by simp only [List.getElem?_toArray, List.getElem?_cons_succ, List.getElem?_cons_zero]; rfl) (by rfl) (fun u => by go_simp <;> with_reducible rfl) ?_
            try simp only [Act.put, List.setIfInBounds_toArray, List.set_cons_zero, List.set_cons_succ]
            first
              | (refine seq_skip (by simp only [List.getElem?_toArray, List.getElem?_cons_succ, List.getElem?_cons_zero]; rfl) (by rfl) ?_)
              | (refine seq_calc (by simp only [List.getElem?_toArray, List.getElem?_cons_succ, List.getElem?_cons_zero]; rfl) (by rfl) (fun u => by go_simp <;> with_reducible rfl) ?_)
            try simp only [Act.put, List.setIfInBounds_toArray, List.set_cons_zero, List.set_cons_succ]
            first
              | (refine seq_skip (by simp only [List.getElem?_toArray, List.getElem?_cons_succ, List.getElem?_cons_zero]; rfl) (by rfl) ?_)
              | (refine seq_calc (by simp only [List.getElem?_toArray, List.getElem?_cons_succ, List.getElem?_cons_zero]; rfl) (by rfl) (fun u => by go_simp <;> with_reducible rfl) ?_)
            try simp only [Act.put, List.setIfInBounds_toArray, List.set_cons_zero, List.set_cons_succ]
            first
              | (refine seq_skip (by simp only [List.getElem?_toArray, List.getElem?_cons_succ, List.getElem?_cons_zero]; rfl) (by rfl) ?_)
              | (refine seq_do (by simp only [List.getElem?_toArray, List.getElem?_cons_succ, List.getElem?_cons_zero]; rfl) (by rfl) (fun K hK => ?_); go_wp2_with (first | (go_at_call 32; (with_reducible refine (LF.out _ A5.out.drew).mono ?_); rintro e wt1 ⟨rfl, hbt1⟩; have A1 := Lib.hid (A5.out.drew.later hbt1); obtain ⟨r10, r11, r12, zW1, -⟩ := rbcells A1.out.r) | (go_at_call 33; (with_reducible refine (GR.out _ A1.out).mono ?_); rintro e wt2 ⟨rfl, rfl⟩) | (go_at_call 20; (with_reducible refine (AM.out _ A1.out).mono ?_); rintro e wt3 ⟨rfl, hbt3⟩; have A3 := Lib.hid (A1.out.later hbt3); obtain ⟨r30, r31, r32, zW3, -⟩ := rbcells A3.out.r)); refine hK.out _ _ (by first | (with_reducible exact Chg.refl _ _) | (with_reducible assumption) | (refine Chg.of_below ?_; with_reducible assumption) | (with_reducible exact (Chg.refl _ _).alloc _) | (with_reducible exact (Chg.refl _ _).drewN _) | (with_reducible exact (Chg.refl _ _).drew) | exact ⟨rfl, rfl, rfl, Nat.le_refl _, fun _ _ _ => rfl⟩ | exact (Chg.refl _ _).setCell (.inl (.inl rfl)) _ | exact (Chg.refl _ _).setCell (.inl (.inr rfl)) _ | exact ((Chg.refl _ _).setCell (.inl (.inl rfl)) _).setCell (.inl (.inl rfl)) _ | exact ((Chg.refl _ _).setCell (.inl (.inr rfl)) _).setCell (.inl (.inr rfl)) _ | exact Chg.drew (Chg.setCell ⟨rfl, rfl, rfl, Nat.le_refl _, fun _ _ _ => rfl⟩ (.inl (.inl rfl)) _) | exact Chg.drew (Chg.setCell ⟨rfl, rfl, rfl, Nat.le_refl _, fun _ _ _ => rfl⟩ (.inl (.inr rfl)) _)) ?_; clear hK K)
            try simp only [Act.put, List.setIfInBounds_toArray, List.set_cons_zero, List.set_cons_succ]
            first
              | (refine seq_skip (by simp only [List.getElem?_toArray, List.getElem?_cons_succ, List.getElem?_cons_zero]; rfl) (by rfl) ?_)
              | (refine seq_calc (by simp only [List.getElem?_toArray, List.getElem?_cons_succ, List.getElem?_cons_zero]; rfl) (by rfl) (fun u => by go_simp <;> with_reducible rfl) ?_)
            try simp only [Act.put, List.setIfInBounds_toArray, List.set_cons_zero, List.set_cons_succ]
            refine seq_calc (by simp only [List.getElem?_toArray, List.getElem?_cons_succ, List.getElem?_cons_zero]; rfl) (by rfl) (fun u => by go_simp <;> with_reducible rfl) ?_
            try simp only [Act.put, List.setIfInBounds_toArray, List.set_cons_zero, List.set_cons_succ]
            refine seq_calc (by simp only [List.getElem?_toArray, List.getElem?_cons_succ, List.getElem?_cons_zero]; rfl) (by rfl) (fun u => by go_simp <;> with_reducible rfl) ?_
            try simp only [Act.put, List.setIfInBounds_toArray, List.set_cons_zero, List.set_cons_succ]
            first
              | (refine seq_skip (by simp only [List.getElem?_toArray, List.getElem?_cons_succ, List.getElem?_cons_zero]; rfl) (by rfl) ?_)
              | (refine seq_calc (by simp only [List.getElem?_toArray, List.getElem?_cons_succ, List.getElem?_cons_zero]; rfl) (by rfl) (fun u => by go_simp <;> with_reducible rfl) ?_)
            try simp only [Act.put, List.setIfInBounds_toArray, List.set_cons_zero, List.set_cons_succ]
            first
              | (refine seq_skip (by simp only [List.getElem?_toArray, List.getElem?_cons_succ, List.getElem?_cons_zero]; rfl) (by rfl) ?_)
              | (refine seq_calc (by simp only [List.getElem?_toArray, List.getElem?_cons_succ, List.getElem?_cons_zero]; rfl) (by rfl) (fun u => by go_simp <;> with_reducible rfl) ?_)
            try simp only [Act.put, List.setIfInBounds_toArray, List.set_cons_zero, List.set_cons_succ]
            first
              | (refine seq_skip (by simp only [List.getElem?_toArray, List.getElem?_cons_succ, List.getElem?_cons_zero]; rfl) (by rfl) ?_)
              | (refine seq_calc (by simp only [List.getElem?_toArray, List.getElem?_cons_succ, List.getElem?_cons_zero]; rfl) (by rfl) (fun u => by go_simp <;> with_reducible rfl) ?_)
            try simp only [Act.put, List.setIfInBounds_toArray, List.set_cons_zero, List.set_cons_succ]
            first
              | (refine seq_skip (by simp only [List.getElem?_toArray, List.getElem?_cons_succ, List.getElem?_cons_zero]; rfl) (by rfl) ?_)
              | (refine seq_calc (by simp only [List.getElem?_toArray, List.getElem?_cons_succ, List.getElem?_cons_zero]; rfl) (by rfl) (fun u => by go_simp <;> with_reducible rfl) ?_)
            try simp only [Act.put, List.setIfInBounds_toArray, List.set_cons_zero, List.set_cons_succ]
            first
              | (refine seq_skip (by simp only [List.getElem?_toArray, List.getElem?_cons_succ, List.getElem?_cons_zero]; rfl) (by rfl) ?_)
              | (refine seq_load1 (by simp only [List.getElem?_toArray, List.getElem?_cons_succ, List.getElem?_cons_zero]; rfl) (by rfl) rfl rfl Tryz.underlying3 rfl (by go_simp <;> with_reducible rfl) (by first | exact id | assumption | (simp; done) | (simp; omega)) ?_)
            try simp only [Act.put, List.setIfInBounds_toArray, List.set_cons_zero, List.set_cons_succ]
            first
              | (refine seq_skip (by simp only [List.getElem?_toArray, List.getElem?_cons_succ, List.getElem?_cons_zero]; rfl) (by rfl) ?_)
              | (refine seq_calc (by simp only [List.getElem?_toArray, List.getElem?_cons_succ, List.getElem?_cons_zero]; rfl) (by rfl) (fun u => by go_simp <;> with_reducible rfl) ?_)
            try simp only [Act.put, List.setIfInBounds_toArray, List.set_cons_zero, List.set_cons_succ]
            first
              | (refine seq_skip (by simp only [List.getElem?_toArray, List.getElem?_cons_succ, List.getElem?_cons_zero]; rfl) (by rfl) ?_)
              | (refine seq_calc (by simp only [List.getElem?_toArray, List.getElem?_cons_succ, List.getElem?_cons_zero]; rfl) (by rfl) (fun u => by go_simp <;> with_reducible rfl) ?_)
            try simp only [Act.put, List.setIfInBounds_toArray, List.set_cons_zero, List.set_cons_succ]
            first
              | (refine seq_skip (by simp only [List.getElem?_toArray, List.getElem?_cons_succ, List.getElem?_cons_zero]; rfl) (by rfl) ?_)
              | (refine seq_calc (by simp only [List.getElem?_toArray, List.getElem?_cons_succ, List.getElem?_cons_zero]; rfl) (by rfl) (fun u => by go_simp <;> with_reducible rfl) ?_)
            try simp only [Act.put, List.setIfInBounds_toArray, List.set_cons_zero, List.set_cons_succ]
            first
              | (refine seq_skip (by simp only [List.getElem?_toArray, List.getElem?_cons_succ, List.getElem?_cons_zero]; rfl) (by rfl) ?_)
              | (refine seq_load1 (by simp only [List.getElem?_toArray, List.getElem?_cons_succ, List.getElem?_cons_zero]; rfl) (by rfl) rfl rfl Tryz.underlying3 rfl (by go_simp <;> with_reducible rfl) (by first | exact id | assumption | (simp; done) | (simp; omega)) ?_)
            try simp only [Act.put, List.setIfInBounds_toArray, List.set_cons_zero, List.set_cons_succ]
            first
              | (refine seq_skip (by simp only [List.getElem?_toArray, List.getElem?_cons_succ, List.getElem?_cons_zero]; rfl) (by rfl) ?_)
              | (refine seq_calc (by simp only [List.getElem?_toArray, List.getElem?_cons_succ, List.getElem?_cons_zero]; rfl) (by rfl) (fun u => by go_simp <;> with_reducible rfl) ?_)
            try simp only [Act.put, List.setIfInBounds_toArray, List.set_cons_zero, List.set_cons_succ]
            first
              | (refine seq_skip (by simp only [List.getElem?_toArray, List.getElem?_cons_succ, List.getElem?_cons_zero]; rfl) (by rfl) ?_)
              | (refine seq_do (by simp only [List.getElem?_toArray, List.getElem?_cons_succ, List.getElem?_cons_zero]; rfl) (by rfl) (fun K hK => ?_); go_wp2_with (first | (go_at_call 32; (with_reducible refine (LF.out _ A5.out.drew).mono ?_); rintro e wt1 ⟨rfl, hbt1⟩; have A1 := Lib.hid (A5.out.drew.later hbt1); obtain ⟨r10, r11, r12, zW1, -⟩ := rbcells A1.out.r) | (go_at_call 33; (with_reducible refine (GR.out _ A1.out).mono ?_); rintro e wt2 ⟨rfl, rfl⟩) | (go_at_call 20; (with_reducible refine (AM.out _ A1.out).mono ?_); rintro e wt3 ⟨rfl, hbt3⟩; have A3 := Lib.hid (A1.out.later hbt3); obtain ⟨r30, r31, r32, zW3, -⟩ := rbcells A3.out.r)); refine hK.out _ _ (by first | (with_reducible exact Chg.refl _ _) | (with_reducible assumption) | (refine Chg.of_below ?_; with_reducible assumption) | (with_reducible exact (Chg.refl _ _).alloc _) | (with_reducible exact (Chg.refl _ _).drewN _) | (with_reducible exact (Chg.refl _ _).drew) | exact ⟨rfl, rfl, rfl, Nat.le_refl _, fun _ _ _ => rfl⟩ | exact (Chg.refl _ _).setCell (.inl (.inl rfl)) _ | exact (Chg.refl _ _).setCell (.inl (.inr rfl)) _ | exact ((Chg.refl _ _).setCell (.inl (.inl rfl)) _).setCell (.inl (.inl rfl)) _ | exact ((Chg.refl _ _).setCell (.inl (.inr rfl)) _).setCell (.inl (.inr rfl)) _ | exact Chg.drew (Chg.setCell ⟨rfl, rfl, rfl, Nat.le_refl _, fun _ _ _ => rfl⟩ (.inl (.inl rfl)) _) | exact Chg.drew (Chg.setCell ⟨rfl, rfl, rfl, Nat.le_refl _, fun _ _ _ => rfl⟩ (.inl (.inr rfl)) _)) ?_; clear hK K)
            try simp only [Act.put, List.setIfInBounds_toArray, List.set_cons_zero, List.set_cons_succ]
            first
              | (refine seq_skip (by simp only [List.getElem?_toArray, List.getElem?_cons_succ, List.getElem?_cons_zero]; rfl) (by rfl) ?_)
              | (refine seq_calc (by simp only [List.getElem?_toArray, List.getElem?_cons_succ, List.getElem?_cons_zero]; rfl) (by rfl) (fun u => by go_simp <;> with_reducible rfl) ?_)
            try simp only [Act.put, List.setIfInBounds_toArray, List.set_cons_zero, List.set_cons_succ]
            refine seq_calc (by simp only [List.getElem?_toArray, List.getElem?_cons_succ, List.getElem?_cons_zero]; rfl) (by rfl) (fun u => by go_simp <;> with_reducible rfl) ?_
            try simp only [Act.put, List.setIfInBounds_toArray, List.set_cons_zero, List.set_cons_succ]
            refine seq_nil ?_
            go_wp2
            go_roundw
            case rel => exact ⟨j + 1, _, _, by omega, by go_num, A3.out⟩
            case measure => simp [intOf]; omega
        · have hq1 : q < 0 := by omega
          by_cases hok : k = g ∧ tk = false
          · obtain ⟨hkg', rfl⟩ := hok
            have KB := KA.out.b
            rw [hkg'] at KB
            have TK := Lib.hid KB.take
            have RK := Lib.hid (fun (w' : World) (h : RB w' W g k false) => rtake_any h true (by simp [hkg']))
            have HKG := Lib.hid hkg'
            clear KB hkg'
            have GT := Lib.hid (fun (w' : World) (h : TN w' B Q (TabS.new g) E w0) => TMW.groups h)
            have LT := Lib.hid (fun (w' : World) (h : TN w' B Q (TabS.new g) E w0) => TMW.len h)
            have CK := Lib.hid (fun (w' : World) (h : TN w' B Q (TabS.new g) E w0) => scheck_new h)
            simp only [show (TabS.new g).n = g from rfl] at GT
            rw [show (TabS.new g).lv = 0 from rfl] at LT
            have e12 : ((g : Int) != (g : Int)) = false := by simp
            go_upto_region 23 with (first
              | (go_at_call 29; (with_reducible refine TK.out.mono ?_); rintro e w4 ⟨rfl, hs4, ht4, hc4⟩; have S4 := Lib.hid (show BM w4 D B Q M g k true (mtB k) E w0 by rw [HKG.out]; exact hs4); have T4 := Lib.hid ht4; have R4 := Lib.hid (KA.out.r.chg hc4 (fun e => hWD e)); clear hs4 ht4)
              | (go_at_call 30; (with_reducible refine (RK.out _ R4.out).mono ?_); rintro e w5 ⟨rfl, hr5, hc5⟩; have A5 := Lib.hid (show BA w5 D B Q M W g k true E w0 from ⟨BM.chg S4.out hc5 (by rintro b rfl; exact hW0) (fun e => hWD e.symm) (fun e => hWB e.symm) (fun e => hWQ e.symm) (fun e => hWM e.symm), hr5, fun _ => HKG.out⟩); have T5 := Lib.hid (TMW.chg T4.out hc5 (by rintro b rfl; exact hW0) (fun e => hWB e.symm) (fun e => hWQ e.symm) (fun b e => by cases e)); clear hr5)
              | (go_at_call 19; (with_reducible refine (GT.out _ T5.out).mono ?_); rintro e w' ⟨rfl, rfl⟩)
              | (go_at_call 14; (with_reducible refine (LT.out _ T5.out).mono ?_); rintro e w' ⟨rfl, rfl⟩)
              | (go_at_call 31; (with_reducible refine (CK.out _ T5.out).mono ?_); rintro e w6 ⟨rfl, hb6⟩; have A6 := Lib.hid (A5.out.later hb6)))
            obtain ⟨d, hd⟩ : ∃ d, d = g - (k) := ⟨_, rfl⟩
            have LF := Lib.hid (fun (w' : World) (h : BA w' D B Q M W g (k) true E w0) => bleft_any D B Q g (k) true w' h.b.b)
            rw [← hd] at LF
            have GR := Lib.hid (fun (w' : World) (h : BA w' D B Q M W g (k) true E w0) => bgroups_any D B Q g (k) true w' h.b.b)
            have AM := Lib.hid (fun (w' : World) (h : BA w' D B Q M W g (k) true E w0) => meterAll_any (mtB (k)) M 38 w' h.b.m)
            have hkk := A6.out.b.b.hk
            have hmt := mtB_is (k) (by omega)
            rw [hmt.1, hmt.2.1, hmt.2.2] at AM
            obtain ⟨r0, r1, r2, zW, -⟩ := rbcells A6.out.r
            have e9 : IntKind.i64.wrap ((g : Int) - (((k) : Nat) : Int)) = (d : Int) := by rw [IntKind.wrap_i64]; omega
            have e10 : ((d : Int) != (d : Int)) = false := by simp
            have e11 : ((g : Int) != (g : Int)) = false := by simp
            clear hmt hd hkk
            go_wp2
            refine wp_region_seq (fun _ => False) #[⟨0, 0, 19807040628566084398385987584, 32, 0⟩, ⟨1, 1, 39614081257132168796771975168, 19807040628566084398385987584, 2⟩, ⟨0, 0, 79228162514264337593543950336, 1, 0⟩, ⟨0, 0, 158456325028528675187087900672, 128, 0⟩, ⟨8, 8, 316912650057057350374175801344, 158456325028528675187087900672, 0⟩, ⟨16, 24, 633825300114114700748351602688, 316912650057057350374175801344, 0⟩, ⟨32, 56, 1267650600228229401496703205376, 633825300114114700748351602688, 1⟩, ⟨68, 124, 2535301200456458802993406410752, 1346878762742493739090247155712, 0⟩, ⟨130, 255, 5070602400912917605986812821504, 2574915281713590971790178385920, 0⟩, ⟨258, 511, 10141204801825835211973625643008, 5070602400912917605986812821504, 0⟩, ⟨512, 1023, 20282409603651670423947251286016, 10141204801825835211973625643040, 0⟩, ⟨1536, 2047, 40564819207303340847894502572032, 30423614405477505635920876929024, 2⟩, ⟨512, 1023, 81129638414606681695789005144064, 10141204801825835211973625643009, 0⟩, ⟨6656, 8191, 162259276829213363391578010288128, 131835662423735857755657133359104, 0⟩, ⟨8704, 16383, 324518553658426726783156020576256, 172400481631039198603551635931136, 0⟩, ⟨18432, 32767, 649037107316853453566312041152512, 324518553658426726783156020576256, 0⟩, ⟨32768, 65535, 1298074214633706907132624082305024, 649037107316853453566312041152768, 0⟩, ⟨98304, 131071, 2596148429267413814265248164610048, 1947111321950560360698936123457536, 2⟩, ⟨32768, 65535, 5192296858534827628530496329220096, 649037107316853453566312041152640, 0⟩, ⟨294912, 327679, 10384593717069655257060992658440192, 5841333965851681082096808370372608, 0⟩, ⟨557056, 851967, 20769187434139310514121985316880384, 11033630824386508710627304699592704, 0⟩, ⟨1081344, 1900543, 41538374868278621028243970633760768, 21418224541456163967688297358032896, 1⟩, ⟨32768, 65535, 83076749736557242056487941267521536, 649037107316853453566312041152640, 0⟩, ⟨4227072, 4259839, 166153499473114484112975882535043072, 83725786843874095510054253308674048, 0⟩, ⟨8421376, 12648447, 332306998946228968225951765070086144, 166802536580431337566542194576195584, 0⟩, ⟨16809984, 29425663, 664613997892457936451903530140172288, 332956036053545821679518077111238656, 1⟩, ⟨35684352, 66912255, 1329227995784915872903807060280344576, 706801409868053410933713812815085568, 0⟩, ⟨67272704, 134217727, 2658455991569831745807614120560689152, 1332473181321500140171638620486107136, 0⟩, ⟨134250496, 268435455, 5316911983139663491615228241121378304, 2659105028677148599261180432601841664, 0⟩] 35651648 [(0, 0), (2, 0), (3, 0), (4, 0), (5, 0), (6, 1), (7, 0), (1, 2), (8, 0), (9, 0), (10, 0), (12, 0), (11, 2), (13, 0), (14, 0), (15, 0), (16, 0), (18, 0), (19, 0), (20, 0), (21, 1), (22, 0), (23, 0), (24, 0), (25, 1), (26, 0), (17, 2), (27, 0), (28, 0)] (by kernel_rfl) (by kernel_rfl) (by kernel_rfl) (by kernel_rfl) (by kernel_rfl) (by kernel_rfl) (fun c a d v w h => by cases d <;> exact h) ?_
            refine seq_calc (by simp only [List.getElem?_toArray, List.getElem?_cons_succ, List.getElem?_cons_zero]; rfl) (by rfl) (fun u => by go_simp <;> with_reducible rfl) ?_
            try simp only [Act.put, List.setIfInBounds_toArray, List.set_cons_zero, List.set_cons_succ]
            refine seq_calc (by simp only [List.getElem?_toArray, List.getElem?_cons_succ, List.getElem?_cons_zero]; rfl) (by rfl) (fun u => by go_simp <;> with_reducible rfl) ?_
            try simp only [Act.put, List.setIfInBounds_toArray, List.set_cons_zero, List.set_cons_succ]
            refine seq_calc (by simp only [List.getElem?_toArray, List.getElem?_cons_succ, List.getElem?_cons_zero]; rfl) (by rfl) (fun u => by go_simp <;> with_reducible rfl) ?_
            try simp only [Act.put, List.setIfInBounds_toArray, List.set_cons_zero, List.set_cons_succ]
            refine seq_calc (by simp only [List.getElem?_toArray, List.getElem?_cons_succ, List.getElem?_cons_zero]; rfl) (by rfl) (fun u => by go_simp <;> with_reducible rfl) ?_
            try simp only [Act.put, List.setIfInBounds_toArray, List.set_cons_zero, List.set_cons_succ]
            refine seq_calc (by simp only [List.getElem?_toArray, List.getElem?_cons_succ, List.getElem?_cons_zero]; rfl) (by rfl) (fun u => by go_simp <;> with_reducible rfl) ?_
            try simp only [Act.put, List.setIfInBounds_toArray, List.set_cons_zero, List.set_cons_succ]
            refine seq_load1 (by simp only [List.getElem?_toArray, List.getElem?_cons_succ, List.getElem?_cons_zero]; rfl) (by rfl) rfl rfl Tryz.underlying3 rfl (by go_simp <;> with_reducible rfl) (by first | exact id | assumption | (simp; done) | (simp; omega)) ?_
            try simp only [Act.put, List.setIfInBounds_toArray, List.set_cons_zero, List.set_cons_succ]
            refine seq_calc (by simp only [List.getElem?_toArray, List.getElem?_cons_succ, List.getElem?_cons_zero]; rfl) (by rfl) (fun u => by go_simp <;> with_reducible rfl) ?_
            try simp only [Act.put, List.setIfInBounds_toArray, List.set_cons_zero, List.set_cons_succ]
            refine seq_do (by simp only [List.getElem?_toArray, List.getElem?_cons_succ, List.getElem?_cons_zero]; rfl) (by rfl) (fun K hK => ?_); go_wp2_with (first | (go_at_call 32; (with_reducible refine (LF.out _ A6.out.drew).mono ?_); rintro e wt1 ⟨rfl, hbt1⟩; have A1 := Lib.hid (A6.out.drew.later hbt1); obtain ⟨r10, r11, r12, zW1, -⟩ := rbcells A1.out.r) | (go_at_call 33; (with_reducible refine (GR.out _ A1.out).mono ?_); rintro e wt2 ⟨rfl, rfl⟩) | (go_at_call 20; (with_reducible refine (AM.out _ A1.out).mono ?_); rintro e wt3 ⟨rfl, hbt3⟩; have A3 := Lib.hid (A1.out.later hbt3); obtain ⟨r30, r31, r32, zW3, -⟩ := rbcells A3.out.r)); refine hK.out _ _ (by first | (with_reducible exact Chg.refl _ _) | (with_reducible assumption) | (refine Chg.of_below ?_; with_reducible assumption) | (with_reducible exact (Chg.refl _ _).alloc _) | (with_reducible exact (Chg.refl _ _).drewN _) | (with_reducible exact (Chg.refl _ _).drew) | exact ⟨rfl, rfl, rfl, Nat.le_refl _, fun _ _ _ => rfl⟩ | exact (Chg.refl _ _).setCell (.inl (.inl rfl)) _ | exact (Chg.refl _ _).setCell (.inl (.inr rfl)) _ | exact ((Chg.refl _ _).setCell (.inl (.inl rfl)) _).setCell (.inl (.inl rfl)) _ | exact ((Chg.refl _ _).setCell (.inl (.inr rfl)) _).setCell (.inl (.inr rfl)) _ | exact Chg.drew (Chg.setCell ⟨rfl, rfl, rfl, Nat.le_refl _, fun _ _ _ => rfl⟩ (.inl (.inl rfl)) _) | exact Chg.drew (Chg.setCell ⟨rfl, rfl, rfl, Nat.le_refl _, fun _ _ _ => rfl⟩ (.inl (.inr rfl)) _)) ?_; clear hK K
            try simp only [Act.put, List.setIfInBounds_toArray, List.set_cons_zero, List.set_cons_succ]
            refine seq_calc (by simp only [List.getElem?_toArray, List.getElem?_cons_succ, List.getElem?_cons_zero]; rfl) (by rfl) (fun u => by go_simp <;> with_reducible rfl) ?_
            try simp only [Act.put, List.setIfInBounds_toArray, List.set_cons_zero, List.set_cons_succ]
            refine seq_calc (by simp only [List.getElem?_toArray, List.getElem?_cons_succ, List.getElem?_cons_zero]; rfl) (by rfl) (fun u => by go_simp <;> with_reducible rfl) ?_
            try simp only [Act.put, List.setIfInBounds_toArray, List.set_cons_zero, List.set_cons_succ]
            first
              | (refine seq_skip (by simp only [List.getElem?_toArray, List.getElem?_cons_succ, List.getElem?_cons_zero]; rfl) (by rfl) ?_)
              | (refine seq_calc (by simp only [List.getElem?_toArray, List.getElem?_cons_succ, List.getElem?_cons_zero]; rfl) (by rfl) (fun u => by go_simp <;> with_reducible rfl) ?_)
            try simp only [Act.put, List.setIfInBounds_toArray, List.set_cons_zero, List.set_cons_succ]
            first
              | (refine seq_skip (by simp only [List.getElem?_toArray, List.getElem?_cons_succ, List.getElem?_cons_zero]; rfl) (by rfl) ?_)
              | (refine seq_calc (by simp only [List.getElem?_toArray, List.getElem?_cons_succ, List.getElem?_cons_zero]; rfl) (by rfl) (fun u => by go_simp <;> with_reducible rfl) ?_)
            try simp only [Act.put, List.setIfInBounds_toArray, List.set_cons_zero, List.set_cons_succ]
            first
              | (refine seq_skip (by simp only [List.getElem?_toArray, List.getElem?_cons_succ, List.getElem?_cons_zero]; rfl) (by rfl) ?_)
              | (refine seq_do (by simp only [List.getElem?_toArray, List.getElem?_cons_succ, List.getElem?_cons_zero]; rfl) (by rfl) (fun K hK => ?_); go_wp2_with (first | (go_at_call 32; (with_reducible refine (LF.out _ A6.out.drew).mono ?_); rintro e wt1 ⟨rfl, hbt1⟩; have A1 := Lib.hid (A6.out.drew.later hbt1); obtain ⟨r10, r11, r12, zW1, -⟩ := rbcells A1.out.r) | (go_at_call 33; (with_reducible refine (GR.out _ A1.out).mono ?_); rintro e wt2 ⟨rfl, rfl⟩) | (go_at_call 20; (with_reducible refine (AM.out _ A1.out).mono ?_); rintro e wt3 ⟨rfl, hbt3⟩; have A3 := Lib.hid (A1.out.later hbt3); obtain ⟨r30, r31, r32, zW3, -⟩ := rbcells A3.out.r)); refine hK.out _ _ (by first | (with_reducible exact Chg.refl _ _) | (with_reducible assumption) | (refine Chg.of_below ?_; with_reducible assumption) | (with_reducible exact (Chg.refl _ _).alloc _) | (with_reducible exact (Chg.refl _ _).drewN _) | (with_reducible exact (Chg.refl _ _).drew) | exact ⟨rfl, rfl, rfl, Nat.le_refl _, fun _ _ _ => rfl⟩ | exact (Chg.refl _ _).setCell (.inl (.inl rfl)) _ | exact (Chg.refl _ _).setCell (.inl (.inr rfl)) _ | exact ((Chg.refl _ _).setCell (.inl (.inl rfl)) _).setCell (.inl (.inl rfl)) _ | exact ((Chg.refl _ _).setCell (.inl (.inr rfl)) _).setCell (.inl (.inr rfl)) _ | exact Chg.drew (Chg.setCell ⟨rfl, rfl, rfl, Nat.le_refl _, fun _ _ _ => rfl⟩ (.inl (.inl rfl)) _) | exact Chg.drew (Chg.setCell ⟨rfl, rfl, rfl, Nat.le_refl _, fun _ _ _ => rfl⟩ (.inl (.inr rfl)) _)) ?_; clear hK K)
            try simp only [Act.put, List.setIfInBounds_toArray, List.set_cons_zero, List.set_cons_succ]
            first
              | (refine seq_skip (by simp only [List.getElem?_toArray, List.getElem?_cons_succ, List.getElem?_cons_zero]; rfl) (by rfl) ?_)
              | (refine seq_calc (by simp only [List.getElem?_toArray, List.getElem?_cons_succ, List.getElem?_cons_zero]; rfl) (by rfl) (fun u => by go_simp <;> with_reducible rfl) ?_)
            try simp only [Act.put, List.setIfInBounds_toArray, List.set_cons_zero, List.set_cons_succ]
            refine seq_calc (by simp only [List.getElem?_toArray, List.getElem?_cons_succ, List.getElem?_cons_zero]; rfl) (by rfl) (fun u => by go_simp <;> with_reducible rfl) ?_
            try simp only [Act.put, List.setIfInBounds_toArray, List.set_cons_zero, List.set_cons_succ]
            refine seq_calc (by simp only [List.getElem?_toArray, List.getElem?_cons_succ, List.getElem?_cons_zero]; rfl) (by rfl) (fun u => by go_simp <;> with_reducible rfl) ?_
            try simp only [Act.put, List.setIfInBounds_toArray, List.set_cons_zero, List.set_cons_succ]
            first
              | (refine seq_skip (by simp only [List.getElem?_toArray, List.getElem?_cons_succ, List.getElem?_cons_zero]; rfl) (by rfl) ?_)
              | (refine seq_calc (by simp only [List.getElem?_toArray, List.getElem?_cons_succ, List.getElem?_cons_zero]; rfl) (by rfl) (fun u => by go_simp <;> with_reducible rfl) ?_)
            try simp only [Act.put, List.setIfInBounds_toArray, List.set_cons_zero, List.set_cons_succ]
            first
              | (refine seq_skip (by simp only [List.getElem?_toArray, List.getElem?_cons_succ, List.getElem?_cons_zero]; rfl) (by rfl) ?_)
              | (refine seq_calc (by simp only [List.getElem?_toArray, List.getElem?_cons_succ, List.getElem?_cons_zero]; rfl) (by rfl) (fun u => by go_simp <;> with_reducible rfl) ?_)
            try simp only [Act.put, List.setIfInBounds_toArray, List.set_cons_zero, List.set_cons_succ]
            first
              | (refine seq_skip (by simp only [List.getElem?_toArray, List.getElem?_cons_succ, List.getElem?_cons_zero]; rfl) (by rfl) ?_)
              | (refine seq_calc (by simp only [List.getElem?_toArray, List.getElem?_cons_succ, List.getElem?_cons_zero]; rfl) (by rfl) (fun u => by go_simp <;> with_reducible rfl) ?_)
            try simp only [Act.put, List.setIfInBounds_toArray, List.set_cons_zero, List.set_cons_succ]
            first
              | (refine seq_skip (by simp only [List.getElem?_toArray, List.getElem?_cons_succ, List.getElem?_cons_zero]; rfl) (by rfl) ?_)
              | (refine seq_calc (by simp only [List.getElem?_toArray, List.getElem?_cons_succ, List.getElem?_cons_zero]; rfl) (by rfl) (fun u => by go_simp <;> with_reducible rfl) ?_)
            try simp only [Act.put, List.setIfInBounds_toArray, List.set_cons_zero, List.set_cons_succ]
            first
              | (refine seq_skip (by simp only [List.getElem?_toArray, List.getElem?_cons_succ, List.getElem?_cons_zero]; rfl) (by rfl) ?_)
              | (refine seq_load1 (by simp only [List.getElem?_toArray, List.getElem?_cons_succ, List.getElem?_cons_zero]; rfl) (by rfl) rfl rfl Tryz.underlying3 rfl (by go_simp <;> with_reducible rfl) (by first | exact id | assumption | (simp; done) | (simp; omega)) ?_)
            try simp only [Act.put, List.setIfInBounds_toArray, List.set_cons_zero, List.set_cons_succ]
            first
              | (refine seq_skip (by simp only [List.getElem?_toArray, List.getElem?_cons_succ, List.getElem?_cons_zero]; rfl) (by rfl) ?_)
              | (refine seq_calc (by simp only [List.getElem?_toArray, List.getElem?_cons_succ, List.getElem?_cons_zero]; rfl) (by rfl) (fun u => by go_simp <;> with_reducible rfl) ?_)
            try simp only [Act.put, List.setIfInBounds_toArray, List.set_cons_zero, List.set_cons_succ]
            first
              | (refine seq_skip (by simp only [List.getElem?_toArray, List.getElem?_cons_succ, List.getElem?_cons_zero]; rfl) (by rfl) ?_)
              | (refine seq_calc (by simp only [List.getElem?_toArray, List.getElem?_cons_succ, List.getElem?_cons_zero]; rfl) (by rfl) (fun u => by go_simp <;> with_reducible rfl) ?_)
            try simp only [Act.put, List.setIfInBounds_toArray, List.set_cons_zero, List.set_cons_succ]
            first
              | (refine seq_skip (by simp only [List.getElem?_toArray, List.getElem?_cons_succ, List.getElem?_cons_zero]; rfl) (by rfl) ?_)
              | (refine seq_calc (by simp only [List.getElem?_toArray, List.getElem?_cons_succ, List.getElem?_cons_zero]; rfl) (by rfl) (fun u => by go_simp <;> with_reducible rfl) ?_)
            try simp only [Act.put, List.setIfInBounds_toArray, List.set_cons_zero, List.set_cons_succ]
            first
              | (refine seq_skip (by simp only [List.getElem?_toArray, List.getElem?_cons_succ, List.getElem?_cons_zero]; rfl) (by rfl) ?_)
              | (refine seq_load1 (by simp only [List.getElem?_toArray, List.getElem?_cons_succ, List.getElem?_cons_zero]; rfl) (by rfl) rfl rfl Tryz.underlying3 rfl (by go_simp <;> with_reducible rfl) (by first | exact id | assumption | (simp; done) | (simp; omega)) ?_)
            try simp only [Act.put, List.setIfInBounds_toArray, List.set_cons_zero, List.set_cons_succ]
            first
              | (refine seq_skip (by simp only [List.getElem?_toArray, List.getElem?_cons_succ, List.getElem?_cons_zero]; rfl) (by rfl) ?_)
              | (refine seq_calc (by simp only [List.getElem?_toArray, List.getElem?_cons_succ, List.getElem?_cons_zero]; rfl) (by rfl) (fun u => by go_simp <;> with_reducible rfl) ?_)
            try simp only [Act.put, List.setIfInBounds_toArray, List.set_cons_zero, List.set_cons_succ]
            first
              | (refine seq_skip (by simp only [List.getElem?_toArray, List.getElem?_cons_succ, List.getElem?_cons_zero]; rfl) (by rfl) ?_)
              | (refine seq_do (by simp only [List.getElem?_toArray, List.getElem?_cons_succ, List.getElem?_cons_zero]; rfl) (by rfl) (fun K hK => ?_); go_wp2_with (first | (go_at_call 32; (with_reducible refine (LF.out _ A6.out.drew).mono ?_); rintro e wt1 ⟨rfl, hbt1⟩; have A1 := Lib.hid (A6.out.drew.later hbt1); obtain ⟨r10, r11, r12, zW1, -⟩ := rbcells A1.out.r) | (go_at_call 33; (with_reducible refine (GR.out _ A1.out).mono ?_); rintro e wt2 ⟨rfl, rfl⟩) | (go_at_call 20; (with_reducible refine (AM.out _ A1.out).mono ?_); rintro e wt3 ⟨rfl, hbt3⟩; have A3 := Lib.hid (A1.out.later hbt3); obtain ⟨r30, r31, r32, zW3, -⟩ := rbcells A3.out.r)); refine hK.out _ _ (by first | (with_reducible exact Chg.refl _ _) | (with_reducible assumption) | (refine Chg.of_below ?_; with_reducible assumption) | (with_reducible exact (Chg.refl _ _).alloc _) | (with_reducible exact (Chg.refl _ _).drewN _) | (with_reducible exact (Chg.refl _ _).drew) | exact ⟨rfl, rfl, rfl, Nat.le_refl _, fun _ _ _ => rfl⟩ | exact (Chg.refl _ _).setCell (.inl (.inl rfl)) _ | exact (Chg.refl _ _).setCell (.inl (.inr rfl)) _ | exact ((Chg.refl _ _).setCell (.inl (.inl rfl)) _).setCell (.inl (.inl rfl)) _ | exact ((Chg.refl _ _).setCell (.inl (.inr rfl)) _).setCell (.inl (.inr rfl)) _ | exact Chg.drew (Chg.setCell ⟨rfl, rfl, rfl, Nat.le_refl _, fun _ _ _ => rfl⟩ (.inl (.inl rfl)) _) | exact Chg.drew (Chg.setCell ⟨rfl, rfl, rfl, Nat.le_refl _, fun _ _ _ => rfl⟩ (.inl (.inr rfl)) _)) ?_; clear hK K)
            try simp only [Act.put, List.setIfInBounds_toArray, List.set_cons_zero, List.set_cons_succ]
            first
              | (refine seq_skip (by simp only [List.getElem?_toArray, List.getElem?_cons_succ, List.getElem?_cons_zero]; rfl) (by rfl) ?_)
              | (refine seq_calc (by simp only [List.getElem?_toArray, List.getElem?_cons_succ, List.getElem?_cons_zero]; rfl) (by rfl) (fun u => by go_simp <;> with_reducible rfl) ?_)
            try simp only [Act.put, List.setIfInBounds_toArray, List.set_cons_zero, List.set_cons_succ]
            refine seq_calc (by simp only [List.getElem?_toArray, List.getElem?_cons_succ, List.getElem?_cons_zero]; rfl) (by rfl) (fun u => by go_simp <;> with_reducible rfl) ?_
            try simp only [Act.put, List.setIfInBounds_toArray, List.set_cons_zero, List.set_cons_succ]
            refine seq_nil ?_
            go_wp2
            go_roundw
            case rel => exact ⟨j + 1, _, _, by omega, by go_num, A3.out⟩
            case measure => simp [intOf]; omega
          · have hno : k < g ∨ tk = true := by
              cases tk with
              | true => exact .inr rfl
              | false => left; have : ¬ k = g := fun e => hok ⟨e, rfl⟩; omega
            have TK := Lib.hid (KA.out.b.takeNo hno)
            have RK := Lib.hid (fun (w' : World) (h : RB w' W g k tk) => rtake_any h false (by
              rcases hno with h | h
              · rw [decide_eq_false (by omega)]; rfl
              · rw [h]; simp))
            rw [Bool.or_false] at RK
            have NU := Lib.hid (fun (w' : World) hb' => num_any E 5 (by decide) w' hb')
            rw [errN_nz E 5 (by decide)] at NU
            unfold errAt at TK NU
            clear hok hno
            go_upto_region 23 with (first
              | (go_at_call 29; (with_reducible refine TK.out.mono ?_); rintro e w4 ⟨rfl, -, hb4⟩; have A4 := Lib.hid (KA.out.later hb4))
              | (go_at_call 30; (with_reducible refine (RK.out _ A4.out.r).mono ?_); rintro e w5 ⟨rfl, hr5, hc5⟩; have A5 := Lib.hid (show BA w5 D B Q M W g k tk E w0 from ⟨BM.chg A4.out.b hc5 (by rintro b rfl; exact hW0) (fun e => hWD e.symm) (fun e => hWB e.symm) (fun e => hWQ e.symm) (fun e => hWM e.symm), hr5, hK⟩); clear hr5)
              | (go_at_call 10; (with_reducible refine (NU.out _ (HE.out.below A5.out.b.bel)).mono ?_); rintro e w6 ⟨rfl, hb6⟩; have A6 := Lib.hid (A5.out.later hb6)))
            obtain ⟨d, hd⟩ : ∃ d, d = g - (k) := ⟨_, rfl⟩
            have LF := Lib.hid (fun (w' : World) (h : BA w' D B Q M W g (k) tk E w0) => bleft_any D B Q g (k) tk w' h.b.b)
            rw [← hd] at LF
            have GR := Lib.hid (fun (w' : World) (h : BA w' D B Q M W g (k) tk E w0) => bgroups_any D B Q g (k) tk w' h.b.b)
            have AM := Lib.hid (fun (w' : World) (h : BA w' D B Q M W g (k) tk E w0) => meterAll_any (mtB (k)) M 38 w' h.b.m)
            have hkk := A6.out.b.b.hk
            have hmt := mtB_is (k) (by omega)
            rw [hmt.1, hmt.2.1, hmt.2.2] at AM
            obtain ⟨r0, r1, r2, zW, -⟩ := rbcells A6.out.r
            have e9 : IntKind.i64.wrap ((g : Int) - (((k) : Nat) : Int)) = (d : Int) := by rw [IntKind.wrap_i64]; omega
            have e10 : ((d : Int) != (d : Int)) = false := by simp
            have e11 : ((g : Int) != (g : Int)) = false := by simp
            clear hmt hd hkk
            go_wp2
            refine wp_region_seq (fun _ => False) #[⟨0, 0, 19807040628566084398385987584, 32, 0⟩, ⟨1, 1, 39614081257132168796771975168, 19807040628566084398385987584, 2⟩, ⟨0, 0, 79228162514264337593543950336, 1, 0⟩, ⟨0, 0, 158456325028528675187087900672, 128, 0⟩, ⟨8, 8, 316912650057057350374175801344, 158456325028528675187087900672, 0⟩, ⟨16, 24, 633825300114114700748351602688, 316912650057057350374175801344, 0⟩, ⟨32, 56, 1267650600228229401496703205376, 633825300114114700748351602688, 1⟩, ⟨68, 124, 2535301200456458802993406410752, 1346878762742493739090247155712, 0⟩, ⟨130, 255, 5070602400912917605986812821504, 2574915281713590971790178385920, 0⟩, ⟨258, 511, 10141204801825835211973625643008, 5070602400912917605986812821504, 0⟩, ⟨512, 1023, 20282409603651670423947251286016, 10141204801825835211973625643040, 0⟩, ⟨1536, 2047, 40564819207303340847894502572032, 30423614405477505635920876929024, 2⟩, ⟨512, 1023, 81129638414606681695789005144064, 10141204801825835211973625643009, 0⟩, ⟨6656, 8191, 162259276829213363391578010288128, 131835662423735857755657133359104, 0⟩, ⟨8704, 16383, 324518553658426726783156020576256, 172400481631039198603551635931136, 0⟩, ⟨18432, 32767, 649037107316853453566312041152512, 324518553658426726783156020576256, 0⟩, ⟨32768, 65535, 1298074214633706907132624082305024, 649037107316853453566312041152768, 0⟩, ⟨98304, 131071, 2596148429267413814265248164610048, 1947111321950560360698936123457536, 2⟩, ⟨32768, 65535, 5192296858534827628530496329220096, 649037107316853453566312041152640, 0⟩, ⟨294912, 327679, 10384593717069655257060992658440192, 5841333965851681082096808370372608, 0⟩, ⟨557056, 851967, 20769187434139310514121985316880384, 11033630824386508710627304699592704, 0⟩, ⟨1081344, 1900543, 41538374868278621028243970633760768, 21418224541456163967688297358032896, 1⟩, ⟨32768, 65535, 83076749736557242056487941267521536, 649037107316853453566312041152640, 0⟩, ⟨4227072, 4259839, 166153499473114484112975882535043072, 83725786843874095510054253308674048, 0⟩, ⟨8421376, 12648447, 332306998946228968225951765070086144, 166802536580431337566542194576195584, 0⟩, ⟨16809984, 29425663, 664613997892457936451903530140172288, 332956036053545821679518077111238656, 1⟩, ⟨35684352, 66912255, 1329227995784915872903807060280344576, 706801409868053410933713812815085568, 0⟩, ⟨67272704, 134217727, 2658455991569831745807614120560689152, 1332473181321500140171638620486107136, 0⟩, ⟨134250496, 268435455, 5316911983139663491615228241121378304, 2659105028677148599261180432601841664, 0⟩] 35651648 [(0, 0), (2, 0), (3, 0), (4, 0), (5, 0), (6, 1), (7, 0), (1, 2), (8, 0), (9, 0), (10, 0), (12, 0), (11, 2), (13, 0), (14, 0), (15, 0), (16, 0), (18, 0), (19, 0), (20, 0), (21, 1), (22, 0), (23, 0), (24, 0), (25, 1), (26, 0), (17, 2), (27, 0), (28, 0)] (by kernel_rfl) (by kernel_rfl) (by kernel_rfl) (by kernel_rfl) (by kernel_rfl) (by kernel_rfl) (fun c a d v w h => by cases d <;> exact h) ?_
            refine seq_calc (by simp only [List.getElem?_toArray, List.getElem?_cons_succ, List.getElem?_cons_zero]; rfl) (by rfl) (fun u => by go_simp <;> with_reducible rfl) ?_
            try simp only [Act.put, List.setIfInBounds_toArray, List.set_cons_zero, List.set_cons_succ]
            refine seq_calc (by simp only [List.getElem?_toArray, List.getElem?_cons_succ, List.getElem?_cons_zero]; rfl) (by rfl) (fun u => by go_simp <;> with_reducible rfl) ?_
            try simp only [Act.put, List.setIfInBounds_toArray, List.set_cons_zero, List.set_cons_succ]
            refine seq_calc (by simp only [List.getElem?_toArray, List.getElem?_cons_succ, List.getElem?_cons_zero]; rfl) (by rfl) (fun u => by go_simp <;> with_reducible rfl) ?_
            try simp only [Act.put, List.setIfInBounds_toArray, List.set_cons_zero, List.set_cons_succ]
            refine seq_calc (by simp only [List.getElem?_toArray, List.getElem?_cons_succ, List.getElem?_cons_zero]; rfl) (by rfl) (fun u => by go_simp <;> with_reducible rfl) ?_
            try simp only [Act.put, List.setIfInBounds_toArray, List.set_cons_zero, List.set_cons_succ]
            refine seq_calc (by simp only [List.getElem?_toArray, List.getElem?_cons_succ, List.getElem?_cons_zero]; rfl) (by rfl) (fun u => by go_simp <;> with_reducible rfl) ?_
            try simp only [Act.put, List.setIfInBounds_toArray, List.set_cons_zero, List.set_cons_succ]
            refine seq_load1 (by simp only [List.getElem?_toArray, List.getElem?_cons_succ, List.getElem?_cons_zero]; rfl) (by rfl) rfl rfl Tryz.underlying3 rfl (by go_simp <;> with_reducible rfl) (by first | exact id | assumption | (simp; done) | (simp; omega)) ?_
            try simp only [Act.put, List.setIfInBounds_toArray, List.set_cons_zero, List.set_cons_succ]
            refine seq_calc (by simp only [List.getElem?_toArray, List.getElem?_cons_succ, List.getElem?_cons_zero]; rfl) (by rfl) (fun u => by go_simp <;> with_reducible rfl) ?_
            try simp only [Act.put, List.setIfInBounds_toArray, List.set_cons_zero, List.set_cons_succ]
            refine seq_do (by simp only [List.getElem?_toArray, List.getElem?_cons_succ, List.getElem?_cons_zero]; rfl) (by rfl) (fun K hK => ?_); go_wp2_with (first | (go_at_call 32; (with_reducible refine (LF.out _ A6.out.drew).mono ?_); rintro e wt1 ⟨rfl, hbt1⟩; have A1 := Lib.hid (A6.out.drew.later hbt1); obtain ⟨r10, r11, r12, zW1, -⟩ := rbcells A1.out.r) | (go_at_call 33; (with_reducible refine (GR.out _ A1.out).mono ?_); rintro e wt2 ⟨rfl, rfl⟩) | (go_at_call 20; (with_reducible refine (AM.out _ A1.out).mono ?_); rintro e wt3 ⟨rfl, hbt3⟩; have A3 := Lib.hid (A1.out.later hbt3); obtain ⟨r30, r31, r32, zW3, -⟩ := rbcells A3.out.r)); refine hK.out _ _ (by first | (with_reducible exact Chg.refl _ _) | (with_reducible assumption) | (refine Chg.of_below ?_; with_reducible assumption) | (with_reducible exact (Chg.refl _ _).alloc _) | (with_reducible exact (Chg.refl _ _).drewN _) | (with_reducible exact (Chg.refl _ _).drew) | exact ⟨rfl, rfl, rfl, Nat.le_refl _, fun _ _ _ => rfl⟩ | exact (Chg.refl _ _).setCell (.inl (.inl rfl)) _ | exact (Chg.refl _ _).setCell (.inl (.inr rfl)) _ | exact ((Chg.refl _ _).setCell (.inl (.inl rfl)) _).setCell (.inl (.inl rfl)) _ | exact ((Chg.refl _ _).setCell (.inl (.inr rfl)) _).setCell (.inl (.inr rfl)) _ | exact Chg.drew (Chg.setCell ⟨rfl, rfl, rfl, Nat.le_refl _, fun _ _ _ => rfl⟩ (.inl (.inl rfl)) _) | exact Chg.drew (Chg.setCell ⟨rfl, rfl, rfl, Nat.le_refl _, fun _ _ _ => rfl⟩ (.inl (.inr rfl)) _)) ?_; clear hK K
            try simp only [Act.put, List.setIfInBounds_toArray, List.set_cons_zero, List.set_cons_succ]
            refine seq_calc (by simp only [List.getElem?_toArray, List.getElem?_cons_succ, List.getElem?_cons_zero]; rfl) (by rfl) (fun u => by go_simp <;> with_reducible rfl) ?_
            try simp only [Act.put, List.setIfInBounds_toArray, List.set_cons_zero, List.set_cons_succ]
            refine seq_calc (by simp only [List.getElem?_toArray, List.getElem?_cons_succ, List.getElem?_cons_zero]; rfl) (by rfl) (fun u => by go_simp <;> with_reducible rfl) ?_
            try simp only [Act.put, List.setIfInBounds_toArray, List.set_cons_zero, List.set_cons_succ]
            first
              | (refine seq_skip (by simp only [List.getElem?_toArray, List.getElem?_cons_succ, List.getElem?_cons_zero]; rfl) (by rfl) ?_)
              | (refine seq_calc (by simp only [List.getElem?_toArray, List.getElem?_cons_succ, List.getElem?_cons_zero]; rfl) (by rfl) (fun u => by go_simp <;> with_reducible rfl) ?_)
            try simp only [Act.put, List.setIfInBounds_toArray, List.set_cons_zero, List.set_cons_succ]
            first
              | (refine seq_skip (by simp only [List.getElem?_toArray, List.getElem?_cons_succ, List.getElem?_cons_zero]; rfl) (by rfl) ?_)
              | (refine seq_calc (by simp only [List.getElem?_toArray, List.getElem?_cons_succ, List.getElem?_cons_zero]; rfl) (by rfl) (fun u => by go_simp <;> with_reducible rfl) ?_)
            try simp only [Act.put, List.setIfInBounds_toArray, List.set_cons_zero, List.set_cons_succ]
            first
              | (refine seq_skip (by simp only [List.getElem?_toArray, List.getElem?_cons_succ, List.getElem?_cons_zero]; rfl) (by rfl) ?_)
              | (refine seq_do (by simp only [List.getElem?_toArray, List.getElem?_cons_succ, List.getElem?_cons_zero]; rfl) (by rfl) (fun K hK => ?_); go_wp2_with (first | (go_at_call 32; (with_reducible refine (LF.out _ A6.out.drew).mono ?_); rintro e wt1 ⟨rfl, hbt1⟩; have A1 := Lib.hid (A6.out.drew.later hbt1); obtain ⟨r10, r11, r12, zW1, -⟩ := rbcells A1.out.r) | (go_at_call 33; (with_reducible refine (GR.out _ A1.out).mono ?_); rintro e wt2 ⟨rfl, rfl⟩) | (go_at_call 20; (with_reducible refine (AM.out _ A1.out).mono ?_); rintro e wt3 ⟨rfl, hbt3⟩; have A3 := Lib.hid (A1.out.later hbt3); obtain ⟨r30, r31, r32, zW3, -⟩ := rbcells A3.out.r)); refine hK.out _ _ (by first | (with_reducible exact Chg.refl _ _) | (with_reducible assumption) | (refine Chg.of_below ?_; with_reducible assumption) | (with_reducible exact (Chg.refl _ _).alloc _) | (with_reducible exact (Chg.refl _ _).drewN _) | (with_reducible exact (Chg.refl _ _).drew) | exact ⟨rfl, rfl, rfl, Nat.le_refl _, fun _ _ _ => rfl⟩ | exact (Chg.refl _ _).setCell (.inl (.inl rfl)) _ | exact (Chg.refl _ _).setCell (.inl (.inr rfl)) _ | exact ((Chg.refl _ _).setCell (.inl (.inl rfl)) _).setCell (.inl (.inl rfl)) _ | exact ((Chg.refl _ _).setCell (.inl (.inr rfl)) _).setCell (.inl (.inr rfl)) _ | exact Chg.drew (Chg.setCell ⟨rfl, rfl, rfl, Nat.le_refl _, fun _ _ _ => rfl⟩ (.inl (.inl rfl)) _) | exact Chg.drew (Chg.setCell ⟨rfl, rfl, rfl, Nat.le_refl _, fun _ _ _ => rfl⟩ (.inl (.inr rfl)) _)) ?_; clear hK K)
            try simp only [Act.put, List.setIfInBounds_toArray, List.set_cons_zero, List.set_cons_succ]
            first
              | (refine seq_skip (by simp only [List.getElem?_toArray, List.getElem?_cons_succ, List.getElem?_cons_zero]; rfl) (by rfl) ?_)
              | (refine seq_calc (by simp only [List.getElem?_toArray, List.getElem?_cons_succ, List.getElem?_cons_zero]; rfl) (by rfl) (fun u => by go_simp <;> with_reducible rfl) ?_)
            try simp only [Act.put, List.setIfInBounds_toArray, List.set_cons_zero, List.set_cons_succ]
            refine seq_calc (by simp only [List.getElem?_toArray, List.getElem?_cons_succ, List.getElem?_cons_zero]; rfl) (by rfl) (fun u => by go_simp <;> with_reducible rfl) ?_
            try simp only [Act.put, List.setIfInBounds_toArray, List.set_cons_zero, List.set_cons_succ]
            refine seq_calc (by simp only [List.getElem?_toArray, List.getElem?_cons_succ, List.getElem?_cons_zero]; rfl) (by rfl) (fun u => by go_simp <;> with_reducible rfl) ?_
            try simp only [Act.put, List.setIfInBounds_toArray, List.set_cons_zero, List.set_cons_succ]
            first
              | (refine seq_skip (by simp only [List.getElem?_toArray, List.getElem?_cons_succ, List.getElem?_cons_zero]; rfl) (by rfl) ?_)
              | (refine seq_calc (by simp only [List.getElem?_toArray, List.getElem?_cons_succ, List.getElem?_cons_zero]; rfl) (by rfl) (fun u => by go_simp <;> with_reducible rfl) ?_)
            try simp only [Act.put, List.setIfInBounds_toArray, List.set_cons_zero, List.set_cons_succ]
            first
              | (refine seq_skip (by simp only [List.getElem?_toArray, List.getElem?_cons_succ, List.getElem?_cons_zero]; rfl) (by rfl) ?_)
              | (refine seq_calc (by simp only [List.getElem?_toArray, List.getElem?_cons_succ, List.getElem?_cons_zero]; rfl) (by rfl) (fun u => by go_simp <;> with_reducible rfl) ?_)
            try simp only [Act.put, List.setIfInBounds_toArray, List.set_cons_zero, List.set_cons_succ]
            first
              | (refine seq_skip (by simp only [List.getElem?_toArray, List.getElem?_cons_succ, List.getElem?_cons_zero]; rfl) (by rfl) ?_)
              | (refine seq_calc (by simp only [List.getElem?_toArray, List.getElem?_cons_succ, List.getElem?_cons_zero]; rfl) (by rfl) (fun u => by go_simp <;> with_reducible rfl) ?_)
            try simp only [Act.put, List.setIfInBounds_toArray, List.set_cons_zero, List.set_cons_succ]
            first
              | (refine seq_skip (by simp only [List.getElem?_toArray, List.getElem?_cons_succ, List.getElem?_cons_zero]; rfl) (by rfl) ?_)
              | (refine seq_calc (by simp only [List.getElem?_toArray, List.getElem?_cons_succ, List.getElem?_cons_zero]; rfl) (by rfl) (fun u => by go_simp <;> with_reducible rfl) ?_)
            try simp only [Act.put, List.setIfInBounds_toArray, List.set_cons_zero, List.set_cons_succ]
            first
              | (refine seq_skip (by simp only [List.getElem?_toArray, List.getElem?_cons_succ, List.getElem?_cons_zero]; rfl) (by rfl) ?_)
              | (refine seq_load1 (by simp only [List.getElem?_toArray, List.getElem?_cons_succ, List.getElem?_cons_zero]; rfl) (by rfl) rfl rfl Tryz.underlying3 rfl (by go_simp <;> with_reducible rfl) (by first | exact id | assumption | (simp; done) | (simp; omega)) ?_)
            try simp only [Act.put, List.setIfInBounds_toArray, List.set_cons_zero, List.set_cons_succ]
            first
              | (refine seq_skip (by simp only [List.getElem?_toArray, List.getElem?_cons_succ, List.getElem?_cons_zero]; rfl) (by rfl) ?_)
              | (refine seq_calc (by simp only [List.getElem?_toArray, List.getElem?_cons_succ, List.getElem?_cons_zero]; rfl) (by rfl) (fun u => by go_simp <;> with_reducible rfl) ?_)
            try simp only [Act.put, List.setIfInBounds_toArray, List.set_cons_zero, List.set_cons_succ]
            first
              | (refine seq_skip (by simp only [List.getElem?_toArray, List.getElem?_cons_succ, List.getElem?_cons_zero]; rfl) (by rfl) ?_)
              | (refine seq_calc (by simp only [List.getElem?_toArray, List.getElem?_cons_succ, List.getElem?_cons_zero]; rfl) (by rfl) (fun u => by go_simp <;> with_reducible rfl) ?_)
            try simp only [Act.put, List.setIfInBounds_toArray, List.set_cons_zero, List.set_cons_succ]
            first
              | (refine seq_skip (by simp only [List.getElem?_toArray, List.getElem?_cons_succ, List.getElem?_cons_zero]; rfl) (by rfl) ?_)
              | (refine seq_calc (by simp only [List.getElem?_toArray, List.getElem?_cons_succ, List.getElem?_cons_zero]; rfl) (by rfl) (fun u => by go_simp <;> with_reducible rfl) ?_)
            try simp only [Act.put, List.setIfInBounds_toArray, List.set_cons_zero, List.set_cons_succ]
            first
              | (refine seq_skip (by simp only [List.getElem?_toArray, List.getElem?_cons_succ, List.getElem?_cons_zero]; rfl) (by rfl) ?_)
              | (refine seq_load1 (by simp only [List.getElem?_toArray, List.getElem?_cons_succ, List.getElem?_cons_zero]; rfl) (by rfl) rfl rfl Tryz.underlying3 rfl (by go_simp <;> with_reducible rfl) (by first | exact id | assumption | (simp; done) | (simp; omega)) ?_)
            try simp only [Act.put, List.setIfInBounds_toArray, List.set_cons_zero, List.set_cons_succ]
            first
              | (refine seq_skip (by simp only [List.getElem?_toArray, List.getElem?_cons_succ, List.getElem?_cons_zero]; rfl) (by rfl) ?_)
              | (refine seq_calc (by simp only [List.getElem?_toArray, List.getElem?_cons_succ, List.getElem?_cons_zero]; rfl) (by rfl) (fun u => by go_simp <;> with_reducible rfl) ?_)
            try simp only [Act.put, List.setIfInBounds_toArray, List.set_cons_zero, List.set_cons_succ]
            first
              | (refine seq_skip (by simp only [List.getElem?_toArray, List.getElem?_cons_succ, List.getElem?_cons_zero]; rfl) (by rfl) ?_)
              | (refine seq_do (by simp only [List.getElem?_toArray, List.getElem?_cons_succ, List.getElem?_cons_zero]; rfl) (by rfl) (fun K hK => ?_); go_wp2_with (first | (go_at_call 32; (with_reducible refine (LF.out _ A6.out.drew).mono ?_); rintro e wt1 ⟨rfl, hbt1⟩; have A1 := Lib.hid (A6.out.drew.later hbt1); obtain ⟨r10, r11, r12, zW1, -⟩ := rbcells A1.out.r) | (go_at_call 33; (with_reducible refine (GR.out _ A1.out).mono ?_); rintro e wt2 ⟨rfl, rfl⟩) | (go_at_call 20; (with_reducible refine (AM.out _ A1.out).mono ?_); rintro e wt3 ⟨rfl, hbt3⟩; have A3 := Lib.hid (A1.out.later hbt3); obtain ⟨r30, r31, r32, zW3, -⟩ := rbcells A3.out.r)); refine hK.out _ _ (by first | (with_reducible exact Chg.refl _ _) | (with_reducible assumption) | (refine Chg.of_below ?_; with_reducible assumption) | (with_reducible exact (Chg.refl _ _).alloc _) | (with_reducible exact (Chg.refl _ _).drewN _) | (with_reducible exact (Chg.refl _ _).drew) | exact ⟨rfl, rfl, rfl, Nat.le_refl _, fun _ _ _ => rfl⟩ | exact (Chg.refl _ _).setCell (.inl (.inl rfl)) _ | exact (Chg.refl _ _).setCell (.inl (.inr rfl)) _ | exact ((Chg.refl _ _).setCell (.inl (.inl rfl)) _).setCell (.inl (.inl rfl)) _ | exact ((Chg.refl _ _).setCell (.inl (.inr rfl)) _).setCell (.inl (.inr rfl)) _ | exact Chg.drew (Chg.setCell ⟨rfl, rfl, rfl, Nat.le_refl _, fun _ _ _ => rfl⟩ (.inl (.inl rfl)) _) | exact Chg.drew (Chg.setCell ⟨rfl, rfl, rfl, Nat.le_refl _, fun _ _ _ => rfl⟩ (.inl (.inr rfl)) _)) ?_; clear hK K)
            try simp only [Act.put, List.setIfInBounds_toArray, List.set_cons_zero, List.set_cons_succ]
            first
              | (refine seq_skip (by simp only [List.getElem?_toArray, List.getElem?_cons_succ, List.getElem?_cons_zero]; rfl) (by rfl) ?_)
              | (refine seq_calc (by simp only [List.getElem?_toArray, List.getElem?_cons_succ, List.getElem?_cons_zero]; rfl) (by rfl) (fun u => by go_simp <;> with_reducible rfl) ?_)
            try simp only [Act.put, List.setIfInBounds_toArray, List.set_cons_zero, List.set_cons_succ]
            refine seq_calc (by simp only [List.getElem?_toArray, List.getElem?_cons_succ, List.getElem?_cons_zero]; rfl) (by rfl) (fun u => by go_simp <;> with_reducible rfl) ?_
            try simp only [Act.put, List.setIfInBounds_toArray, List.set_cons_zero, List.set_cons_succ]
            refine seq_nil ?_
            go_wp2
            go_roundw
            case rel => exact ⟨j + 1, _, _, by omega, by go_num, A3.out⟩
            case measure => simp [intOf]; omega
      · obtain rfl : j = n1 := by omega
        go_wp2
        go_ret
        exact ⟨rfl, KA.out.b.bel⟩
  · replace hr : rightB n = false := by simpa using hr
    have BN := Lib.hid (fun (w' : World) he' => bnew_bad n hr E w' he')
    have NU := Lib.hid (fun (w' : World) hb' => num_any E 1 (by decide) w' hb')
    rw [errN_nz E 1 (by decide)] at NU
    unfold errAt at *
    rw [hr] at RT
    clear hr
    go_enter Tryz.func4, Tryz.ntmps4
    go_wp2_with (first
      | (go_at_call 24; refine AL.out.mono ?_; rintro e w1 ⟨rfl, hb1⟩)
      | (go_at_call 25; refine (BN.out w1 ((HEC.out.sub (by decide)).below hb1)).mono ?_; rintro e w2 ⟨rfl, hb2⟩; have hB2 := hb1.trans (hb2.mono hb1.size))
      | (go_at_call 26; refine (RT.out _).mono ?_; rintro e w' ⟨rfl, rfl⟩)
      | (go_at_call 10; refine (NU.out _ (HE.out.below hB2)).mono ?_; rintro e w3 ⟨rfl, hb3⟩; have hB3 := hB2.trans (hb3.mono hB2.size)))
    go_ret
    exact ⟨rfl, hB3⟩
end Go.Proofs.YtcolhncbpbcklaaGreatDoor
