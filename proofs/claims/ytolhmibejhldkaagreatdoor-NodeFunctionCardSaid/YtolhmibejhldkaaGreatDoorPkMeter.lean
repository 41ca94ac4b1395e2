/- Texts joined: MeterPlain Meter. No condition but those that stand within. -/
import Derived.WalkKit
import Derived.Test.YtolhmibejhldkaaGreatDoorProg
import Derived.Handy
import Derived.Lib.Hide
import Derived.WalkSmall
import Derived.IntWalk
import Derived.Test.YtolhmibejhldkaaGreatDoorPkSwar
set_option linter.unusedVariables false
set_option linter.unusedSimpArgs false
namespace Go.Proofs.YtolhmibejhldkaaGreatDoor
open Go.RowKit
def mnZ (x y : Int) : Int := if y < x then y else x
def mxZ (x y : Int) : Int := if x < y then y else x
def clampZ (n : Int) : Int := mnZ (mxZ n 0) 1099511627776
theorem clampZ_bd (n : Int) : 0 ≤ clampZ n ∧ clampZ n ≤ 1099511627776 := by unfold clampZ mnZ mxZ; omega
def sumZ (a b : Int) : Int := mnZ (clampZ a + clampZ b) 1099511627776
theorem run_minZ {P : Program} (w : World) (ts : Array TypeId) (ty : TypeId) (k k' : IntKind) (x y : Int) :
    (Builtin.min_ ts ty #[.int k x, .int k' y]).run P w = .ok (.int k (mnZ x y)) w := by
  simp [Builtin.min_, Builtin.min2]; rfl
theorem run_maxZ {P : Program} (w : World) (ts : Array TypeId) (ty : TypeId) (k k' : IntKind) (x y : Int) :
    (Builtin.max_ ts ty #[.int k x, .int k' y]).run P w = .ok (.int k (mxZ x y)) w := by
  simp [Builtin.max_, Builtin.max2]; rfl
end Go.Proofs.YtolhmibejhldkaaGreatDoor

namespace Go.Proofs.YtolhmibejhldkaaGreatDoor
open Go.RowKit Go.Proofs
attribute [local go_sem high] run_minZ run_maxZ
set_option maxHeartbeats 400000 in
theorem meterClamp_any (n : Int) (w : World) :
    Calls Tryz.prog 193 #[.int .i64 n] w fun e w' => e = .returned (.int .i64 (clampZ n)) ∧ w = w' := by
  go_enter Tryz.func193, Tryz.ntmps193
  go_wp2
  go_ret
  exact ⟨rfl, rfl⟩
set_option maxHeartbeats 400000 in
theorem meterSum_any (a b : Int) (w : World) :
    Calls Tryz.prog 192 #[.int .i64 a, .int .i64 b] w fun e w' => e = .returned (.int .i64 (sumZ a b)) ∧ w = w' := by
  obtain ⟨a0, a1⟩ := clampZ_bd a
  obtain ⟨b0, b1⟩ := clampZ_bd b
  go_enter Tryz.func192, Tryz.ntmps192
  go_wp2_with (go_at_call 193; refine (meterClamp_any _ _).mono ?_; rintro e w' ⟨rfl, rfl⟩)
  go_ret
  exact ⟨rfl, rfl⟩
set_option maxHeartbeats 800000 in
theorem meterPlus_any (a0 a1 a2 b0 b1 b2 : Int) (w : World) :
    Calls Tryz.prog 186 #[.agg #[.int .i64 a0, .int .i64 a1, .int .i64 a2], .agg #[.int .i64 b0, .int .i64 b1, .int .i64 b2]] w fun e w' =>
      e = .returned (.agg #[.int .i64 (sumZ a0 b0), .int .i64 (sumZ a1 b1), .int .i64 (sumZ a2 b2)]) ∧ Below w.heap.size w w' := by
  go_enter Tryz.func186, Tryz.ntmps186
  go_wp2
  refine wp_region_seq (fun _ => False) #[⟨0, 0, 32, 4, 0⟩, ⟨1, 1, 64, 32, 1⟩, ⟨0, 0, 128, 8, 0⟩, ⟨4, 4, 256, 128, 1⟩, ⟨10, 15, 512, 320, 2⟩, ⟨0, 0, 1024, 4, 0⟩, ⟨32, 32, 2048, 1024, 1⟩, ⟨0, 0, 4096, 8, 0⟩, ⟨128, 128, 8192, 4096, 1⟩, ⟨336, 511, 16384, 10240, 2⟩, ⟨0, 0, 32768, 4, 0⟩, ⟨1024, 1024, 65536, 32768, 1⟩, ⟨0, 0, 131072, 8, 0⟩, ⟨4096, 4096, 262144, 131072, 1⟩, ⟨10752, 16383, 524288, 327680, 3⟩, ⟨16912, 32767, 1048576, 541184, 0⟩, ⟨65535, 65535, 0, 1048592, 3⟩] 10570 [(0, 0), (1, 1), (2, 0), (3, 1), (5, 0), (6, 1), (7, 0), (8, 1), (10, 0), (11, 1), (12, 0), (13, 1), (4, 2), (9, 2), (14, 3), (15, 0), (16, 3)] (by kernel_rfl) (by kernel_rfl) (by kernel_rfl) (by kernel_rfl) (by kernel_rfl) (by kernel_rfl) (fun c a d v w h => by cases d <;> exact h) ?_
  refine zqC ?_
  refine zq1 Tryz.underlying3 ?_
  try refine zqP ?_; refine zqC ?_
  refine zq1 Tryz.underlying3 ?_
  try refine zqP ?_; refine zqC ?_
  refine zq1 Tryz.underlying3 ?_
  try refine zqP ?_; refine zqC ?_
  refine zq1 Tryz.underlying3 ?_
  try refine zqP ?_; refine zqC ?_
  refine zq1 Tryz.underlying3 ?_
  try refine zqP ?_; refine zqC ?_
  refine zq1 Tryz.underlying3 ?_
  try refine zqP ?_
  refine zqD fun K hK => ?_; go_wp2_with (go_at_call 192; refine (meterSum_any _ _ _).mono ?_; rintro e w' ⟨rfl, rfl⟩); refine hkA hK (h := ?_); clear hK K
  try refine zqP ?_
  refine zqD fun K hK => ?_; go_wp2_with (go_at_call 192; refine (meterSum_any _ _ _).mono ?_; rintro e w' ⟨rfl, rfl⟩); refine hkA hK (h := ?_); clear hK K
  try refine zqP ?_
  refine zqE fun K hK => ?_; go_wp2_with (go_at_call 192; refine (meterSum_any _ _ _).mono ?_; rintro e w' ⟨rfl, rfl⟩); refine hK.out _ _ ?_; clear hK K
  try refine zqP ?_; refine zqC ?_
  refine zqE fun K hK => ?_; go_wp2_with (fail); refine hK.out _ _ ?_; clear hK K
  try refine zqP ?_
  refine seq_nil ?_
  go_wp2
  exact bodyPost_ret (v := .agg #[.int .i64 (sumZ a0 b0), .int .i64 (sumZ a1 b1), .int .i64 (sumZ a2 b2)]) (by simp [results, Tryz.results186, go_sem]) rfl ⟨rfl, by go_grown⟩
structure MeterS where
  a0 : Int
  a1 : Int
  a2 : Int
  l0 : Int
  l1 : Int
  l2 : Int
  limited : Bool
  limit : Int
def MeterS.cells (m : MeterS) : Array Value := #[.int .i64 m.a0, .int .i64 m.a1, .int .i64 m.a2, .int .i64 m.l0, .int .i64 m.l1, .int .i64 m.l2, .bool m.limited, .int .i64 m.limit]
def MeterS.add (m : MeterS) (x y z : Int) : MeterS := { m with a0 := sumZ m.a0 x, a1 := sumZ m.a1 y, a2 := sumZ m.a2 z, l0 := sumZ m.l0 x, l1 := sumZ m.l1 y, l2 := sumZ m.l2 z }
def MeterS.zero : MeterS := ⟨0, 0, 0, 0, 0, 0, false, 0⟩
theorem meter_cells {w : World} {B : Nat} {T : TypeId} {m : MeterS} (h : Blk w B T m.cells) :
    (w.cell? ⟨B, 0, none⟩ = some (.int .i64 m.a0) ∧ w.cell? ⟨B, 1, none⟩ = some (.int .i64 m.a1) ∧ w.cell? ⟨B, 2, none⟩ = some (.int .i64 m.a2) ∧ w.cell? ⟨B, 3, none⟩ = some (.int .i64 m.l0) ∧
      w.cell? ⟨B, 4, none⟩ = some (.int .i64 m.l1) ∧ w.cell? ⟨B, 5, none⟩ = some (.int .i64 m.l2) ∧ w.cell? ⟨B, 6, none⟩ = some (.bool m.limited) ∧ w.cell? ⟨B, 7, none⟩ = some (.int .i64 m.limit)) ∧
    (w.frozen? ⟨B, 0, none⟩ = false ∧ w.frozen? ⟨B, 1, none⟩ = false ∧ w.frozen? ⟨B, 2, none⟩ = false ∧ w.frozen? ⟨B, 3, none⟩ = false ∧ w.frozen? ⟨B, 4, none⟩ = false ∧ w.frozen? ⟨B, 5, none⟩ = false ∧ w.frozen? ⟨B, 6, none⟩ = false ∧ w.frozen? ⟨B, 7, none⟩ = false) :=
  ⟨⟨h.cell 0, h.cell 1, h.cell 2, h.cell 3, h.cell 4, h.cell 5, h.cell 6, h.cell 7⟩, h.frozen 0, h.frozen 1, h.frozen 2, h.frozen 3, h.frozen 4, h.frozen 5, h.frozen 6, h.frozen 7⟩
set_option maxHeartbeats 1600000 in
theorem meterAdd_any (m : MeterS) (x y z : Int) (B : Nat) (T : TypeId) (w : World) (hb : Blk w B T m.cells) :
    Calls Tryz.prog 169 #[.pointer (some ⟨B, 0, none⟩), .agg #[.int .i64 x, .int .i64 y, .int .i64 z]] w fun e w' =>
      e = .returned (.tuple #[]) ∧ Blk w' B T (m.add x y z).cells ∧ Chg (fun b => b = B) w w' := by
  have hlt := hb.lt
  have hlt1 : B < w.heap.size + 1 := by omega
  have HB := Lib.hid hb
  obtain ⟨hc, hf⟩ := meter_cells hb
  clear hb
  go_enter Tryz.func169, Tryz.ntmps169
  go_wp2
  refine wp_region_seq (fun _ => False) #[⟨0, 0, 16, 1, 0⟩, ⟨0, 0, 32, 1, 0⟩, ⟨0, 0, 64, 1, 0⟩, ⟨4, 4, 128, 64, 0⟩, ⟨8, 12, 256, 128, 0⟩, ⟨16, 28, 512, 256, 1⟩, ⟨0, 0, 1024, 8, 1⟩, ⟨96, 124, 2048, 1536, 2⟩, ⟨0, 0, 4096, 1, 0⟩, ⟨256, 256, 8192, 4096, 0⟩, ⟨512, 768, 16384, 8192, 0⟩, ⟨1024, 1792, 32768, 16384, 1⟩, ⟨0, 0, 65536, 8, 1⟩, ⟨6272, 8188, 131072, 98304, 3⟩, ⟨10493, 16381, 262144, 16, 0⟩, ⟨26877, 32765, 524288, 262144, 0⟩, ⟨43261, 65533, 0, 526336, 3⟩, ⟨131071, 131071, 1048576, 32, 0⟩, ⟨262143, 262143, 2097152, 1048576, 0⟩, ⟨393215, 524287, 0, 2228224, 3⟩] 6240 [(0, 0), (1, 0), (2, 0), (3, 0), (4, 0), (5, 1), (6, 1), (8, 0), (9, 0), (10, 0), (11, 1), (12, 1), (7, 2), (13, 3), (14, 0), (15, 0), (16, 3), (17, 0), (18, 0), (19, 3)] (by kernel_rfl) (by kernel_rfl) (by kernel_rfl) (by kernel_rfl) (by kernel_rfl) (by kernel_rfl) (fun c a d v w h => by cases d <;> exact h) ?_
  refine zqC ?_; refine zqC ?_; refine zqC ?_; refine zqC ?_; refine zqC ?_
  refine zqL [_, _, _] Tryz.underlying35 ?_
  try refine zqP ?_
  refine zqL [_, _, _] Tryz.underlying35 ?_
  try refine zqP ?_; refine zqC ?_; refine zqC ?_; refine zqC ?_
  refine zqL [_, _, _] Tryz.underlying35 ?_
  try refine zqP ?_
  refine zqL [_, _, _] Tryz.underlying35 ?_
  try refine zqP ?_
  refine zqD fun K hK => ?_; go_wp2_with (go_at_call 186; refine (meterPlus_any _ _ _ _ _ _ _).mono ?_; rintro e w1 ⟨rfl, hb1⟩; have hB1 : Below w.heap.size w w1 := (by first | exact hB1.trans (hb1.mono hB1.size) | exact hB1.trans (Below.undrew (hb1.mono hB1.size)) | exact hb1 | exact Below.trans (by go_grown) (hb1.mono (by simp <;> omega))); have hcB := fun (o : Nat) => hb1.cell (p := ⟨B, o, none⟩) (by first | assumption | (simp <;> omega)); have hfB := fun (o : Nat) => hb1.frozen (p := ⟨B, o, none⟩) (by first | assumption | (simp <;> omega)); have hzB : B < w1.heap.size := Nat.lt_of_lt_of_le (by first | assumption | (simp <;> omega)) hb1.size); refine hkA hK (h := ?_); clear hK K
  try refine zqP ?_
  refine zqE fun K hK => ?_; go_wp2_with (go_at_call 186; refine (meterPlus_any _ _ _ _ _ _ _).mono ?_; rintro e w1 ⟨rfl, hb1⟩; have hB1 : Below w.heap.size w w1 := (by first | exact hB1.trans (hb1.mono hB1.size) | exact hB1.trans (Below.undrew (hb1.mono hB1.size)) | exact hb1 | exact Below.trans (by go_grown) (hb1.mono (by simp <;> omega))); have hcB := fun (o : Nat) => hb1.cell (p := ⟨B, o, none⟩) (by first | assumption | (simp <;> omega)); have hfB := fun (o : Nat) => hb1.frozen (p := ⟨B, o, none⟩) (by first | assumption | (simp <;> omega)); have hzB : B < w1.heap.size := Nat.lt_of_lt_of_le (by first | assumption | (simp <;> omega)) hb1.size); refine hK.out _ _ ?_; clear hK K
  try refine zqP ?_; refine zqC ?_; refine zqC ?_
  refine zqE fun K hK => ?_; go_wp2_with (fail); refine hK.out _ _ ?_; clear hK K
  try refine zqP ?_; refine zqC ?_; refine zqC ?_
  refine zqE fun K hK => ?_; go_wp2_with (fail); refine hK.out _ _ ?_; clear hK K
  try refine zqP ?_
  refine seq_nil ?_
  ((try simp only [Exit.inBlock, Exit.then]); first | refine bodyPost_end (results_none rfl _ _ _) rfl ?_ | refine bodyPost_ret (results_none rfl _ _ _) rfl ?_)
  refine ⟨rfl, ?_, ?_⟩
  · exact ((((((HB.out.below hB1 hlt).set 0 _).set 1 _).set 2 _).set 3 _).set 4 _).set 5 _
  · repeat (with_reducible refine Chg.set1 ?_ _ _)
    exact Chg.of_below hB1
theorem probing_any (p : Option Addr) (w : World) :
    Calls Tryz.prog 11 #[.pointer p] w fun e w' => e = .returned (.agg #[.pointer p, .int .i64 1, .int .i64 0, .int .i64 0]) ∧ Below w.heap.size w w' := by
  go_enter Tryz.func11, Tryz.ntmps11
  go_wp2
  exact bodyPost_ret (v := .agg #[.pointer p, .int .i64 1, .int .i64 0, .int .i64 0]) (by simp [results, Tryz.results11, go_sem]) rfl ⟨rfl, by go_grown⟩
set_option maxHeartbeats 800000 in
theorem visit_any (m : MeterS) (x y z : Int) (B : Nat) (T : TypeId) (w : World) (hb : Blk w B T m.cells) :
    Calls Tryz.prog 135 #[.agg #[.pointer (some ⟨B, 0, none⟩), .int .i64 x, .int .i64 y, .int .i64 z]] w fun e w' =>
      e = .returned (.tuple #[]) ∧ Blk w' B T (m.add x y z).cells ∧ Chg (fun b => b = B) w w' := by
  have hlt := hb.lt
  have HA := fun (w' : World) (h : Below w.heap.size w w') => meterAdd_any m x y z B T w' (hb.below h hlt)
  replace HA := Lib.hid HA
  clear hb
  go_enter Tryz.func135, Tryz.ntmps135
  go_wp2_with (go_at_call 169; refine (HA.out _ (by go_grown)).mono ?_; rintro e w1 ⟨rfl, h1, h2⟩)
  ((try simp only [Exit.inBlock, Exit.then]); first | refine bodyPost_end (results_none rfl _ _ _) rfl ?_ | refine bodyPost_ret (results_none rfl _ _ _) rfl ?_)
  exact ⟨rfl, h1, (Chg.of_below (by go_grown)).trans h2⟩
theorem visit_none (x y z : Int) (w : World) :
    Calls Tryz.prog 135 #[.agg #[.pointer none, .int .i64 x, .int .i64 y, .int .i64 z]] w fun e w' => e = .returned (.tuple #[]) ∧ Below w.heap.size w w' := by
  go_enter Tryz.func135, Tryz.ntmps135
  go_wp2
  ((try simp only [Exit.inBlock, Exit.then]); first | refine bodyPost_end (results_none rfl _ _ _) rfl ?_ | refine bodyPost_ret (results_none rfl _ _ _) rfl ?_)
  exact ⟨rfl, by go_grown⟩
set_option maxHeartbeats 1600000 in
theorem unit_free (m : MeterS) (n : Int) (h : 1 ≤ n) (hm : m.limited = false) (B : Nat) (T : TypeId) (w : World) (hb : Blk w B T m.cells) :
    Calls Tryz.prog 150 #[.pointer (some ⟨B, 0, none⟩), .int .i64 n] w fun e w' => e = .returned (.tuple #[]) ∧ Blk w' B T (m.add 0 0 n).cells ∧ Chg (fun b => b = B) w w' := by
  have hlt := hb.lt
  have HA := fun (w' : World) (h : Below w.heap.size w w') => meterAdd_any m 0 0 n B T w' (hb.below h hlt)
  replace HA := Lib.hid HA
  obtain ⟨hc, hf⟩ := meter_cells hb
  rw [hm] at hc
  clear hb
  go_enter Tryz.func150, Tryz.ntmps150
  go_wp2
  refine wp_region_seq (fun _ => False) #[⟨0, 0, 64, 1, 0⟩, ⟨1, 1, 128, 64, 0⟩, ⟨2, 3, 256, 128, 0⟩, ⟨4, 7, 512, 256, 1⟩, ⟨8, 15, 1024, 512, 0⟩, ⟨16, 31, 2048, 1026, 0⟩, ⟨16, 31, 4096, 1025, 0⟩, ⟨80, 95, 8192, 5120, 0⟩, ⟨144, 223, 16384, 9216, 0⟩, ⟨272, 479, 32768, 17408, 1⟩, ⟨16, 31, 65536, 1025, 0⟩, ⟨1040, 1055, 131072, 66560, 0⟩, ⟨2064, 3103, 262144, 132096, 0⟩, ⟨4112, 7199, 524288, 263168, 0⟩, ⟨8208, 15391, 1048576, 525312, 1⟩, ⟨16912, 32735, 2097152, 1082368, 0⟩, ⟨32816, 65535, 4194304, 2100224, 0⟩, ⟨65552, 131071, 8388608, 4195328, 0⟩] 16904 [(0, 0), (1, 0), (2, 0), (3, 1), (4, 0), (5, 0), (6, 0), (7, 0), (8, 0), (9, 1), (10, 0), (11, 0), (12, 0), (13, 0), (14, 1), (15, 0), (16, 0), (17, 0)] (by kernel_rfl) (by kernel_rfl) (by kernel_rfl) (by kernel_rfl) (by kernel_rfl) (by kernel_rfl) (fun c a d v w h => by cases d <;> exact h) ?_
  refine zqC ?_; refine zqC ?_; refine zqC ?_
  refine zq1 Tryz.underlying4 ?_
  try refine zqP ?_; refine zqC ?_
  first
    | (refine zqK ?_)
    | (refine zqA ?_)
  try refine zqP ?_
  first
    | (refine zqK ?_)
    | (refine zqA ?_)
  try refine zqP ?_
  first
    | (refine zqK ?_)
    | (refine zqA ?_)
  try refine zqP ?_
  first
    | (refine zqK ?_)
    | (refine zqA ?_)
  try refine zqP ?_
  first
    | (refine zqK ?_)
    | (refine zq1 Tryz.underlying3 ?_)
  try refine zqP ?_
  first
    | (refine zqK ?_)
    | (refine zqA ?_)
  try refine zqP ?_
  first
    | (refine zqK ?_)
    | (refine zqA ?_)
  try refine zqP ?_
  first
    | (refine zqK ?_)
    | (refine zqA ?_)
  try refine zqP ?_
  first
    | (refine zqK ?_)
    | (refine zqA ?_)
  try refine zqP ?_
  first
    | (refine zqK ?_)
    | (refine zq1 Tryz.underlying3 ?_)
  try refine zqP ?_
  first
    | (refine zqK ?_)
    | (refine zqA ?_)
  try refine zqP ?_
  first
    | (refine zqK ?_)
    | (refine zqA ?_)
  try refine zqP ?_; refine zqC ?_
  refine seq_nil ?_
  go_wp2_with (go_at_call 169; refine (HA.out _ (by go_grown)).mono ?_; rintro e w1 ⟨rfl, h1, h2⟩)
  ((try simp only [Exit.inBlock, Exit.then]); first | refine bodyPost_end (results_none rfl _ _ _) rfl ?_ | refine bodyPost_ret (results_none rfl _ _ _) rfl ?_)
  exact ⟨rfl, h1, (Chg.of_below (by go_grown)).trans h2⟩
theorem working_any (p : Option Addr) (w : World) :
    Calls Tryz.prog 153 #[.pointer p] w fun e w' => e = .returned (.agg #[.pointer p, .int .i64 0, .int .i64 1, .int .i64 0]) ∧ Below w.heap.size w w' := by
  go_enter Tryz.func153, Tryz.ntmps153
  go_wp2
  exact bodyPost_ret (v := .agg #[.pointer p, .int .i64 0, .int .i64 1, .int .i64 0]) (by simp [results, Tryz.results153, go_sem]) rfl ⟨rfl, by go_grown⟩
end Go.Proofs.YtolhmibejhldkaaGreatDoor
