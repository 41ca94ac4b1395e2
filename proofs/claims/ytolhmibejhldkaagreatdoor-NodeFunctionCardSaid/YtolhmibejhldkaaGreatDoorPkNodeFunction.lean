/- Texts joined: ChoosePlain Choose Node NodeDo NodePut NodeStep ChooseRoomPlain ChooseRoom NodeStart NodeEnd NodeNew Dir DirHalves DirParts NodeP NodeP2 NodeP3 NodeP4 Nodes NodesDo NodesP NodeOf NodeAlive NodeFunS NodeFunQ NodeFunction NodeFunG NodeFunH NodeFunB NodeFunC. No condition but those that stand within. -/
import Derived.Test.YtolhmibejhldkaaGreatDoorProg
import Derived.Deep.QuietTactic
import Derived.BigQuiet
import Derived.OwnWalk
import Derived.LoopTactic
import Derived.Laws.OwnMore
import Derived.Maps.AppendAt
import Derived.Deep.Cut
import Derived.Deep.LoopGhost
import Derived.Deep.DeepCutAuto
import Derived.Deep.CutBlock
import Derived.Test.YtolhmibejhldkaaGreatDoorPkSwar
import Derived.Test.YtolhmibejhldkaaGreatDoorPkMeter
import Derived.Test.YtolhmibejhldkaaGreatDoorPkErrs
import Derived.Test.YtolhmibejhldkaaGreatDoorPkGroup
import Derived.Test.YtolhmibejhldkaaGreatDoorPkTab
import Derived.Test.YtolhmibejhldkaaGreatDoorPkTab2
import Derived.Test.YtolhmibejhldkaaGreatDoorPkTab3
import Derived.Test.YtolhmibejhldkaaGreatDoorPkTab4
import Derived.Test.YtolhmibejhldkaaGreatDoorPkTake
import Derived.Test.YtolhmibejhldkaaGreatDoorPkTabM
import Derived.Test.YtolhmibejhldkaaGreatDoorPkBuild
import Derived.Test.YtolhmibejhldkaaGreatDoorPkEvac
import Derived.Test.YtolhmibejhldkaaGreatDoorPkRef09
import Derived.Test.YtolhmibejhldkaaGreatDoorPkEvac2
import Derived.Test.YtolhmibejhldkaaGreatDoorPkActs
import Derived.Test.YtolhmibejhldkaaGreatDoorPkDual1
import Derived.Test.YtolhmibejhldkaaGreatDoorPkDual2
import Derived.Test.YtolhmibejhldkaaGreatDoorPkDual3
import Derived.Test.YtolhmibejhldkaaGreatDoorPkDual4
set_option linter.unusedVariables false
set_option linter.unusedSimpArgs false
namespace Go.Proofs.YtolhmibejhldkaaGreatDoor
open Go.RowKit
def fineB (l t g lo gl : Int) : Bool := rightB g && decide (0 ≤ l ∧ 0 ≤ t ∧ 0 ≤ lo ∧ 0 ≤ gl)
def needsB (l t g : Int) : Bool := decide (4 * g ≤ l ∨ 4 * g - l ≤ t)
def whichF (l t g lo gl : Int) : Int :=
  if fineB l t g lo gl = true ∧ needsB l t g = true then
    if l ≤ 2 * g then 1 else if 8 ≤ g ∧ lo < gl then 3 else if g < 64 then 2 else 1
  else 0
def doubleB (l t g lo gl : Int) : Bool := decide (fineB l t g lo gl = true ∧ needsB l t g = true ∧ 2 * g < l ∧ 8 ≤ g ∧ lo = gl ∧ gl < 5)
theorem fineB_iff (l t g lo gl : Int) : fineB l t g lo gl = true ↔ rightB g = true ∧ 0 ≤ l ∧ 0 ≤ t ∧ 0 ≤ lo ∧ 0 ≤ gl := by
  simp [fineB]
theorem needsB_iff (l t g : Int) : needsB l t g = true ↔ 4 * g ≤ l ∨ 4 * g - l ≤ t := by simp [needsB]
end Go.Proofs.YtolhmibejhldkaaGreatDoor

namespace Go.Proofs.YtolhmibejhldkaaGreatDoor
open Go.RowKit Go.Proofs
def mn (x y : Int) : Int := if y < x then y else x
theorem mn_nonneg (x y : Int) : 0 ≤ mn x y ↔ 0 ≤ x ∧ 0 ≤ y := by unfold mn; split <;> omega
theorem run_min4 {P : Program} (w : World) (ts : Array TypeId) (ty : TypeId) (k k' k'' k3 : IntKind) (x y z u : Int) :
    (Builtin.min_ ts ty #[.int k x, .int k' y, .int k'' z, .int k3 u]).run P w = .ok (.int k (mn (mn (mn x y) z) u)) w := by
  simp [Builtin.min_, Builtin.min2]; rfl
attribute [local go_sem] run_min4
set_option maxHeartbeats 800000 in
theorem fine_any (l t g lo gl : Int) (w : World) :
    Calls Tryz.prog 102 #[.int .i64 l, .int .i64 t, .int .i64 g, .int .i64 lo, .int .i64 gl] w fun e w' => e = .returned (.bool (fineB l t g lo gl)) ∧ w = w' := by
  by_cases hr : rightB g = true
  · by_cases hn : 0 ≤ l ∧ 0 ≤ t ∧ 0 ≤ lo ∧ 0 ≤ gl
    · have hf : fineB l t g lo gl = true := by rw [fineB_iff]; exact ⟨hr, hn⟩
      have HF := Lib.hid hf
      clear hf
      have hm : 0 ≤ mn (mn (mn l t) lo) gl := by simp only [mn_nonneg]; omega
      clear hn
      go_enter Tryz.func102, Tryz.ntmps102
      go_wp2_with (go_at_call 104; refine (right_any _ _).mono ?_; rintro e w' ⟨rfl, rfl⟩)
      go_ret
      exact ⟨by rw [HF.out]; simp <;> omega, rfl⟩
    · have hf : fineB l t g lo gl = false := by rw [Bool.eq_false_iff, ne_eq, fineB_iff]; exact fun h => hn h.2
      have HF := Lib.hid hf
      have hm : ¬ 0 ≤ mn (mn (mn l t) lo) gl := by simp only [mn_nonneg]; omega
      clear hf hn
      go_enter Tryz.func102, Tryz.ntmps102
      go_wp2_with (go_at_call 104; refine (right_any _ _).mono ?_; rintro e w' ⟨rfl, rfl⟩)
      go_ret
      exact ⟨by rw [HF.out]; simp <;> omega, rfl⟩
  · have hf : fineB l t g lo gl = false := by rw [Bool.eq_false_iff, ne_eq, fineB_iff]; exact fun h => hr h.1
    have HF := Lib.hid hf
    have hr' : rightB g = false := by simpa using hr
    clear hf
    go_enter Tryz.func102, Tryz.ntmps102
    go_wp2_with (go_at_call 104; refine (right_any _ _).mono ?_; rintro e w' ⟨rfl, rfl⟩)
    go_ret
    exact ⟨by rw [HF.out]; rfl, rfl⟩
set_option maxHeartbeats 400000 in
theorem needs_any (l t g : Int) (hg : 1 ≤ g ∧ g ≤ 64) (h0 : 0 ≤ l) (w : World) :
    Calls Tryz.prog 103 #[.int .i64 l, .int .i64 t, .int .i64 g] w fun e w' => e = .returned (.bool (needsB l t g)) ∧ w = w' := by
  by_cases h1 : 4 * g ≤ l
  · have hf : needsB l t g = true := by rw [needsB_iff]; exact .inl h1
    have HF := Lib.hid hf
    clear hf
    go_enter Tryz.func103, Tryz.ntmps103
    go_wp2
    go_ret
    exact ⟨by rw [HF.out]; simp <;> omega, rfl⟩
  · have hf : needsB l t g = decide (4 * g - l ≤ t) := by rw [Bool.eq_iff_iff, needsB_iff, decide_eq_true_iff]; omega
    have HF := Lib.hid hf
    clear hf
    go_enter Tryz.func103, Tryz.ntmps103
    go_wp2
    go_ret
    exact ⟨by rw [HF.out]; rfl, rfl⟩
theorem right_bd' {g : Int} (h : rightB g = true) : 1 ≤ g ∧ g ≤ 64 := by rw [rightB_iff] at h; omega
set_option maxHeartbeats 1600000 in
theorem which_any (l t g lo gl : Int) (w : World) :
    Calls Tryz.prog 50 #[.int .i64 l, .int .i64 t, .int .i64 g, .int .i64 lo, .int .i64 gl] w fun e w' => e = .returned (.int .i64 (whichF l t g lo gl)) ∧ w = w' := by
  have cf := fun w => fine_any l t g lo gl w
  by_cases hf : fineB l t g lo gl = true
  · have hF := (fineB_iff l t g lo gl).1 hf
    have hg := right_bd' hF.1
    have cn := fun w => needs_any l t g hg hF.2.1 w
    simp only [hf] at cf
    by_cases hn : needsB l t g = true
    · simp only [hn] at cn
      have hw : whichF l t g lo gl = (if l ≤ 2 * g then 1 else if 8 ≤ g ∧ lo < gl then 3 else if g < 64 then 2 else 1) := by unfold whichF; rw [if_pos ⟨hf, hn⟩]
      have h0 := hF.2.1
      have HW := Lib.hid hw
      clear hF hf hn hw
      go_enter Tryz.func50, Tryz.ntmps50
      go_wp2_with (first | (go_at_call 102; refine (cf _).mono ?_; rintro e w' ⟨rfl, rfl⟩) | (go_at_call 103; refine (cn _).mono ?_; rintro e w' ⟨rfl, rfl⟩))
      all_goals go_ret
      all_goals refine ⟨?_, rfl⟩
      all_goals rw [HW.out]
      all_goals (show Ending.returned (.int .i64 _) = _; congr 2; (repeat split) <;> omega)
    · have hn' : needsB l t g = false := by simpa using hn
      simp only [hn'] at cn
      have hw : whichF l t g lo gl = 0 := by unfold whichF; rw [if_neg (fun h => hn h.2)]
      have HW := Lib.hid hw
      clear hw hf hn hF
      go_enter Tryz.func50, Tryz.ntmps50
      go_wp2_with (first | (go_at_call 102; refine (cf _).mono ?_; rintro e w' ⟨rfl, rfl⟩) | (go_at_call 103; refine (cn _).mono ?_; rintro e w' ⟨rfl, rfl⟩))
      go_ret
      exact ⟨by rw [HW.out]; rfl, rfl⟩
  · have hf' : fineB l t g lo gl = false := by simpa using hf
    simp only [hf'] at cf
    have hw : whichF l t g lo gl = 0 := by unfold whichF; rw [if_neg (fun h => hf h.1)]
    have HW := Lib.hid hw
    clear hw hf
    go_enter Tryz.func50, Tryz.ntmps50
    go_wp2_with (go_at_call 102; refine (cf _).mono ?_; rintro e w' ⟨rfl, rfl⟩)
    go_ret
    exact ⟨by rw [HW.out]; rfl, rfl⟩
set_option maxHeartbeats 1600000 in
theorem double_any (l t g lo gl : Int) (w : World) :
    Calls Tryz.prog 51 #[.int .i64 l, .int .i64 t, .int .i64 g, .int .i64 lo, .int .i64 gl] w fun e w' => e = .returned (.bool (doubleB l t g lo gl)) ∧ w = w' := by
  have cf := fun w => fine_any l t g lo gl w
  by_cases hf : fineB l t g lo gl = true
  · have hF := (fineB_iff l t g lo gl).1 hf
    have hg := right_bd' hF.1
    have cn := fun w => needs_any l t g hg hF.2.1 w
    simp only [hf] at cf
    by_cases hn : needsB l t g = true
    · simp only [hn] at cn
      have hw : doubleB l t g lo gl = decide (2 * g < l ∧ 8 ≤ g ∧ lo = gl ∧ gl < 5) := by
        unfold doubleB; rw [Bool.eq_iff_iff, decide_eq_true_iff, decide_eq_true_iff]; exact ⟨fun h => h.2.2, fun h => ⟨hf, hn, h⟩⟩
      have h0 := hF.2.1
      have HW := Lib.hid hw
      clear hF hf hn hw
      go_enter Tryz.func51, Tryz.ntmps51
      go_wp2_with (first | (go_at_call 102; refine (cf _).mono ?_; rintro e w' ⟨rfl, rfl⟩) | (go_at_call 103; refine (cn _).mono ?_; rintro e w' ⟨rfl, rfl⟩))
      all_goals go_ret
      all_goals refine ⟨?_, rfl⟩
      all_goals rw [HW.out]
      all_goals (show Ending.returned (.bool _) = _; congr 2; first | (rw [Bool.eq_iff_iff]; simp; done) | (rw [Bool.eq_iff_iff]; simp; omega))
    · have hn' : needsB l t g = false := by simpa using hn
      simp only [hn'] at cn
      have hw : doubleB l t g lo gl = false := by unfold doubleB; exact decide_eq_false (fun h => hn h.2.1)
      have HW := Lib.hid hw
      clear hw hf hn hF
      go_enter Tryz.func51, Tryz.ntmps51
      go_wp2_with (first | (go_at_call 102; refine (cf _).mono ?_; rintro e w' ⟨rfl, rfl⟩) | (go_at_call 103; refine (cn _).mono ?_; rintro e w' ⟨rfl, rfl⟩))
      go_ret
      exact ⟨by rw [HW.out]; rfl, rfl⟩
  · have hf' : fineB l t g lo gl = false := by simpa using hf
    simp only [hf'] at cf
    have hw : doubleB l t g lo gl = false := by unfold doubleB; exact decide_eq_false (fun h => hf h.1)
    have HW := Lib.hid hw
    clear hw hf
    go_enter Tryz.func51, Tryz.ntmps51
    go_wp2_with (go_at_call 102; refine (cf _).mono ?_; rintro e w' ⟨rfl, rfl⟩)
    go_ret
    exact ⟨by rw [HW.out]; rfl, rfl⟩
end Go.Proofs.YtolhmibejhldkaaGreatDoor

namespace Go.Proofs.YtolhmibejhldkaaGreatDoor
open Go.RowKit Go.Proofs
attribute [local go_sem] neq_nilG eql_nilG
structure NdS where
  p : Nat
  d : Nat
  job : Int
  bz : Bool
  s : DuS
def NX (a : Nat → Nat) (x : NdS) (b : Nat) : Prop := (x.bz = true ∧ DuX a x.s b) ∨ (x.bz = false ∧ (b = a 1 ∨ b = a 2))
structure ND (w : World) (Nb : Nat) (a : Nat → Nat) (x : NdS) (E : Nat → Addr) (w0 : World) : Prop where
  b : Blk w Nb 90 #[.int .i64 (x.p : Int), .int .i64 (x.d : Int), .pointer (some ⟨a 1, 0, none⟩), .int .i64 x.job, .pointer (if x.bz = true then some ⟨a 0, 0, none⟩ else none)]
  i : x.bz = false → TN w (a 1) (a 2) x.s.T E w0 ∧ 0 < x.s.bare
  u : x.bz = true → DuV w a x.s false E w0
  n : w0.heap.size ≤ Nb ∧ ∀ b, NX a x b → b ≠ Nb
  pd : x.d ≤ 5 ∧ x.p < 2 ^ x.d
section
variable {w w' w0 : World} {Nb : Nat} {a : Nat → Nat} {x : NdS} {E : Nat → Addr} {lp : Option Nat} {mt : MeterS} {M : Nat}
theorem NX.lt (h : ND w Nb a x E w0) : ∀ b, NX a x b → b < w.heap.size := fun b hb => by
  rcases hb with ⟨hz, y, hy, rfl⟩ | ⟨hz, e⟩
  · exact (h.u hz).lt y hy
  · rcases e with e | e
    · rw [e]; exact (h.i hz).1.ltB
    · rw [e]; exact (h.i hz).1.ltQ
theorem NX.ge (h : ND w Nb a x E w0) : ∀ b, NX a x b → w0.heap.size ≤ b := fun b hb => by
  rcases hb with ⟨hz, y, hy, rfl⟩ | ⟨hz, e⟩
  · exact (h.u hz).n.ge y hy
  · rcases e with e | e
    · rw [e]; exact (h.i hz).1.hB
    · rw [e]; exact (h.i hz).1.hQ
theorem ND.later (h : ND w Nb a x E w0) (hb : Below w.heap.size w w') : ND w' Nb a x E w0 :=
  ⟨h.b.below hb h.b.lt, fun e => ⟨(h.i e).1.later hb, (h.i e).2⟩, fun e => (h.u e).later hb, h.n, h.pd⟩
theorem ND.chg {Y : Nat → Prop} (h : ND w Nb a x E w0) (hc : Chg Y w w') (h0 : ∀ b, Y b → w0.heap.size ≤ b) (hN : ¬ Y Nb) (hY : ∀ b, NX a x b → ¬ Y b) : ND w' Nb a x E w0 :=
  ⟨h.b.chg hc hN, fun e => ⟨(h.i e).1.chg hc h0 (hY _ (.inr ⟨e, .inl rfl⟩)) (hY _ (.inr ⟨e, .inr rfl⟩)) (fun b f => by cases f), (h.i e).2⟩, fun e => (h.u e).chg hc h0 (fun y hy => hY _ (.inl ⟨e, y, hy, rfl⟩)), h.n, h.pd⟩
theorem ND.bel (h : ND w Nb a x E w0) : Below w0.heap.size w0 w := by
  cases hz : x.bz with
  | true => exact (h.u hz).bel
  | false => exact (h.i hz).1.bel
theorem ND.low (h : ND w Nb a x E w0) : Low w E w0.heap.size [1, 2, 4, 5, 14, 16] := by
  cases hz : x.bz with
  | true => exact (h.u hz).low
  | false => exact (h.i hz).1.low
theorem ND.cells (h : ND w Nb a x E w0) : w.cell? ⟨Nb, 0, none⟩ = some (.int .i64 (x.p : Int)) ∧ w.cell? ⟨Nb, 1, none⟩ = some (.int .i64 (x.d : Int)) ∧ w.cell? ⟨Nb, 2, none⟩ = some (.pointer (some ⟨a 1, 0, none⟩)) ∧ w.cell? ⟨Nb, 3, none⟩ = some (.int .i64 x.job) ∧ w.cell? ⟨Nb, 4, none⟩ = some (.pointer (if x.bz = true then some ⟨a 0, 0, none⟩ else none)) ∧ Nb < w.heap.size :=
  ⟨h.b.cell 0, h.b.cell 1, h.b.cell 2, h.b.cell 3, h.b.cell 4, h.b.lt⟩
def LensN (lp : Option Nat) (a : Nat → Nat) (x : NdS) (Nb n0 : Nat) : Prop := ∀ b, lp = some b → n0 ≤ b ∧ ¬ NX a x b ∧ b ≠ Nb
theorem LensN.none (n0 : Nat) : LensN none a x Nb n0 := fun b e => by cases e
theorem LensN.v {n0 : Nat} (h : LensN lp a x Nb n0) (hz : x.bz = true) : LensV lp a x.s n0 := fun b e => ⟨(h b e).1, fun y hy f => (h b e).2.1 (.inl ⟨hz, y, hy, f⟩)⟩
theorem LensN.t {n0 : Nat} (h : LensN lp a x Nb n0) (hz : x.bz = false) : LensOk lp (a 1) (a 2) n0 := fun b e => ⟨fun f => (h b e).2.1 (.inr ⟨hz, .inl f⟩), fun f => (h b e).2.1 (.inr ⟨hz, .inr f⟩), (h b e).1⟩
theorem idle_has {s : DuS} (h : 0 < s.bare) (key : Int) (hh : Nat) : s.has key hh = s.T.has key hh ∧ s.ent key hh = s.T.ent key hh := by
  have h0 : s.inU key hh = false := by unfold DuS.inU; rw [decide_eq_false (by omega)]; rfl
  unfold DuS.has DuS.ent
  rw [h0]
  simp
theorem idle_put {s : DuS} (h : 0 < s.bare) (key v : Int) (hh : Nat) : s.put key v hh true = s.setT (s.T.putT key v hh) ∧ s.putB key hh true = s.T.putB key hh ∧ s.putN key hh true = s.T.putN key hh := by
  have h0 : s.inU key hh = false := by unfold DuS.inU; rw [decide_eq_false (by omega)]; rfl
  have h1 : ¬ s.bare = 0 := by omega
  obtain ⟨h2, -⟩ := idle_has h key hh
  refine ⟨?_, ?_, ?_⟩
  · unfold DuS.put
    rw [h0, if_neg h1]
    simp
  · unfold DuS.putB DuS.fst
    rw [h2, if_neg h1]
    unfold TabS.putB
    cases s.T.has key hh <;> simp
  · unfold DuS.putN DuS.fst
    rw [h2, if_neg h1]
    unfold TabS.putN
    cases s.T.has key hh <;> simp
theorem idle_del {s : DuS} (h : 0 < s.bare) (key : Int) (hh : Nat) : s.del key hh = s.setT (s.T.delT key hh) := by
  have h0 : s.inU key hh = false := by unfold DuS.inU; rw [decide_eq_false (by omega)]; rfl
  unfold DuS.del
  rw [h0]; simp
set_option maxRecDepth 100000 in
theorem ND.prefixC (h : ND w Nb a x E w0) : Calls Tryz.prog 8 #[.pointer (some ⟨Nb, 0, none⟩)] w fun e w' => e = .returned (.tuple #[.int .i64 (x.p : Int), .int .i64 (x.d : Int)]) ∧ Below w.heap.size w w' := by
  obtain ⟨c0, c1, c2, c3, c4, z⟩ := h.cells
  clear h c2 c3 c4
  go_enter Tryz.func8, Tryz.ntmps8
  go_wp2
  refine wp_region_seq (fun _ => False) #[⟨0, 0, 16, 1, 0⟩, ⟨1, 1, 32, 16, 0⟩, ⟨2, 3, 64, 32, 0⟩, ⟨4, 7, 128, 64, 1⟩, ⟨0, 0, 256, 1, 0⟩, ⟨16, 16, 512, 256, 0⟩, ⟨32, 48, 1024, 512, 0⟩, ⟨64, 112, 2048, 1024, 1⟩, ⟨15, 15, 4, 128, 0⟩, ⟨511, 511, 8, 2048, 0⟩] 136 [(0, 0), (1, 0), (2, 0), (3, 1), (4, 0), (5, 0), (6, 0), (7, 1), (8, 0), (9, 0)] (by kernel_rfl) (by kernel_rfl) (by kernel_rfl) (by kernel_rfl) (by kernel_rfl) (by kernel_rfl) (fun c a d v w h => by cases d <;> exact h) ?_
  refine zqC ?_; refine zqC ?_; refine zqC ?_
  refine zq1 Tryz.underlying3 ?_
  try refine zqP ?_; refine zqC ?_; refine zqC ?_; refine zqC ?_
  refine zq1 Tryz.underlying3 ?_
  try refine zqP ?_; refine zqC ?_; refine zqC ?_
  refine seq_nil ?_
  go_wp2
  go_ret2
  exact ⟨rfl, (Below.refl _ _).drew⟩
set_option maxRecDepth 100000 in
theorem ND.doneC (h : ND w Nb a x E w0) : Calls Tryz.prog 16 #[.pointer (some ⟨Nb, 0, none⟩)] w fun e w' => e = .returned (.bool (x.bz && decide (x.s.left = 0))) ∧ Below w.heap.size w w' := by
  obtain ⟨c0, c1, c2, c3, c4, z⟩ := h.cells
  cases hz : x.bz with
  | false =>
    rw [hz] at c4
    simp only [Bool.false_eq_true, if_false] at c4
    clear h c0 c1 c2 c3
    go_enter Tryz.func16, Tryz.ntmps16
    go_wp2
    go_ret
    exact ⟨rfl, Below.refl _ _⟩
  | true =>
    rw [hz] at c4
    simp only [if_true] at c4
    have LF := Lib.hid (h.u hz).left
    have hd : (x.s.left : Int) = 0 ↔ x.s.left = 0 := by omega
    obtain ⟨l, hl⟩ : ∃ l, l = x.s.left := ⟨_, rfl⟩
    rw [← hl] at LF ⊢
    have HL := Lib.hid hl
    clear h c0 c1 c2 c3 hl hd
    by_cases h0 : l = 0
    · subst h0
      go_enter Tryz.func16, Tryz.ntmps16
      go_wp2_with (go_at_call 55; (with_reducible refine LF.out.mono ?_); rintro e w1 ⟨rfl, hb1⟩)
      go_ret
      exact ⟨rfl, hb1⟩
    · have h1 : ¬ (l : Int) = 0 := by omega
      have h2 : ((l : Int) == 0) = false := by simpa using h1
      rw [decide_eq_false h0]
      go_enter Tryz.func16, Tryz.ntmps16
      go_wp2_with (go_at_call 55; (with_reducible refine LF.out.mono ?_); rintro e w1 ⟨rfl, hb1⟩)
      go_ret
      exact ⟨rfl, hb1⟩
theorem ND.setI {Y : Nat → Prop} {T' : TabS} (h : ND w Nb a x E w0) (hz : x.bz = false) (ht : TN w' (a 1) (a 2) T' E w0) (hc : Chg Y w w') (hY : ¬ Y Nb) : ND w' Nb a { x with s := x.s.setT T' } E w0 :=
  ⟨h.b.chg hc hY, fun e => ⟨ht, (h.i hz).2⟩, fun e => (by rw [hz] at e; cases e), ⟨h.n.1, fun b hb => h.n.2 b (by
    rcases hb with ⟨e, -⟩ | ⟨e, f⟩
    · rw [hz] at e; cases e
    · exact .inr ⟨hz, f⟩)⟩, h.pd⟩
theorem ND.setU {Y : Nat → Prop} {a' : Nat → Nat} {s' : DuS} (h : ND w Nb a x E w0) (hz : x.bz = true) (hu : DuV w' a' s' false E w0) (hc : Chg Y w w') (hY : ¬ Y Nb) (ha : a' 0 = a 0 ∧ a' 1 = a 1) (hn : ∀ b, DuX a' s' b → b ≠ Nb) : ND w' Nb a' { x with s := s' } E w0 :=
  ⟨by rw [ha.1, ha.2]; exact h.b.chg hc hY, fun e => (by rw [hz] at e; cases e), fun e => hu, ⟨h.n.1, fun b hb => by
    rcases hb with ⟨-, f⟩ | ⟨e, -⟩
    · exact hn b f
    · rw [hz] at e; cases e⟩, h.pd⟩
theorem selX {s : DuS} (h : DuOK s) (a : Nat → Nat) (key : Int) (hh : Nat) : DuX a s (s.selB a key hh) ∧ DuX a s (s.selQ a key hh) := by
  obtain ⟨⟨y, h1, h2⟩, z, h3, h4⟩ := selB_used h a key hh
  exact ⟨⟨y, h1, h2⟩, z, h3, h4⟩
set_option maxRecDepth 100000 in
set_option maxHeartbeats 4000000 in
theorem ND.find (h : ND w Nb a x E w0) (hl : LW w lp mt) (hs : LensN lp a x Nb w0.heap.size) (key : Int) (hh : Nat) (hb : hh < 18446744073709551616) (q : Option Addr) (hq : LensAt q lp) (x1 y1 z1 : Int) :
    Calls Tryz.prog 18 #[.pointer (some ⟨Nb, 0, none⟩), .agg #[.pointer q, .int .i64 x1, .int .i64 y1, .int .i64 z1], .int .u64 key, .int .u64 (hh : Int)] w fun e w' =>
      e = .returned (.tuple #[.agg #[.int .u64 (x.s.ent key hh).key, .int .u64 (x.s.ent key hh).val, .int .u64 (x.s.ent key hh).hash], .bool (x.s.has key hh)]) ∧ ND w' Nb a x E w0 ∧ (∃ n : Nat, LW w' lp (addN mt x1 y1 z1 n)) ∧ Chg (fun b => lp = some b) w w' := by
  have HH := Lib.hid h
  have HS := Lib.hid hs
  have NE := Lib.hid (show ∀ b, w.heap.size ≤ b → ¬ lp = some b from fun b hb e => by have := (hl b e).lt; omega)
  have nx1 : ¬ lp = some Nb := fun e => (hs Nb e).2.2 rfl
  have nx2 : ¬ lp = some w.heap.size := NE.out _ (Nat.le_refl _)
  have NXL := Lib.hid (NX.lt h)
  obtain ⟨c0, c1, c2, c3, c4, z⟩ := h.cells
  cases hz : x.bz with
  | false =>
    rw [hz] at c4
    simp only [Bool.false_eq_true, if_false] at c4
    obtain ⟨ht, hba⟩ := h.i hz
    obtain ⟨i1, i2⟩ := idle_has hba key hh
    rw [i1, i2]
    have FN := Lib.hid (fun (W : World) (hb2 : Below w.heap.size w W) => (TN.lens (ht.later hb2) (hl.later hb2) (hs.t hz)).find key hh hb q hq x1 y1 z1)
    generalize (x.s.T.ent key hh).key = ek at *
    generalize (x.s.T.ent key hh).val = ev at *
    generalize (x.s.T.ent key hh).hash = eh at *
    generalize x.s.T.has key hh = th at *
    clear h ht hl hs c0 c1 c3 i1 i2
    go_enter Tryz.func18, Tryz.ntmps18
    go_wp2
    refine wp_at (fun W hW => ?_)
    have hBW : Below w.heap.size w W := by rw [hW]; exact ((Below.refl _ _).alloc (Nat.le_refl _) _).alloc (by simp) _
    have l8 : Blk W w.heap.size 50 #[.pointer q, .int .i64 x1, .int .i64 y1, .int .i64 z1] := by rw [hW]; exact (Blk.new _ _ _).alloc _
    have e8 : Blk W (w.heap.size + 1) 46 #[.int .u64 0, .int .u64 0, .int .u64 0] := by rw [hW]; exact Blk.new_at (by simp)
    have hzW : w.heap.size + 1 < W.heap.size := e8.lt
    obtain ⟨l0, l1, l2, l3⟩ : W.cell? ⟨w.heap.size, 0, none⟩ = _ ∧ W.cell? ⟨w.heap.size, 1, none⟩ = _ ∧ W.cell? ⟨w.heap.size, 2, none⟩ = _ ∧ W.cell? ⟨w.heap.size, 3, none⟩ = _ := ⟨l8.cell 0, l8.cell 1, l8.cell 2, l8.cell 3⟩
    have d2 := (hBW.cell (p := ⟨Nb, 2, none⟩) z).trans c2
    have d4 := (hBW.cell (p := ⟨Nb, 4, none⟩) z).trans c4
    have zN : Nb < W.heap.size := by omega
    have HBW := Lib.hid hBW
    have E8 := Lib.hid e8
    have ND0 := Lib.hid (HH.out.later hBW.drew)
    clear hW hBW l8 e8 c2 c4
    refine wp_region_seq (fun b => lp = some b) #[⟨0, 0, 33554432, 1, 0⟩, ⟨1, 1, 67108864, 33554432, 0⟩, ⟨2, 3, 134217728, 67108864, 0⟩, ⟨4, 7, 268435456, 134217728, 1⟩, ⟨0, 0, 536870912, 32, 1⟩, ⟨0, 0, 1073741824, 4, 0⟩, ⟨0, 0, 2147483648, 8, 0⟩, ⟨120, 127, 4294967296, 4026531840, 3⟩, ⟨128, 255, 8589934592, 4294967296, 0⟩, ⟨128, 255, 17179869184, 4294967296, 0⟩, ⟨1023, 1023, 0, 8589934848, 3⟩, ⟨2047, 2047, 512, 17179869184, 0⟩] 24 [(0, 0), (1, 0), (2, 0), (3, 1), (4, 1), (5, 0), (6, 0), (7, 3), (8, 0), (9, 0), (10, 3), (11, 0)] (by kernel_rfl) (by kernel_rfl) (by kernel_rfl) (by kernel_rfl) (by kernel_rfl) (by kernel_rfl) (fun c a d v w h => by cases d <;> exact h) ?_
    refine zqC ?_; refine zqC ?_; refine zqC ?_
    refine zq1 Tryz.underlying85 ?_
    try refine zqP ?_
    refine zqL [_, _, _, _] Tryz.underlying50 ?_
    try refine zqP ?_; refine zqC ?_; refine zqC ?_
    refine zqE fun K hK => ?_; go_wp2_with (go_at_call 58; ((with_reducible refine (FN.out _ HBW.out.drew).mono ?_); rintro e w1 ⟨rfl, ht1, hc1⟩; have L1 := Lib.hid ht1.m; have E1 := Lib.hid (E8.out.drew.chg hc1 (NE.out _ (by omega))); have N1 := Lib.hid (ND0.out.chg hc1 (fun b e => (HS.out b e).1) nx1 (fun b hb e => (HS.out b e).2.1 hb)); have C1 := Lib.hid hc1; have g0 := E1.out.frozen 0; have g1 := E1.out.frozen 1; have g2 := E1.out.frozen 2; obtain ⟨k0, k1, k2⟩ := cells3 E1.out; have zE := E1.out.lt)); refine hK.out _ _ ?_; clear hK K
    try refine zqP ?_; refine zqC ?_; refine zqC ?_
    refine zqE fun K hK => ?_; go_wp2_with (fail); refine hK.out _ _ ?_; clear hK K
    try refine zqP ?_; refine zqC ?_
    refine seq_nil ?_
    go_wp2
    refine wp_end_at (fun Wf hWf => ?_)
    have hR : Blk Wf (w.heap.size + 1) 46 #[.int .u64 ek, .int .u64 ev, .int .u64 eh] := by rw [hWf]; exact ((E1.out.set 0 _).set 1 _).set 2 _
    have hCf : Chg (fun b => b = w.heap.size + 1) w1 Wf := by rw [hWf]; exact (((Chg.refl _ _).set1 _ _).set1 _ _).set1 _ _
    obtain ⟨r0, r1, r2⟩ := cells3 hR
    refine bodyPost_ret (v := .tuple #[.agg #[.int .u64 ek, .int .u64 ev, .int .u64 eh], .bool th]) (by simp [results, Tryz.results18, go_sem, r0, r1, r2]) rfl ⟨rfl, ?_, ?_, ?_⟩
    · exact N1.out.chg hCf (fun b e => by have := HH.out.bel.size; omega) (fun e => by omega) (fun b hb e => by have := NXL.out b hb; omega)
    · exact ⟨_, L1.out.chg hCf (fun b e f => NE.out b (by omega) e)⟩
    · exact ((Chg.of_below HBW.out).trans C1.out.undrew).trans' hCf (fun b hb e => by omega)
  | true =>
    rw [hz] at c4
    simp only [if_true] at c4
    have FN := Lib.hid (fun (W : World) (hb2 : Below w.heap.size w W) => ((h.u hz).later hb2).find (hl.later hb2) (hs.v hz) key hh hb q hq x1 y1 z1)
    generalize (x.s.ent key hh).key = ek at *
    generalize (x.s.ent key hh).val = ev at *
    generalize (x.s.ent key hh).hash = eh at *
    generalize x.s.has key hh = th at *
    clear h hl hs c0 c1 c3
    go_enter Tryz.func18, Tryz.ntmps18
    go_wp2
    refine wp_at (fun W hW => ?_)
    have hBW : Below w.heap.size w W := by rw [hW]; exact ((Below.refl _ _).alloc (Nat.le_refl _) _).alloc (by simp) _
    have l8 : Blk W w.heap.size 50 #[.pointer q, .int .i64 x1, .int .i64 y1, .int .i64 z1] := by rw [hW]; exact (Blk.new _ _ _).alloc _
    have e8 : Blk W (w.heap.size + 1) 46 #[.int .u64 0, .int .u64 0, .int .u64 0] := by rw [hW]; exact Blk.new_at (by simp)
    have hzW : w.heap.size + 1 < W.heap.size := e8.lt
    obtain ⟨l0, l1, l2, l3⟩ : W.cell? ⟨w.heap.size, 0, none⟩ = _ ∧ W.cell? ⟨w.heap.size, 1, none⟩ = _ ∧ W.cell? ⟨w.heap.size, 2, none⟩ = _ ∧ W.cell? ⟨w.heap.size, 3, none⟩ = _ := ⟨l8.cell 0, l8.cell 1, l8.cell 2, l8.cell 3⟩
    have d2 := (hBW.cell (p := ⟨Nb, 2, none⟩) z).trans c2
    have d4 := (hBW.cell (p := ⟨Nb, 4, none⟩) z).trans c4
    have zN : Nb < W.heap.size := by omega
    have HBW := Lib.hid hBW
    have E8 := Lib.hid e8
    have ND0 := Lib.hid (HH.out.later hBW.drew)
    clear hW hBW l8 e8 c2 c4
    refine wp_region_seq (fun b => lp = some b) #[⟨0, 0, 32768, 1, 0⟩, ⟨1, 1, 65536, 32768, 0⟩, ⟨2, 3, 131072, 65536, 0⟩, ⟨4, 7, 262144, 131072, 1⟩, ⟨0, 0, 524288, 32, 1⟩, ⟨0, 0, 1048576, 4, 0⟩, ⟨0, 0, 2097152, 8, 0⟩, ⟨120, 127, 4194304, 3932160, 3⟩, ⟨128, 255, 8388608, 4194304, 0⟩, ⟨128, 255, 16777216, 4194304, 0⟩, ⟨1023, 1023, 0, 8388864, 3⟩, ⟨2047, 2047, 512, 16777216, 0⟩] 24 [(0, 0), (1, 0), (2, 0), (3, 1), (4, 1), (5, 0), (6, 0), (7, 3), (8, 0), (9, 0), (10, 3), (11, 0)] (by kernel_rfl) (by kernel_rfl) (by kernel_rfl) (by kernel_rfl) (by kernel_rfl) (by kernel_rfl) (fun c a d v w h => by cases d <;> exact h) ?_
    refine zqC ?_; refine zqC ?_; refine zqC ?_
    refine zq1 Tryz.underlying88 ?_
    try refine zqP ?_
    refine zqL [_, _, _, _] Tryz.underlying50 ?_
    try refine zqP ?_; refine zqC ?_; refine zqC ?_
    refine zqE fun K hK => ?_; go_wp2_with (go_at_call 57; ((with_reducible refine (FN.out _ HBW.out.drew).mono ?_); rintro e w1 ⟨rfl, hu1, hl1, hc1⟩; have L1 := Lib.hid hl1; have E1 := Lib.hid (E8.out.drew.chg hc1 (NE.out _ (by omega))); have N1 := Lib.hid (ND0.out.chg hc1 (fun b e => (HS.out b e).1) nx1 (fun b hb e => (HS.out b e).2.1 hb)); have C1 := Lib.hid hc1; have g0 := E1.out.frozen 0; have g1 := E1.out.frozen 1; have g2 := E1.out.frozen 2; obtain ⟨k0, k1, k2⟩ := cells3 E1.out; have zE := E1.out.lt; clear hu1 hl1)); refine hK.out _ _ ?_; clear hK K
    try refine zqP ?_; refine zqC ?_; refine zqC ?_
    refine zqE fun K hK => ?_; go_wp2_with (fail); refine hK.out _ _ ?_; clear hK K
    try refine zqP ?_; refine zqC ?_
    refine seq_nil ?_
    go_wp2
    refine wp_end_at (fun Wf hWf => ?_)
    have hR : Blk Wf (w.heap.size + 1) 46 #[.int .u64 ek, .int .u64 ev, .int .u64 eh] := by rw [hWf]; exact ((E1.out.set 0 _).set 1 _).set 2 _
    have hCf : Chg (fun b => b = w.heap.size + 1) w1 Wf := by rw [hWf]; exact (((Chg.refl _ _).set1 _ _).set1 _ _).set1 _ _
    obtain ⟨r0, r1, r2⟩ := cells3 hR
    refine bodyPost_ret (v := .tuple #[.agg #[.int .u64 ek, .int .u64 ev, .int .u64 eh], .bool th]) (by simp [results, Tryz.results18, go_sem, r0, r1, r2]) rfl ⟨rfl, ?_, ?_, ?_⟩
    · exact N1.out.chg hCf (fun b e => by have := HH.out.bel.size; omega) (fun e => by omega) (fun b hb e => by have := NXL.out b hb; omega)
    · exact ⟨_, L1.out.chg hCf (fun b e f => NE.out b (by omega) e)⟩
    · exact ((Chg.of_below HBW.out).trans C1.out.undrew).trans' hCf (fun b hb e => by omega)
end
end Go.Proofs.YtolhmibejhldkaaGreatDoor

namespace Go.Proofs.YtolhmibejhldkaaGreatDoor
open Go.RowKit Go.Proofs
attribute [local go_sem] neq_nilG eql_nilG
section
variable {w w' w0 : World} {Nb : Nat} {a : Nat → Nat} {x : NdS} {E : Nat → Addr} {lp : Option Nat} {mt : MeterS} {M : Nat}
set_option maxRecDepth 100000 in
set_option maxHeartbeats 4000000 in
theorem ND.del (h : ND w Nb a x E w0) (hl : LW w lp mt) (hs : LensN lp a x Nb w0.heap.size) (key : Int) (hh : Nat) (hb : hh < 18446744073709551616) (q : Option Addr) (hq : LensAt q lp) (x1 y1 z1 : Int) :
    Calls Tryz.prog 10 #[.pointer (some ⟨Nb, 0, none⟩), .agg #[.pointer q, .int .i64 x1, .int .i64 y1, .int .i64 z1], .int .u64 key, .int .u64 (hh : Int)] w fun e w' =>
      e = .returned (.tuple #[.agg #[.int .u64 (x.s.ent key hh).key, .int .u64 (x.s.ent key hh).val, .int .u64 (x.s.ent key hh).hash], .bool (x.s.has key hh)]) ∧ ND w' Nb a { x with s := x.s.del key hh } E w0 ∧ (∃ n : Nat, LW w' lp (addN mt x1 y1 z1 n)) ∧ Chg (fun b => lp = some b ∨ NX a x b) w w' := by
  have HH := Lib.hid h
  have HS := Lib.hid hs
  have NXL := Lib.hid (NX.lt h)
  have NE := Lib.hid (show ∀ b, w.heap.size ≤ b → ¬ lp = some b from fun b hb e => by have := (hl b e).lt; omega)
  have NEX := Lib.hid (show ∀ b, w.heap.size ≤ b → ¬ (lp = some b ∨ NX a x b) from fun b hb e => by
    rcases e with e | e
    · exact NE.out b hb e
    · have := NXL.out b e; omega)
  have nx1 : ¬ (lp = some Nb ∨ NX a x Nb) := by
    rintro (e | e)
    · exact (hs Nb e).2.2 rfl
    · exact h.n.2 Nb e rfl
  have nx2 : ¬ (lp = some w.heap.size ∨ NX a x w.heap.size) := NEX.out _ (Nat.le_refl _)
  obtain ⟨c0, c1, c2, c3, c4, z⟩ := h.cells
  by_cases hz : x.bz = false
  · rw [if_neg (by rw [hz]; decide)] at c4
    obtain ⟨ht, hba⟩ := h.i hz
    obtain ⟨i1, i2⟩ := idle_has hba key hh
    rw [i1, i2, idle_del hba]
    have FN := Lib.hid (fun (W : World) (hb2 : Below w.heap.size w W) => (TN.lens (ht.later hb2) (hl.later hb2) (hs.t hz)).del key hh hb q hq x1 y1 z1)
    have NXS := Lib.hid (show ∀ b, NX a { x with s := x.s.setT (x.s.T.delT key hh) } b → NX a x b from fun b e => e)
    generalize (x.s.T.ent key hh).key = ek at *
    generalize (x.s.T.ent key hh).val = ev at *
    generalize (x.s.T.ent key hh).hash = eh at *
    generalize x.s.T.has key hh = th at *
    have HZ := Lib.hid hz
    clear h ht hl hs c0 c1 c3 i1 i2 hz
    go_enter Tryz.func10, Tryz.ntmps10
    go_wp2
    refine wp_at (fun W hW => ?_)
    have hBW : Below w.heap.size w W := by rw [hW]; exact ((Below.refl _ _).alloc (Nat.le_refl _) _).alloc (by simp) _
    have l8 : Blk W w.heap.size 50 #[.pointer q, .int .i64 x1, .int .i64 y1, .int .i64 z1] := by rw [hW]; exact (Blk.new _ _ _).alloc _
    have e8 : Blk W (w.heap.size + 1) 46 #[.int .u64 0, .int .u64 0, .int .u64 0] := by rw [hW]; exact Blk.new_at (by simp)
    have hzW : w.heap.size + 1 < W.heap.size := e8.lt
    obtain ⟨l0, l1, l2, l3⟩ : W.cell? ⟨w.heap.size, 0, none⟩ = _ ∧ W.cell? ⟨w.heap.size, 1, none⟩ = _ ∧ W.cell? ⟨w.heap.size, 2, none⟩ = _ ∧ W.cell? ⟨w.heap.size, 3, none⟩ = _ := ⟨l8.cell 0, l8.cell 1, l8.cell 2, l8.cell 3⟩
    obtain ⟨m0, m1, m2⟩ := cells3 e8
    have d2 := (hBW.cell (p := ⟨Nb, 2, none⟩) z).trans c2
    have d4 := (hBW.cell (p := ⟨Nb, 4, none⟩) z).trans c4
    have zN : Nb < W.heap.size := by omega
    have HBW := Lib.hid hBW
    have E8 := Lib.hid e8
    have L8 := Lib.hid l8
    have ND0 := Lib.hid (HH.out.later hBW.drew)
    clear hW hBW l8 e8 c2 c4
    refine wp_region_seq (fun b => lp = some b ∨ NX a x b) #[⟨0, 0, 33554432, 1, 0⟩, ⟨1, 1, 67108864, 33554432, 0⟩, ⟨2, 3, 134217728, 67108864, 0⟩, ⟨4, 7, 268435456, 134217728, 1⟩, ⟨0, 0, 536870912, 32, 1⟩, ⟨0, 0, 1073741824, 4, 0⟩, ⟨0, 0, 2147483648, 8, 0⟩, ⟨120, 127, 4294967296, 4026531840, 3⟩, ⟨128, 255, 8589934592, 4294967296, 0⟩, ⟨128, 255, 17179869184, 4294967296, 0⟩, ⟨1023, 1023, 0, 8589934848, 3⟩, ⟨2047, 2047, 512, 17179869184, 0⟩] 24 [(0, 0), (1, 0), (2, 0), (3, 1), (4, 1), (5, 0), (6, 0), (7, 3), (8, 0), (9, 0), (10, 3), (11, 0)] (by kernel_rfl) (by kernel_rfl) (by kernel_rfl) (by kernel_rfl) (by kernel_rfl) (by kernel_rfl) (fun c a d v w h => by cases d <;> exact h) ?_
    refine zqC ?_; refine zqC ?_; refine zqC ?_
    refine zq1 Tryz.underlying85 ?_
    try refine zqP ?_
    refine zqL [_, _, _, _] Tryz.underlying50 ?_
    try refine zqP ?_; refine zqC ?_; refine zqC ?_
    refine zqE fun K hK => ?_; go_wp2_with (go_at_call 41; ((with_reducible refine (FN.out _ HBW.out.drew).mono ?_); rintro e w1 ⟨rfl, ht1, hcc⟩; have hc1 : Chg (fun b => lp = some b ∨ NX a x b) _ w1 := hcc.mono (fun b _ e => by rcases e with e | e | e; exact .inl e; exact .inr (.inr ⟨HZ.out, .inl e⟩); exact .inr (.inr ⟨HZ.out, .inr e⟩)); have L1 := Lib.hid ht1.m; have E1 := Lib.hid (E8.out.drew.chg hc1 (NEX.out _ (by omega))); have N1 := Lib.hid (ND0.out.setI HZ.out ht1.unmeter hc1 nx1); have C1 := Lib.hid hc1; have g0 := E1.out.frozen 0; have g1 := E1.out.frozen 1; have g2 := E1.out.frozen 2; obtain ⟨k0, k1, k2⟩ := cells3 E1.out; have zE := E1.out.lt; clear ht1 hcc)); refine hK.out _ _ ?_; clear hK K
    try refine zqP ?_; refine zqC ?_; refine zqC ?_
    refine zqE fun K hK => ?_; go_wp2_with (fail); refine hK.out _ _ ?_; clear hK K
    try refine zqP ?_; refine zqC ?_
    refine seq_nil ?_
    go_wp2
    refine wp_end_at (fun Wf hWf => ?_)
    have hR : Blk Wf (w.heap.size + 1) 46 #[.int .u64 ek, .int .u64 ev, .int .u64 eh] := by rw [hWf]; exact ((E1.out.set 0 _).set 1 _).set 2 _
    have hCf : Chg (fun b => b = w.heap.size + 1) w1 Wf := by rw [hWf]; exact (((Chg.refl _ _).set1 _ _).set1 _ _).set1 _ _
    obtain ⟨r0, r1, r2⟩ := cells3 hR
    refine bodyPost_ret (v := .tuple #[.agg #[.int .u64 ek, .int .u64 ev, .int .u64 eh], .bool th]) (by simp [results, Tryz.results10, go_sem, r0, r1, r2]) rfl ⟨rfl, ?_, ?_, ?_⟩
    · exact N1.out.chg hCf (fun b e => by have := HH.out.bel.size; omega) (fun e => by omega) (fun b hb e => by have := NXL.out b (NXS.out b hb); omega)
    · exact ⟨_, L1.out.chg hCf (fun b e f => NE.out b (by omega) e)⟩
    · exact ((Chg.of_below HBW.out).trans C1.out.undrew).trans' hCf (fun b hb e => by omega)
  · have hz : x.bz = true := by simpa using hz
    rw [if_pos hz] at c4
    have FN := Lib.hid (fun (W : World) (hb2 : Below w.heap.size w W) => ((h.u hz).later hb2).del (hl.later hb2) (hs.v hz) key hh hb q hq x1 y1 z1)
    have SEL := Lib.hid (selX (h.u hz).ok a key hh)
    have NXS := Lib.hid (show ∀ b, NX a { x with s := x.s.del key hh } b → NX a x b from fun b e => by
      rcases e with ⟨e1, e2⟩ | e
      · exact .inl ⟨e1, (duX_eq (del_kb x.s key hh) b).1 e2⟩
      · exact .inr e)
    generalize (x.s.ent key hh).key = ek at *
    generalize (x.s.ent key hh).val = ev at *
    generalize (x.s.ent key hh).hash = eh at *
    generalize x.s.has key hh = th at *
    have HZ := Lib.hid hz
    clear h hl hs c0 c1 c3 hz
    go_enter Tryz.func10, Tryz.ntmps10
    go_wp2
    refine wp_at (fun W hW => ?_)
    have hBW : Below w.heap.size w W := by rw [hW]; exact ((Below.refl _ _).alloc (Nat.le_refl _) _).alloc (by simp) _
    have l8 : Blk W w.heap.size 50 #[.pointer q, .int .i64 x1, .int .i64 y1, .int .i64 z1] := by rw [hW]; exact (Blk.new _ _ _).alloc _
    have e8 : Blk W (w.heap.size + 1) 46 #[.int .u64 0, .int .u64 0, .int .u64 0] := by rw [hW]; exact Blk.new_at (by simp)
    have hzW : w.heap.size + 1 < W.heap.size := e8.lt
    obtain ⟨l0, l1, l2, l3⟩ : W.cell? ⟨w.heap.size, 0, none⟩ = _ ∧ W.cell? ⟨w.heap.size, 1, none⟩ = _ ∧ W.cell? ⟨w.heap.size, 2, none⟩ = _ ∧ W.cell? ⟨w.heap.size, 3, none⟩ = _ := ⟨l8.cell 0, l8.cell 1, l8.cell 2, l8.cell 3⟩
    obtain ⟨m0, m1, m2⟩ := cells3 e8
    have d2 := (hBW.cell (p := ⟨Nb, 2, none⟩) z).trans c2
    have d4 := (hBW.cell (p := ⟨Nb, 4, none⟩) z).trans c4
    have zN : Nb < W.heap.size := by omega
    have HBW := Lib.hid hBW
    have E8 := Lib.hid e8
    have L8 := Lib.hid l8
    have ND0 := Lib.hid (HH.out.later hBW.drew)
    clear hW hBW l8 e8 c2 c4
    refine wp_region_seq (fun b => lp = some b ∨ NX a x b) #[⟨0, 0, 32768, 1, 0⟩, ⟨1, 1, 65536, 32768, 0⟩, ⟨2, 3, 131072, 65536, 0⟩, ⟨4, 7, 262144, 131072, 1⟩, ⟨0, 0, 524288, 32, 1⟩, ⟨0, 0, 1048576, 4, 0⟩, ⟨0, 0, 2097152, 8, 0⟩, ⟨120, 127, 4194304, 3932160, 3⟩, ⟨128, 255, 8388608, 4194304, 0⟩, ⟨128, 255, 16777216, 4194304, 0⟩, ⟨1023, 1023, 0, 8388864, 3⟩, ⟨2047, 2047, 512, 16777216, 0⟩] 24 [(0, 0), (1, 0), (2, 0), (3, 1), (4, 1), (5, 0), (6, 0), (7, 3), (8, 0), (9, 0), (10, 3), (11, 0)] (by kernel_rfl) (by kernel_rfl) (by kernel_rfl) (by kernel_rfl) (by kernel_rfl) (by kernel_rfl) (fun c a d v w h => by cases d <;> exact h) ?_
    refine zqC ?_; refine zqC ?_; refine zqC ?_
    refine zq1 Tryz.underlying88 ?_
    try refine zqP ?_
    refine zqL [_, _, _, _] Tryz.underlying50 ?_
    try refine zqP ?_; refine zqC ?_; refine zqC ?_
    refine zqE fun K hK => ?_; go_wp2_with (go_at_call 40; ((with_reducible refine (FN.out _ HBW.out.drew).mono ?_); rintro e w1 ⟨rfl, hu1, hl1, hcc⟩; have hc1 : Chg (fun b => lp = some b ∨ NX a x b) _ w1 := hcc.mono (fun b _ e => by rcases e with e | e | e; exact .inl e; exact .inr (.inl ⟨HZ.out, by rw [e]; exact SEL.out.1⟩); exact .inr (.inl ⟨HZ.out, by rw [e]; exact SEL.out.2⟩)); have L1 := Lib.hid hl1; have E1 := Lib.hid (E8.out.drew.chg hc1 (NEX.out _ (by omega))); have N1 := Lib.hid (ND0.out.setU HZ.out hu1 hc1 nx1 ⟨rfl, rfl⟩ (fun b e => HH.out.n.2 b (.inl ⟨HZ.out, (duX_eq (del_kb x.s key hh) b).1 e⟩))); have C1 := Lib.hid hc1; have g0 := E1.out.frozen 0; have g1 := E1.out.frozen 1; have g2 := E1.out.frozen 2; obtain ⟨k0, k1, k2⟩ := cells3 E1.out; have zE := E1.out.lt; clear hu1 hl1 hcc)); refine hK.out _ _ ?_; clear hK K
    try refine zqP ?_; refine zqC ?_; refine zqC ?_
    refine zqE fun K hK => ?_; go_wp2_with (fail); refine hK.out _ _ ?_; clear hK K
    try refine zqP ?_; refine zqC ?_
    refine seq_nil ?_
    go_wp2
    refine wp_end_at (fun Wf hWf => ?_)
    have hR : Blk Wf (w.heap.size + 1) 46 #[.int .u64 ek, .int .u64 ev, .int .u64 eh] := by rw [hWf]; exact ((E1.out.set 0 _).set 1 _).set 2 _
    have hCf : Chg (fun b => b = w.heap.size + 1) w1 Wf := by rw [hWf]; exact (((Chg.refl _ _).set1 _ _).set1 _ _).set1 _ _
    obtain ⟨r0, r1, r2⟩ := cells3 hR
    refine bodyPost_ret (v := .tuple #[.agg #[.int .u64 ek, .int .u64 ev, .int .u64 eh], .bool th]) (by simp [results, Tryz.results10, go_sem, r0, r1, r2]) rfl ⟨rfl, ?_, ?_, ?_⟩
    · exact N1.out.chg hCf (fun b e => by have := HH.out.bel.size; omega) (fun e => by omega) (fun b hb e => by have := NXL.out b (NXS.out b hb); omega)
    · exact ⟨_, L1.out.chg hCf (fun b e f => NE.out b (by omega) e)⟩
    · exact ((Chg.of_below HBW.out).trans C1.out.undrew).trans' hCf (fun b hb e => by omega)
set_option maxRecDepth 100000 in
set_option maxHeartbeats 4000000 in
theorem ND.putU (h : ND w Nb a x E w0) (hz : x.bz = true) (hl : LW w lp mt) (hs : LensN lp a x Nb w0.heap.size) (key v : Int) (hh : Nat) (hb : hh < 18446744073709551616) (more : Bool) (q : Option Addr) (hq : LensAt q lp) (x1 y1 z1 : Int) :
    Calls Tryz.prog 12 #[.pointer (some ⟨Nb, 0, none⟩), .agg #[.pointer q, .int .i64 x1, .int .i64 y1, .int .i64 z1], .agg #[.int .u64 key, .int .u64 v, .int .u64 (hh : Int)], .bool more] w fun e w' =>
      e = .returned (.tuple #[.bool (x.s.putB key hh more), errN E (x.s.putN key hh more)]) ∧ ND w' Nb a { x with s := x.s.put key v hh more } E w0 ∧ (∃ n : Nat, LW w' lp (addN mt x1 y1 z1 n)) ∧ Chg (fun b => lp = some b ∨ NX a x b) w w' := by
  have HH := Lib.hid h
  have HS := Lib.hid hs
  have NXL := Lib.hid (NX.lt h)
  have NE := Lib.hid (show ∀ b, w.heap.size ≤ b → ¬ lp = some b from fun b hb e => by have := (hl b e).lt; omega)
  have NEX := Lib.hid (show ∀ b, w.heap.size ≤ b → ¬ (lp = some b ∨ NX a x b) from fun b hb e => by
    rcases e with e | e
    · exact NE.out b hb e
    · have := NXL.out b e; omega)
  have nx1 : ¬ (lp = some Nb ∨ NX a x Nb) := by
    rintro (e | e)
    · exact (hs Nb e).2.2 rfl
    · exact h.n.2 Nb e rfl
  have nx2 : ¬ (lp = some w.heap.size ∨ NX a x w.heap.size) := NEX.out _ (Nat.le_refl _)
  have nx3 : ¬ (lp = some (w.heap.size + 1) ∨ NX a x (w.heap.size + 1)) := NEX.out _ (by omega)
  obtain ⟨c0, c1, c2, c3, c4, z⟩ := h.cells
  rw [if_pos hz] at c4
  have FN := Lib.hid (fun (W : World) (hb2 : Below w.heap.size w W) => ((h.u hz).later hb2).put (hl.later hb2) (hs.v hz) key v hh hb more q hq x1 y1 z1)
  have SEL := Lib.hid (selX (h.u hz).ok a key hh)
  generalize x.s.putB key hh more = pb at *
  generalize errN E (x.s.putN key hh more) = pe at *
  have HZ := Lib.hid hz
  clear h hl hs c0 c1 c3 hz
  go_enter Tryz.func12, Tryz.ntmps12
  go_wp2
  refine wp_at (fun W hW => ?_)
  have hBW : Below w.heap.size w W := by rw [hW]; exact ((Below.refl _ _).alloc (Nat.le_refl _) _).alloc (by simp) _
  have l8 : Blk W w.heap.size 50 #[.pointer q, .int .i64 x1, .int .i64 y1, .int .i64 z1] := by rw [hW]; exact (Blk.new _ _ _).alloc _
  have e8 : Blk W (w.heap.size + 1) 46 #[.int .u64 key, .int .u64 v, .int .u64 (hh : Int)] := by rw [hW]; exact Blk.new_at (by simp)
  have hzW : w.heap.size + 1 < W.heap.size := e8.lt
  obtain ⟨l0, l1, l2, l3⟩ : W.cell? ⟨w.heap.size, 0, none⟩ = _ ∧ W.cell? ⟨w.heap.size, 1, none⟩ = _ ∧ W.cell? ⟨w.heap.size, 2, none⟩ = _ ∧ W.cell? ⟨w.heap.size, 3, none⟩ = _ := ⟨l8.cell 0, l8.cell 1, l8.cell 2, l8.cell 3⟩
  obtain ⟨m0, m1, m2⟩ := cells3 e8
  have d2 := (hBW.cell (p := ⟨Nb, 2, none⟩) z).trans c2
  have d4 := (hBW.cell (p := ⟨Nb, 4, none⟩) z).trans c4
  have zN : Nb < W.heap.size := by omega
  have HBW := Lib.hid hBW
  have E8 := Lib.hid e8
  have L8 := Lib.hid l8
  have ND0 := Lib.hid (HH.out.later hBW.drew)
  clear hW hBW l8 e8 c2 c4
  refine wp_region_seq (fun b => lp = some b ∨ NX a x b) #[⟨0, 0, 524288, 1, 0⟩, ⟨1, 1, 1048576, 524288, 0⟩, ⟨2, 3, 2097152, 1048576, 0⟩, ⟨4, 7, 4194304, 2097152, 1⟩, ⟨0, 0, 8388608, 32, 1⟩, ⟨0, 0, 16777216, 64, 1⟩, ⟨0, 0, 33554432, 8, 0⟩, ⟨120, 127, 67108864, 62914560, 3⟩, ⟨128, 255, 134217728, 67108864, 0⟩, ⟨128, 255, 268435456, 67108864, 0⟩, ⟨1023, 1023, 256, 134217728, 0⟩, ⟨2047, 2047, 512, 268435456, 0⟩] 56 [(0, 0), (1, 0), (2, 0), (3, 1), (4, 1), (5, 1), (6, 0), (7, 3), (8, 0), (9, 0), (10, 0), (11, 0)] (by kernel_rfl) (by kernel_rfl) (by kernel_rfl) (by kernel_rfl) (by kernel_rfl) (by kernel_rfl) (fun c a d v w h => by cases d <;> exact h) ?_
  refine zqC ?_; refine zqC ?_; refine zqC ?_
  refine zq1 Tryz.underlying88 ?_
  try refine zqP ?_
  refine zqL [_, _, _, _] Tryz.underlying50 ?_
  try refine zqP ?_
  refine zqL [_, _, _] Tryz.underlying46 ?_
  try refine zqP ?_; refine zqC ?_
  refine zqE fun K hK => ?_; go_wp2_with (go_at_call 42; ((with_reducible refine (FN.out _ HBW.out.drew).mono ?_); rintro e w1 ⟨rfl, hu1, hl1, hcc⟩; have hc1 : Chg (fun b => lp = some b ∨ NX a x b) _ w1 := hcc.mono (fun b _ e => by rcases e with e | e | e; exact .inl e; exact .inr (.inl ⟨HZ.out, by rw [e]; exact SEL.out.1⟩); exact .inr (.inl ⟨HZ.out, by rw [e]; exact SEL.out.2⟩)); have L1 := Lib.hid hl1; have N1 := Lib.hid (ND0.out.setU HZ.out hu1 hc1 nx1 ⟨rfl, rfl⟩ (fun b e => HH.out.n.2 b (.inl ⟨HZ.out, (duX_eq (put_kb x.s key v hh more) b).1 e⟩))); have C1 := Lib.hid hc1; clear hu1 hl1 hcc)); refine hK.out _ _ ?_; clear hK K
  try refine zqP ?_; refine zqC ?_; refine zqC ?_; refine zqC ?_; refine zqC ?_
  refine seq_nil ?_
  go_wp2
  go_ret2
  exact ⟨rfl, N1.out, ⟨_, L1.out⟩, (Chg.of_below HBW.out).trans C1.out.undrew⟩
end
end Go.Proofs.YtolhmibejhldkaaGreatDoor

namespace Go.Proofs.YtolhmibejhldkaaGreatDoor
open Go.RowKit Go.Proofs
attribute [local go_sem] neq_nilG eql_nilG
section
variable {w w' w0 : World} {Nb : Nat} {a : Nat → Nat} {x : NdS} {E : Nat → Addr} {lp : Option Nat} {mt : MeterS} {M : Nat}
theorem idle_putHas {s : DuS} (h : 0 < s.bare) {key : Int} {hh : Nat} (hq : s.T.has key hh = true) (v : Int) (more : Bool) : s.put key v hh more = s.setT (s.T.putT key v hh) ∧ s.putB key hh more = false ∧ s.putN key hh more = 0 := by
  have h0 : s.inU key hh = false := by unfold DuS.inU; rw [decide_eq_false (by omega)]; rfl
  obtain ⟨h2, -⟩ := idle_has h key hh
  refine ⟨?_, ?_, ?_⟩
  · unfold DuS.put; rw [h0, hq]; simp
  · unfold DuS.putB; rw [h2, hq]; simp
  · unfold DuS.putN; rw [h2, hq]; simp
theorem idle_putNo {s : DuS} (h : 0 < s.bare) {key : Int} {hh : Nat} (hq : s.T.has key hh = false) (v : Int) : s.put key v hh false = s ∧ s.putB key hh false = false ∧ s.putN key hh false = 2 := by
  have h0 : s.inU key hh = false := by unfold DuS.inU; rw [decide_eq_false (by omega)]; rfl
  obtain ⟨h2, -⟩ := idle_has h key hh
  refine ⟨?_, ?_, ?_⟩
  · unfold DuS.put; rw [h0, hq]; simp
  · unfold DuS.putB; simp
  · unfold DuS.putN; rw [h2, hq]; simp
set_option maxRecDepth 100000 in
set_option maxHeartbeats 8000000 in
theorem ND.putI (h : ND w Nb a x E w0) (hz : x.bz = false) (hl : LW w lp mt) (hs : LensN lp a x Nb w0.heap.size) (key v : Int) (hh : Nat) (hb : hh < 18446744073709551616) (more : Bool) (q : Option Addr) (hq : LensAt q lp) (x1 y1 z1 : Int) :
    Calls Tryz.prog 12 #[.pointer (some ⟨Nb, 0, none⟩), .agg #[.pointer q, .int .i64 x1, .int .i64 y1, .int .i64 z1], .agg #[.int .u64 key, .int .u64 v, .int .u64 (hh : Int)], .bool more] w fun e w' =>
      e = .returned (.tuple #[.bool (x.s.putB key hh more), errN E (x.s.putN key hh more)]) ∧ ND w' Nb a { x with s := x.s.put key v hh more } E w0 ∧ (∃ n : Nat, LW w' lp (addN mt x1 y1 z1 n)) ∧ Chg (fun b => lp = some b ∨ NX a x b) w w' := by
  have HH := Lib.hid h
  have HS := Lib.hid hs
  have HL := Lib.hid hl
  obtain ⟨ht, hba⟩ := h.i hz
  have HT := Lib.hid ht
  have SK := Lib.hid (fun (w' : World) (h' : TN w' (a 1) (a 2) x.s.T E w0) (hl' : LW w' lp mt) => TN.seek h' hl' (hs.t hz) key hh hb q hq x1 y1 z1)
  have EN := Lib.hid (fun (fp : Option Addr) (w' : World) (h' : TN w' (a 1) (a 2) x.s.T E w0) => TN.entry h' key hh fp (x.s.T.frZ key hh))
  have hN0 := h.n.1
  have hz0 := h.bel.size
  obtain ⟨c0, c1, c2, c3, c4, z⟩ := h.cells
  rw [if_neg (by rw [hz]; decide)] at c4
  have a1z : a 1 < w.heap.size := ht.ltB
  have a2z : a 2 < w.heap.size := ht.ltQ
  have hn1 : ¬ lp = some Nb := fun e => (hs Nb e).2.2 rfl
  have HZ := Lib.hid hz
  have HBA := Lib.hid hba
  obtain ⟨i1, i2⟩ := idle_has hba key hh
  have HI1 := Lib.hid i1
  have NBN := Lib.hid (show a 1 ≠ Nb ∧ a 2 ≠ Nb from ⟨h.n.2 _ (.inr ⟨hz, .inl rfl⟩), h.n.2 _ (.inr ⟨hz, .inr rfl⟩)⟩)
  unfold spotC at *
  unfold EntS.val3 at EN
  clear h hl hs ht c0 c1 c3 i1 i2 hz hba
  generalize hap : x.s.T.atP (a 2) key hh = ap at *
  generalize haz : x.s.T.atZ key hh = az at *
  generalize hfz : x.s.T.frZ key hh = fz at *
  obtain ⟨hs', hhs⟩ : ∃ b, b = x.s.T.has key hh := ⟨_, rfl⟩
  rw [← hhs] at EN
  obtain ⟨k0, hk0⟩ : ∃ k0, k0 = (x.s.T.ent key hh).key := ⟨_, rfl⟩
  obtain ⟨k1, hk1⟩ : ∃ k1, k1 = (x.s.T.ent key hh).val := ⟨_, rfl⟩
  obtain ⟨k2, hk2⟩ : ∃ k2, k2 = (x.s.T.ent key hh).hash := ⟨_, rfl⟩
  rw [← hk0, ← hk1, ← hk2] at EN
  have HAP := Lib.hid hap
  have HAZ := Lib.hid haz
  have HFZ := Lib.hid hfz
  have HHS := Lib.hid hhs
  clear hap haz hfz hhs hk0 hk1 hk2
  obtain ⟨pb, hpb⟩ : ∃ pb, pb = x.s.putB key hh more := ⟨_, rfl⟩
  obtain ⟨pe, hpe⟩ : ∃ pe, pe = errN E (x.s.putN key hh more) := ⟨_, rfl⟩
  obtain ⟨ss, hss⟩ : ∃ ss, ss = x.s.put key v hh more := ⟨_, rfl⟩
  rw [← hpb, ← hpe, ← hss]
  have HPB := Lib.hid hpb
  have HPE := Lib.hid hpe
  have HSS := Lib.hid hss
  clear hpb hpe hss
  go_enter Tryz.func12, Tryz.ntmps12
  go_upto_region 3 with (fail)
  refine wp_at (fun w1 hw1 => ?_)
  have hb1 : Below w.heap.size w w1 := by rw [hw1]; exact ((Below.refl _ _).alloc (Nat.le_refl _) _).alloc (by simp) _
  obtain ⟨B5, hB5⟩ : ∃ B5, B5 = w.heap.size := ⟨_, rfl⟩
  have X5 := Lib.hid (show Blk w1 B5 50 #[.pointer q, .int .i64 x1, .int .i64 y1, .int .i64 z1] by rw [hw1, hB5]; exact (Blk.new _ _ _).alloc _)
  have X6 := Lib.hid (show Blk w1 (B5 + 1) 46 #[.int .u64 key, .int .u64 v, .int .u64 (hh : Int)] by rw [hw1, hB5]; exact Blk.new_at (by simp))
  have T1 := Lib.hid (HT.out.later hb1)
  have L1 := Lib.hid (HL.out.later hb1)
  have hw1s : B5 + 1 + 1 ≤ w1.heap.size := by rw [hw1, hB5]; simp
  have hB5' : w.heap.size ≤ B5 := Nat.le_of_eq hB5.symm
  have hNL : ∀ b, B5 ≤ b → ¬ lp = some b := fun b hb e => by have := (HL.out b e).lt; omega
  have HLZ := Lib.hid (show ∀ b, lp = some b → b < w1.heap.size from fun b e => (L1.out b e).lt)
  have d2 := (hb1.cell (p := ⟨Nb, 2, none⟩) z).trans c2
  have zN : Nb < w1.heap.size := by have := hb1.size; omega
  rw [← hB5]
  replace hB5 := Lib.hid hB5
  replace hw1 := Lib.hid hw1
  have HB1 := Lib.hid hb1
  clear hb1
  obtain ⟨l0, l1, l2, l3⟩ := cells4 X5.out
  obtain ⟨m0, m1, m2⟩ := cells3 X6.out
  have zl := X5.out.lt
  have zm := X6.out.lt
  have hn5 : ¬ lp = some B5 := hNL _ (Nat.le_refl _)
  have hn6 : ¬ lp = some (B5 + 1) := hNL _ (by omega)
  go_cut [10] (fun v10 wx => ∃ (P : Nat) (fp : Option Addr), v10 = .pointer (some ⟨P, 0, none⟩) ∧ (0 ≤ fz → fp = some ⟨a 2, x.s.T.freeG key hh * 25, none⟩) ∧ w1.heap.size ≤ P ∧ Blk wx P 100 #[.pointer (some ⟨a 1, 0, none⟩), .int .u64 key, .int .u64 (hh : Int), .pointer ap, .int .i64 az, .pointer fp, .int .i64 fz] ∧ TN wx (a 1) (a 2) x.s.T E w0 ∧ LW wx lp (addN mt x1 y1 z1 (x.s.T.looks key hh)) ∧ Chg (fun b => lp = some b) w1 wx)
  case first =>
    refine wp_region_T (fun b => lp = some b) #[⟨0, 0, 536870912, 1, 0⟩, ⟨1, 1, 1073741824, 536870912, 0⟩, ⟨2, 3, 2147483648, 1073741824, 0⟩, ⟨4, 7, 4294967296, 2147483648, 1⟩, ⟨0, 0, 8589934592, 32, 1⟩, ⟨0, 0, 17179869184, 64, 0⟩, ⟨32, 32, 34359738368, 17179869184, 1⟩, ⟨0, 0, 68719476736, 64, 0⟩, ⟨128, 128, 137438953472, 68719476736, 1⟩, ⟨344, 511, 274877906944, 184683593728, 3⟩, ⟨0, 0, 1024, 0, 2⟩, ⟨2047, 2047, 0, 274877907968, 3⟩] 344 (.step 0 0 (.step 1 0 (.step 2 0 (.step 3 1 (.step 4 1 (.step 5 0 (.step 6 1 (.step 7 0 (.step 8 1 (.fork (.alt 9 (.step 10 2 (.step 11 3 Plan.done)) (.alt 10 (.step 9 3 (.step 11 3 Plan.done)) Plan.none)))))))))))) (by kernel_rfl) (by kernel_rfl) (by kernel_rfl) (by kernel_rfl) (by kernel_rfl) (by kernel_rfl) (fun c a d v w h => by cases d <;> exact h) ?_
    refine ztC ?_; refine ztC ?_; refine ztC ?_
    refine zt1 Tryz.underlying85 ?_
    try refine ztP ?_
    refine ztL [_, _, _, _] Tryz.underlying50 ?_
    try refine ztP ?_; refine ztC ?_
    refine zt1 Tryz.underlying38 ?_
    try refine ztP ?_; refine ztC ?_
    refine zt1 Tryz.underlying38 ?_
    try refine ztP ?_
    refine zt2 (fun K hK => ?_) fun K hK => ?_
    (go_wp2_with ((go_at_call 43; (with_reducible refine (SK.out _ (by first | exact T1.out.later (Below.refl _ _).drew | exact T1.out.later ((Below.refl _ _).alloc (Nat.le_refl _) _).drew) (by first | exact L1.out.later (Below.refl _ _).drew | exact L1.out.later ((Below.refl _ _).alloc (Nat.le_refl _) _).drew)).mono ?_); rintro e w9 ⟨fp9, rfl, hf9, ht9, hl9, hc9⟩; have C9 : Hid (Chg (fun b => lp = some b) w1 w9) := Lib.hid (by first | exact hc9.undrew | exact (((Chg.refl _ w1).alloc _).drew).trans hc9); have T9 := Lib.hid ht9; have L9 := Lib.hid hl9; have z9 := C9.out.size; (try have P9 : Hid (Blk w9 w1.heap.size 100 #[.pointer none, .int .u64 0, .int .u64 0, .pointer none, .int .i64 0, .pointer none, .int .i64 0]) := Lib.hid (Blk.chg (Blk.drew (Blk.new w1 _ _)) hc9 (hNL _ (by omega)))); (try have p9 := cells7 P9.out); (try have p90 := p9.1); (try have p91 := p9.2.1); (try have p92 := p9.2.2.1); (try have p93 := p9.2.2.2.1); (try have p94 := p9.2.2.2.2.1); (try have p95 := p9.2.2.2.2.2.1); (try have p96 := p9.2.2.2.2.2.2); (try clear p9); (try have pf9 := fun j => P9.out.frozen j); (try have zP9 := P9.out.lt))); refine hkI hK (h := ?_); clear hK K)
    try refine ztP ?_
    refine ztD fun K hK => ?_; go_wp2_with (fail); refine hkI hK (h := ?_); clear hK K
    try refine ztP ?_
    refine ztE fun K hK => ?_; go_wp2_with (fail); refine hK.out _ _ ?_; clear hK K
    try refine ztP ?_
    refine T_done ?_
    rotate_left 1
    (go_wp2_with (fail); refine hkI hK (h := ?_); clear hK K)
    try refine ztP ?_
    refine ztE fun K hK => ?_; go_wp2_with ((go_at_call 43; (with_reducible refine (SK.out _ (by first | exact T1.out.later (Below.refl _ _).drew | exact T1.out.later ((Below.refl _ _).alloc (Nat.le_refl _) _).drew) (by first | exact L1.out.later (Below.refl _ _).drew | exact L1.out.later ((Below.refl _ _).alloc (Nat.le_refl _) _).drew)).mono ?_); rintro e w9 ⟨fp9, rfl, hf9, ht9, hl9, hc9⟩; have C9 : Hid (Chg (fun b => lp = some b) w1 w9) := Lib.hid (by first | exact hc9.undrew | exact (((Chg.refl _ w1).alloc _).drew).trans hc9); have T9 := Lib.hid ht9; have L9 := Lib.hid hl9; have z9 := C9.out.size; (try have P9 : Hid (Blk w9 w1.heap.size 100 #[.pointer none, .int .u64 0, .int .u64 0, .pointer none, .int .i64 0, .pointer none, .int .i64 0]) := Lib.hid (Blk.chg (Blk.drew (Blk.new w1 _ _)) hc9 (hNL _ (by omega)))); (try have p9 := cells7 P9.out); (try have p90 := p9.1); (try have p91 := p9.2.1); (try have p92 := p9.2.2.1); (try have p93 := p9.2.2.2.1); (try have p94 := p9.2.2.2.2.1); (try have p95 := p9.2.2.2.2.2.1); (try have p96 := p9.2.2.2.2.2.2); (try clear p9); (try have pf9 := fun j => P9.out.frozen j); (try have zP9 := P9.out.lt))); refine hK.out _ _ ?_; clear hK K
    try refine ztP ?_
    refine ztE fun K hK => ?_; go_wp2_with (fail); refine hK.out _ _ ?_; clear hK K
    try refine ztP ?_
    refine T_done ?_
    rotate_left 1
    rotate_right 2
    all_goals (go_wp2; go_meet)
    all_goals
      first
        | with_reducible exact ⟨_, _, rfl, hf9, by omega, Blk.new _ _ _, T9.out.later ((Below.refl _ _).alloc (Nat.le_refl _) _), L9.out.later ((Below.refl _ _).alloc (Nat.le_refl _) _), C9.out.alloc _⟩
        | with_reducible exact ⟨_, _, rfl, hf9, Nat.le_refl _, sets7 P9.out _ _ _ _ _ _ _, T9.out.chg (chg7 _ _ _ _ _ _ _ _ _) (fun b e => by omega) (fun e => by omega) (fun e => by omega) (fun b e => by cases e), L9.out.chg (chg7 _ _ _ _ _ _ _ _ _) (fun b e e2 => by have := HLZ.out b e; omega), C9.out.trans' (chg7 _ _ _ _ _ _ _ _ _) (fun b hb e => by omega)⟩
  case rest =>
    obtain ⟨P, fp, rfl, hfp, hPz, hP, hT, hL, hC⟩ := hcut
    obtain ⟨u, hu⟩ : ∃ u, u = wc := ⟨_, rfl⟩
    subst hu
    have HFP := Lib.hid hfp
    have PC := Lib.hid hP
    have TC := Lib.hid hT
    have LC := Lib.hid hL
    have CC := Lib.hid hC
    have X6C := Lib.hid (X6.out.chg hC hn6)
    have NC := Lib.hid ((HH.out.later HB1.out).chg hC (fun b e => (HS.out b e).1) hn1 (fun b hb e => (HS.out b e).2.1 hb))
    obtain ⟨e0, e1, e2, e3, e4, e5, e6⟩ := cells7 hP
    have zP := hP.lt
    obtain ⟨m0, m1, m2⟩ := cells3 X6C.out
    have zm := X6C.out.lt
    have zc1 := hC.size
    have zb1 := HB1.out.size
    have hLlt := Lib.hid (show ∀ b, lp = some b → b < w.heap.size from fun b e => (HL.out b e).lt)
    clear hfp hP hT hL hC l0 l1 l2 l3 zl X5 X6 T1 L1 d2 zN c2 c4
    cases hs' with
    | true =>
      have hq := HHS.out.symm
      obtain ⟨p1, p2, p3⟩ := idle_putHas HBA.out hq v more
      have Q1 := Lib.hid (HSS.out.trans p1)
      have Q2 := Lib.hid (HPB.out.trans p2)
      have Q3 := Lib.hid (show pe = .nilIface from by rw [HPE.out, p3, errN_0])
      have RP := Lib.hid (fun (w' : World) (h' : TN w' (a 1) (a 2) x.s.T E w0) => TN.replace h' key v hh hb fp fz hq)
      unfold spotC at RP
      rw [HAP.out, HAZ.out] at RP
      clear p1 p2 p3 hq
      go_wp2_with (first
        | (go_at_call 44; (with_reducible refine (EN.out fp _ TC.out).mono ?_); rintro e w2 ⟨rfl, hb2⟩; have P2 := PC.out.below hb2 PC.out.lt; obtain ⟨f0, f1, f2, f3, f4, f5, f6⟩ := cells7 P2; have zP2 := P2.lt; have X62 := X6C.out.below hb2 X6C.out.lt; obtain ⟨m20, m21, m22⟩ := cells3 X62; have zm2 := X62.lt; have T2 := Lib.hid (TC.out.later hb2); have L2 := Lib.hid (LC.out.later hb2); have N2 := Lib.hid (NC.out.later hb2); have CW := Lib.hid (((Chg.of_below HB1.out).trans CC.out).thenBelow hb2); have z2 := hb2.size; clear hb2)
        | (go_at_call 45; ((with_reducible refine (RP.out _ (T2.out.later ((Below.refl _ _).alloc (Nat.le_refl _) _))).mono ?_); rintro e w3 ⟨rfl, ht3, hc3⟩; have T3 := Lib.hid ht3; have C3 := Lib.hid hc3; clear ht3 hc3)))
      go_ret2
      exact ⟨by rw [Q2.out, Q3.out]; rfl, by rw [Q1.out]; exact (N2.out.later ((Below.refl _ _).alloc (Nat.le_refl _) _)).setI HZ.out T3.out C3.out (fun e => by rcases e with e | e; exact NBN.out.1 e.symm; exact NBN.out.2 e.symm), ⟨_, (L2.out.later ((Below.refl _ _).alloc (Nat.le_refl _) _)).chg C3.out (fun b e f => (HS.out b e).2.1 (.inr ⟨HZ.out, f⟩))⟩, ((CW.out.mono (fun _ _ e => .inl e)).thenBelow ((Below.refl _ _).alloc (Nat.le_refl _) _)).trans (C3.out.mono (fun _ _ e => .inr (.inr ⟨HZ.out, e⟩)))⟩
    | false =>
      have hq := HHS.out.symm
      cases more with
      | false =>
        obtain ⟨p1, p2, p3⟩ := idle_putNo HBA.out hq v
        have Q1 := Lib.hid (HSS.out.trans p1)
        have Q2 := Lib.hid (HPB.out.trans p2)
        have Q3 := Lib.hid (show pe = .iface 259 (.pointer (some (E 2))) from by rw [HPE.out, p3]; rfl)
        have EF := Lib.hid (fun (w' : World) (h' : TN w' (a 1) (a 2) x.s.T E w0) => (show w'.cell? ⟨1, 0, none⟩ = some (.iface 259 (.pointer (some (E 2)))) from h'.low.e 2 (by decide)))
        have GZ := Lib.hid (fun (w' : World) (h' : TN w' (a 1) (a 2) x.s.T E w0) => World.block_lt_of_cell? _ _ (show w'.cell? ⟨1, 0, none⟩ = some (errAt E 2) from h'.low.e 2 (by decide)))
        clear p1 p2 p3 hq
        go_wp2_with (go_at_call 44; (with_reducible refine (EN.out fp _ TC.out).mono ?_); rintro e w2 ⟨rfl, hb2⟩; have P2 := PC.out.below hb2 PC.out.lt; obtain ⟨f0, f1, f2, f3, f4, f5, f6⟩ := cells7 P2; have zP2 := P2.lt; have X62 := X6C.out.below hb2 X6C.out.lt; obtain ⟨m20, m21, m22⟩ := cells3 X62; have zm2 := X62.lt; have T2 := Lib.hid (TC.out.later hb2); have L2 := Lib.hid (LC.out.later hb2); have N2 := Lib.hid (NC.out.later hb2); have CW := Lib.hid (((Chg.of_below HB1.out).trans CC.out).thenBelow hb2); have z2 := hb2.size; clear hb2)
        refine wp_at (fun W hW => ?_)
        have hBW : Below w2.heap.size w2 W := by rw [hW]; exact (Below.refl _ _).alloc (Nat.le_refl _) _
        have g2 := EF.out _ (T2.out.later hBW)
        have gz := GZ.out _ (T2.out.later hBW)
        have HBW := Lib.hid hBW
        clear hW hBW
        refine wp_region_seq (fun _ => False) #[⟨0, 0, 2251799813685248, 0, 1⟩, ⟨0, 0, 256, 0, 0⟩, ⟨3, 3, 512, 2251799813685248, 0⟩] 1 [(0, 1), (1, 0), (2, 0)] (by kernel_rfl) (by kernel_rfl) (by kernel_rfl) (by kernel_rfl) (by kernel_rfl) (by kernel_rfl) (fun c a d v w h => by cases d <;> exact h) ?_
        refine zq1 Tryz.underlying27 ?_
        try refine zqP ?_; refine zqC ?_; refine zqC ?_
        refine seq_nil ?_
        go_wp2
        go_ret2
        exact ⟨by rw [Q2.out, Q3.out]; rfl, by rw [Q1.out]; exact (N2.out.later HBW.out).later (Below.refl _ _).drew, ⟨_, (L2.out.later HBW.out).later (Below.refl _ _).drew⟩, (((CW.out.mono (fun _ _ e => .inl e)).thenBelow HBW.out)).drew⟩
      | true =>
        obtain ⟨p1, p2, p3⟩ := idle_put HBA.out key v hh
        have PL := Lib.hid (fun (w' : World) (h' : TN w' (a 1) (a 2) x.s.T E w0) => TN.place h' key hh hb fp (by rw [HFZ.out]; exact HFP.out) v hq)
        unfold spotC at PL
        rw [HAP.out, HAZ.out, HFZ.out] at PL
        have hpB : x.s.T.putB key hh = x.s.T.room key hh ∧ x.s.T.putN key hh = if x.s.T.room key hh = true then 0 else 2 := by
          unfold TabS.putB TabS.putN
          rw [hq]
          cases x.s.T.room key hh <;> simp
        rw [hpB.2] at PL
        have Q1 := Lib.hid (HSS.out.trans p1)
        have Q2 := Lib.hid (HPB.out.trans (p2.trans hpB.1))
        have Q3 := Lib.hid (show pe = errN E (if x.s.T.room key hh = true then 0 else 2) from by rw [HPE.out, p3, hpB.2])
        clear p1 p2 p3 hq hpB
        generalize x.s.T.room key hh = rm at *
        cases rm with
        | true =>
          simp only [if_true, errN_0] at PL Q3
          go_wp2_with (first
            | (go_at_call 44; (with_reducible refine (EN.out fp _ TC.out).mono ?_); rintro e w2 ⟨rfl, hb2⟩; have P2 := PC.out.below hb2 PC.out.lt; obtain ⟨f0, f1, f2, f3, f4, f5, f6⟩ := cells7 P2; have zP2 := P2.lt; have X62 := X6C.out.below hb2 X6C.out.lt; obtain ⟨m20, m21, m22⟩ := cells3 X62; have zm2 := X62.lt; have T2 := Lib.hid (TC.out.later hb2); have L2 := Lib.hid (LC.out.later hb2); have N2 := Lib.hid (NC.out.later hb2); have CW := Lib.hid (((Chg.of_below HB1.out).trans CC.out).thenBelow hb2); have z2 := hb2.size; clear hb2)
            | (go_at_call 46; ((with_reducible refine (PL.out _ (T2.out.later ((Below.refl _ _).alloc (Nat.le_refl _) _))).mono ?_); rintro e w3 ⟨rfl, ht3, hc3⟩; have T3 := Lib.hid ht3; have C3 := Lib.hid hc3; clear ht3 hc3)))
          go_ret2
          exact ⟨by rw [Q2.out, Q3.out]; rfl, by rw [Q1.out]; exact (N2.out.later ((Below.refl _ _).alloc (Nat.le_refl _) _)).setI HZ.out T3.out C3.out (fun e => by rcases e with e | e; exact NBN.out.1 e.symm; exact NBN.out.2 e.symm), ⟨_, (L2.out.later ((Below.refl _ _).alloc (Nat.le_refl _) _)).chg C3.out (fun b e f => (HS.out b e).2.1 (.inr ⟨HZ.out, f⟩))⟩, ((CW.out.mono (fun _ _ e => .inl e)).thenBelow ((Below.refl _ _).alloc (Nat.le_refl _) _)).trans (C3.out.mono (fun _ _ e => .inr (.inr ⟨HZ.out, e⟩)))⟩
        | false =>
          simp only [Bool.false_eq_true, if_false, errN_nz E 2 (by decide)] at PL Q3
          unfold errAt at PL Q3
          go_wp2_with (first
            | (go_at_call 44; (with_reducible refine (EN.out fp _ TC.out).mono ?_); rintro e w2 ⟨rfl, hb2⟩; have P2 := PC.out.below hb2 PC.out.lt; obtain ⟨f0, f1, f2, f3, f4, f5, f6⟩ := cells7 P2; have zP2 := P2.lt; have X62 := X6C.out.below hb2 X6C.out.lt; obtain ⟨m20, m21, m22⟩ := cells3 X62; have zm2 := X62.lt; have T2 := Lib.hid (TC.out.later hb2); have L2 := Lib.hid (LC.out.later hb2); have N2 := Lib.hid (NC.out.later hb2); have CW := Lib.hid (((Chg.of_below HB1.out).trans CC.out).thenBelow hb2); have z2 := hb2.size; clear hb2)
            | (go_at_call 46; ((with_reducible refine (PL.out _ (T2.out.later ((Below.refl _ _).alloc (Nat.le_refl _) _))).mono ?_); rintro e w3 ⟨rfl, ht3, hc3⟩; have T3 := Lib.hid ht3; have C3 := Lib.hid hc3; clear ht3 hc3)))
          go_ret2
          exact ⟨by rw [Q2.out, Q3.out]; rfl, by rw [Q1.out]; exact (N2.out.later ((Below.refl _ _).alloc (Nat.le_refl _) _)).setI HZ.out T3.out C3.out (fun e => by rcases e with e | e; exact NBN.out.1 e.symm; exact NBN.out.2 e.symm), ⟨_, (L2.out.later ((Below.refl _ _).alloc (Nat.le_refl _) _)).chg C3.out (fun b e f => (HS.out b e).2.1 (.inr ⟨HZ.out, f⟩))⟩, ((CW.out.mono (fun _ _ e => .inl e)).thenBelow ((Below.refl _ _).alloc (Nat.le_refl _) _)).trans (C3.out.mono (fun _ _ e => .inr (.inr ⟨HZ.out, e⟩)))⟩
theorem ND.put (h : ND w Nb a x E w0) (hl : LW w lp mt) (hs : LensN lp a x Nb w0.heap.size) (key v : Int) (hh : Nat) (hb : hh < 18446744073709551616) (more : Bool) (q : Option Addr) (hq : LensAt q lp) (x1 y1 z1 : Int) :
    Calls Tryz.prog 12 #[.pointer (some ⟨Nb, 0, none⟩), .agg #[.pointer q, .int .i64 x1, .int .i64 y1, .int .i64 z1], .agg #[.int .u64 key, .int .u64 v, .int .u64 (hh : Int)], .bool more] w fun e w' =>
      e = .returned (.tuple #[.bool (x.s.putB key hh more), errN E (x.s.putN key hh more)]) ∧ ND w' Nb a { x with s := x.s.put key v hh more } E w0 ∧ (∃ n : Nat, LW w' lp (addN mt x1 y1 z1 n)) ∧ Chg (fun b => lp = some b ∨ NX a x b) w w' := by
  by_cases hz : x.bz = true
  · exact h.putU hz hl hs key v hh hb more q hq x1 y1 z1
  · exact h.putI (by simpa using hz) hl hs key v hh hb more q hq x1 y1 z1
end
end Go.Proofs.YtolhmibejhldkaaGreatDoor

namespace Go.Proofs.YtolhmibejhldkaaGreatDoor
open Go.RowKit Go.Proofs
attribute [local go_sem] neq_nilG eql_nilG
section
variable {w w' w0 : World} {Nb : Nat} {a : Nat → Nat} {x : NdS} {E : Nat → Addr} {mt : MeterS} {M : Nat} {s : DuS} {tk : Bool}
theorem DuV.stepV (h : DuV w a s tk E w0) (hM : Blk w M 37 mt.cells) (hl : mt.limited = false) (hls : LensV (some M) a s w0.heap.size) (hev : s.evOk) :
    Calls Tryz.prog 54 #[.pointer (some ⟨a 0, 0, none⟩), .pointer (some ⟨M, 0, none⟩)] w fun e w' =>
      ∃ (a' : Nat → Nat) (mt' : MeterS), e = .returned (.bool (decide (0 < s.left))) ∧ DuV w' a' s.stp tk E w0 ∧ Blk w' M 37 mt'.cells ∧ mt'.limited = false ∧ (a' 0 = a 0 ∧ a' 1 = a 1) ∧ (∀ b, DuX a' s.stp b → DuX a s b ∨ w.heap.size ≤ b) ∧ Chg (fun b => b = M ∨ DuX a s b) w w' := by
  unfold LensV at hls
  unfold DuS.left DuS.stp
  rcases h.m with ⟨bcap, hA⟩ | ⟨bcap, fcap, cap5, hB⟩
  · have hb0 : ¬ s.bare = 0 := by have := hA.hb; omega
    rw [decide_eq_false hb0] at hls
    rw [if_neg hb0, decide_eq_true (show 0 < s.bare + (s.T.n - s.nx) by have := hA.hb; omega)]
    refine (hA.step h.ok hM hls hl).mono ?_
    rintro e w' ⟨rfl, ⟨a', g1, g2, g3⟩, g4, g5⟩
    refine ⟨a', _, rfl, g1, g4, hl, ⟨g2 0 (.lt4 (by decide)), g2 1 (.lt4 (by decide))⟩, fun b e => ?_, g5⟩
    obtain ⟨x, hx, rfl⟩ := e
    by_cases hx2 : Used s.k false x
    · rw [g2 x hx2]
      exact .inl ⟨x, by rw [decide_eq_false hb0]; exact hx2, rfl⟩
    · have hx3 : Used s.k (decide (s.bare - 1 = 0)) x := hx
      unfold Used at hx2 hx3
      simp only [Bool.false_eq_true, false_and, false_or] at hx2
      rcases hx3 with e | ⟨e1, e2⟩ | e
      · exact absurd (.inl e) hx2
      · rcases g3 x (by omega) e2 with e3 | e3
        · exact .inr e3
        · rw [decide_eq_true_eq] at e1; omega
      · exact absurd (.inr e) hx2
  · have hb0 := hB.hb
    have hxn := h.ok.hx
    rw [decide_eq_true hb0] at hls
    rw [if_pos hb0]
    by_cases hn : s.nx < s.T.n
    · rw [if_pos hn, decide_eq_true (show 0 < s.bare + (s.T.n - s.nx) by omega)]
      refine (hB.stepOk h.ok hM hls hl hn (hev hb0 hn)).mono ?_
      rintro e w' ⟨rfl, g1, g2, g3⟩
      exact ⟨a, _, rfl, g1, g2, (addN_limited _ _ _ _ _).trans hl, ⟨rfl, rfl⟩, fun b e => .inl ((duX_eq ⟨rfl, rfl⟩ b).1 e), g3⟩
    · rw [if_neg hn, decide_eq_false (show ¬ 0 < s.bare + (s.T.n - s.nx) by omega)]
      refine (hB.stepNo h.ok hM hls (by omega)).mono ?_
      rintro e w' ⟨rfl, g1⟩
      exact ⟨a, mt, rfl, h.later g1, hM.below g1 hM.lt, hl, ⟨rfl, rfl⟩, fun b e => .inl e, Chg.of_below g1⟩
def NdS.stp (x : NdS) : NdS := { x with s := if x.bz = true then x.s.stp else x.s }
set_option maxRecDepth 100000 in
set_option maxHeartbeats 4000000 in
theorem ND.step (h : ND w Nb a x E w0) (hM : Blk w M 37 mt.cells) (hl : mt.limited = false) (hs : LensN (some M) a x Nb w0.heap.size) (hev : x.bz = true → x.s.evOk) :
    Calls Tryz.prog 15 #[.pointer (some ⟨Nb, 0, none⟩), .pointer (some ⟨M, 0, none⟩)] w fun e w' =>
      ∃ (a' : Nat → Nat) (mt' : MeterS), e = .returned (.bool (x.bz && decide (0 < x.s.left))) ∧ ND w' Nb a' x.stp E w0 ∧ Blk w' M 37 mt'.cells ∧ mt'.limited = false ∧ (∀ b, NX a' x.stp b → NX a x b ∨ w.heap.size ≤ b) ∧ Chg (fun b => b = M ∨ NX a x b) w w' := by
  obtain ⟨c0, c1, c2, c3, c4, z⟩ := h.cells
  have HH := Lib.hid h
  have HM := Lib.hid hM
  by_cases hz : x.bz = true
  · rw [if_pos hz] at c4
    have ST := Lib.hid ((h.u hz).stepV hM hl (hs.v hz) (hev hz))
    have HX := Lib.hid (show x.stp = { x with s := x.s.stp } from by unfold NdS.stp; rw [if_pos hz])
    have HZ := Lib.hid hz
    have HL := Lib.hid (show ¬ (Nb = M ∨ DuX a x.s Nb) from by
      rintro (e | e)
      · exact (hs M rfl).2.2 e.symm
      · exact h.n.2 Nb (.inl ⟨hz, e⟩) rfl)
    obtain ⟨bb, hbb⟩ : ∃ bb, bb = decide (0 < x.s.left) := ⟨_, rfl⟩
    have hr : (x.bz && decide (0 < x.s.left)) = bb := by rw [hz, hbb]; rfl
    rw [hr]
    rw [← hbb] at ST
    clear h hM hs hev c0 c1 c2 c3 hz hbb hr
    go_enter Tryz.func15, Tryz.ntmps15
    go_wp2_with (go_at_call 54; (with_reducible refine ST.out.mono ?_); rintro e w1 ⟨a', mt', rfl, hu1, hm1, hl1, ha1, hx1, hc1⟩; have U1 := Lib.hid hu1; have M1 := Lib.hid hm1; have A1 := Lib.hid ha1; have X1 := Lib.hid hx1; have C1 := Lib.hid hc1; have LL := Lib.hid hl1; clear hu1 hm1 ha1 hx1 hc1 hl1)
    go_ret
    have hw := HH.out.bel.size
    have hn := NX.lt HH.out
    have hnd : ND w1 Nb a' { x with s := x.s.stp } E w0 := HH.out.setU HZ.out U1.out C1.out HL.out A1.out (fun b e => by
      rcases X1.out b e with f | f
      · exact HH.out.n.2 b (.inl ⟨HZ.out, f⟩)
      · omega)
    refine ⟨a', mt', rfl, by rw [HX.out]; exact hnd, M1.out, LL.out, fun b hb => ?_, C1.out.mono (fun b _ e => by rcases e with e | e; exact .inl e; exact .inr (.inl ⟨HZ.out, e⟩))⟩
    rw [HX.out] at hb
    rcases hb with ⟨-, f⟩ | ⟨f, -⟩
    · rcases X1.out b f with g | g
      · exact .inl (.inl ⟨HZ.out, g⟩)
      · exact .inr g
    · exact absurd HZ.out (by rw [show x.bz = false from f]; decide)
  · have hz2 : x.bz = false := by simpa using hz
    rw [if_neg hz] at c4
    have hr : (x.bz && decide (0 < x.s.left)) = false := by rw [hz2]; rfl
    have hx : x.stp = x := by unfold NdS.stp; rw [if_neg hz]
    rw [hr, hx]
    have HL := Lib.hid hl
    clear h hM hs hev c0 c1 c2 c3 hz hr hx hl
    go_enter Tryz.func15, Tryz.ntmps15
    go_wp2
    go_ret
    exact ⟨a, mt, rfl, HH.out, HM.out, HL.out, fun b hb => .inl hb, Chg.refl _ _⟩
def NdS.wants (x : NdS) (gl : Int) : Int := if x.bz = true then 0 else whichF x.s.T.lv x.s.T.tb (x.s.T.n : Int) (x.d : Int) gl
def NdS.dbl (x : NdS) (gl : Int) : Bool := if x.bz = true then false else doubleB x.s.T.lv x.s.T.tb (x.s.T.n : Int) (x.d : Int) gl
set_option maxRecDepth 100000 in
set_option maxHeartbeats 4000000 in
theorem ND.wantsC (h : ND w Nb a x E w0) (gl : Int) : Calls Tryz.prog 13 #[.pointer (some ⟨Nb, 0, none⟩), .int .i64 gl] w fun e w' => e = .returned (.tuple #[.int .i64 (x.wants gl), .bool (x.dbl gl)]) ∧ Below w.heap.size w w' := by
  obtain ⟨c0, c1, c2, c3, c4, z⟩ := h.cells
  unfold NdS.wants NdS.dbl
  by_cases hz : x.bz = true
  · rw [if_pos hz, if_pos hz]
    rw [if_pos hz] at c4
    clear h c0 c1 c2 c3 hz
    go_enter Tryz.func13, Tryz.ntmps13
    go_wp2
    go_ret2
    exact ⟨rfl, Below.refl _ _⟩
  · rw [if_neg hz, if_neg hz]
    rw [if_neg hz] at c4
    obtain ⟨ht, -⟩ := h.i (by simpa using hz)
    have LE := Lib.hid (fun (W : World) (hb : Below w.heap.size w W) => (ht.later hb).len)
    have TO := Lib.hid (fun (W : World) (hb : Below w.heap.size w W) => (ht.later hb).tombs)
    have GR := Lib.hid (fun (W : World) (hb : Below w.heap.size w W) => (ht.later hb).groups)
    have WH := Lib.hid (fun (W : World) => which_any x.s.T.lv x.s.T.tb (x.s.T.n : Int) (x.d : Int) gl W)
    have DB := Lib.hid (fun (W : World) => double_any x.s.T.lv x.s.T.tb (x.s.T.n : Int) (x.d : Int) gl W)
    generalize x.s.T.lv = lv at *
    generalize x.s.T.tb = tb at *
    generalize x.s.T.n = n at *
    generalize whichF lv tb (n : Int) (x.d : Int) gl = r1 at *
    generalize doubleB lv tb (n : Int) (x.d : Int) gl = r2 at *
    clear h ht c0 c3 hz
    go_enter Tryz.func13, Tryz.ntmps13
    go_wp2
    refine wp_region_seq (fun _ => False) #[⟨0, 0, 16384, 1, 0⟩, ⟨1, 1, 32768, 16384, 0⟩, ⟨2, 3, 65536, 32768, 0⟩, ⟨4, 7, 131072, 65536, 1⟩, ⟨8, 15, 262144, 131072, 2⟩, ⟨0, 0, 524288, 1, 0⟩, ⟨32, 32, 1048576, 524288, 0⟩, ⟨64, 96, 2097152, 1048576, 0⟩, ⟨128, 224, 4194304, 2097152, 1⟩, ⟨272, 511, 8388608, 4194304, 2⟩, ⟨0, 0, 16777216, 1, 0⟩, ⟨1024, 1024, 33554432, 16777216, 0⟩, ⟨2048, 3072, 67108864, 33554432, 0⟩, ⟨4096, 7168, 134217728, 67108864, 1⟩, ⟨8704, 16383, 268435456, 134217728, 3⟩, ⟨16415, 32767, 64, 262144, 0⟩, ⟨33791, 65535, 128, 8388608, 0⟩, ⟨131071, 131071, 256, 268435456, 0⟩] 8456 [(0, 0), (1, 0), (2, 0), (3, 1), (5, 0), (6, 0), (7, 0), (8, 1), (10, 0), (11, 0), (12, 0), (13, 1), (4, 2), (9, 2), (14, 3), (15, 0), (16, 0), (17, 0)] (by kernel_rfl) (by kernel_rfl) (by kernel_rfl) (by kernel_rfl) (by kernel_rfl) (by kernel_rfl) (fun c a d v w h => by cases d <;> exact h) ?_
    refine zqC ?_; refine zqC ?_; refine zqC ?_
    refine zq1 Tryz.underlying85 ?_
    try refine zqP ?_; refine zqC ?_; refine zqC ?_; refine zqC ?_
    refine zq1 Tryz.underlying85 ?_
    try refine zqP ?_; refine zqC ?_; refine zqC ?_; refine zqC ?_
    refine zq1 Tryz.underlying85 ?_
    try refine zqP ?_
    refine zqD fun K hK => ?_; go_wp2_with (first | (go_at_call 47; (with_reducible refine (LE.out _ (Below.refl _ _).drew).mono ?_); rintro e w1 ⟨rfl, rfl⟩) | (go_at_call 48; (with_reducible refine (TO.out _ (Below.refl _ _).drew).mono ?_); rintro e w1 ⟨rfl, rfl⟩) | (go_at_call 49; (with_reducible refine (GR.out _ (Below.refl _ _).drew).mono ?_); rintro e w1 ⟨rfl, rfl⟩)); refine hkA hK (h := ?_); clear hK K
    try refine zqP ?_
    refine zqD fun K hK => ?_; go_wp2_with (first | (go_at_call 47; (with_reducible refine (LE.out _ (Below.refl _ _).drew).mono ?_); rintro e w1 ⟨rfl, rfl⟩) | (go_at_call 48; (with_reducible refine (TO.out _ (Below.refl _ _).drew).mono ?_); rintro e w1 ⟨rfl, rfl⟩) | (go_at_call 49; (with_reducible refine (GR.out _ (Below.refl _ _).drew).mono ?_); rintro e w1 ⟨rfl, rfl⟩)); refine hkA hK (h := ?_); clear hK K
    try refine zqP ?_
    refine zqE fun K hK => ?_; go_wp2_with (first | (go_at_call 47; (with_reducible refine (LE.out _ (Below.refl _ _).drew).mono ?_); rintro e w1 ⟨rfl, rfl⟩) | (go_at_call 48; (with_reducible refine (TO.out _ (Below.refl _ _).drew).mono ?_); rintro e w1 ⟨rfl, rfl⟩) | (go_at_call 49; (with_reducible refine (GR.out _ (Below.refl _ _).drew).mono ?_); rintro e w1 ⟨rfl, rfl⟩)); refine hK.out _ _ ?_; clear hK K
    try refine zqP ?_; refine zqC ?_; refine zqC ?_; refine zqC ?_
    refine seq_nil ?_
    go_wp2
    refine wp_region_seq (fun _ => False) #[⟨0, 0, 536870912, 64, 0⟩, ⟨0, 0, 1073741824, 128, 0⟩, ⟨0, 0, 2147483648, 256, 0⟩, ⟨0, 0, 4294967296, 1, 0⟩, ⟨8, 8, 8589934592, 4294967296, 0⟩, ⟨16, 24, 17179869184, 8589934592, 0⟩, ⟨32, 56, 34359738368, 17179869184, 1⟩, ⟨0, 0, 68719476736, 2, 0⟩, ⟨199, 255, 137438953472, 106837311488, 2⟩, ⟨0, 0, 274877906944, 64, 0⟩, ⟨0, 0, 549755813888, 128, 0⟩, ⟨0, 0, 1099511627776, 256, 0⟩, ⟨0, 0, 2199023255552, 1, 0⟩, ⟨4096, 4096, 4398046511104, 2199023255552, 0⟩, ⟨8192, 12288, 8796093022208, 4398046511104, 0⟩, ⟨16384, 28672, 17592186044416, 8796093022208, 1⟩, ⟨0, 0, 35184372088832, 2, 0⟩, ⟨102144, 131071, 70368744177664, 54700703481856, 3⟩, ⟨131583, 262143, 16, 137438953472, 0⟩, ⟨524287, 524287, 32, 70368744177664, 0⟩] 32832 [(0, 0), (1, 0), (2, 0), (3, 0), (4, 0), (5, 0), (6, 1), (7, 0), (9, 0), (10, 0), (11, 0), (12, 0), (13, 0), (14, 0), (15, 1), (16, 0), (8, 2), (17, 3), (18, 0), (19, 0)] (by kernel_rfl) (by kernel_rfl) (by kernel_rfl) (by kernel_rfl) (by kernel_rfl) (by kernel_rfl) (fun c a d v w h => by cases d <;> exact h) ?_
    refine zqC ?_; refine zqC ?_; refine zqC ?_; refine zqC ?_; refine zqC ?_; refine zqC ?_
    refine zq1 Tryz.underlying3 ?_
    try refine zqP ?_; refine zqC ?_; refine zqC ?_; refine zqC ?_; refine zqC ?_; refine zqC ?_; refine zqC ?_; refine zqC ?_
    refine zq1 Tryz.underlying3 ?_
    try refine zqP ?_; refine zqC ?_
    refine zqD fun K hK => ?_; go_wp2_with (first | (go_at_call 50; (with_reducible refine (WH.out _).mono ?_); rintro e w1 ⟨rfl, rfl⟩) | (go_at_call 51; (with_reducible refine (DB.out _).mono ?_); rintro e w1 ⟨rfl, rfl⟩)); refine hkA hK (h := ?_); clear hK K
    try refine zqP ?_
    refine zqE fun K hK => ?_; go_wp2_with (first | (go_at_call 50; (with_reducible refine (WH.out _).mono ?_); rintro e w1 ⟨rfl, rfl⟩) | (go_at_call 51; (with_reducible refine (DB.out _).mono ?_); rintro e w1 ⟨rfl, rfl⟩)); refine hK.out _ _ ?_; clear hK K
    try refine zqP ?_; refine zqC ?_; refine zqC ?_
    refine seq_nil ?_
    go_wp2
    go_ret2
    exact ⟨rfl, (Below.refl _ _).drew.drew⟩
end
end Go.Proofs.YtolhmibejhldkaaGreatDoor

namespace Go.Proofs.YtolhmibejhldkaaGreatDoor
open Go.RowKit
def eachF (k g : Int) : Int := if k = 2 then 2 * g else g
def manyF (k : Int) : Int := if k = 3 then 2 else 1
def badF (k g : Int) : Nat := if k = 1 ∨ k = 2 ∨ k = 3 then (if rightB g = true ∧ rightB (eachF k g) = true then 0 else 1) else 14
theorem right_twice {g : Int} (h : rightB g = true) (h2 : g < 64) : rightB (2 * g) = true := by
  rw [rightB_iff] at *; omega
theorem badF_of {k g : Int} (h : k = 1 ∨ k = 2 ∨ k = 3) (hg : rightB g = true) (h2 : k = 2 → g < 64) : badF k g = 0 := by
  unfold badF
  rw [if_pos h, if_pos]
  refine ⟨hg, ?_⟩
  unfold eachF
  split
  · exact right_twice hg (h2 ‹_›)
  · exact hg
theorem badF_zero {k g : Int} (h : badF k g = 0) : (k = 1 ∨ k = 2 ∨ k = 3) ∧ rightB g = true ∧ rightB (eachF k g) = true := by
  unfold badF at h
  by_cases h1 : k = 1 ∨ k = 2 ∨ k = 3
  · rw [if_pos h1] at h
    by_cases h2 : rightB g = true ∧ rightB (eachF k g) = true
    · exact ⟨h1, h2⟩
    · rw [if_neg h2] at h; cases h
  · rw [if_neg h1] at h; cases h
end Go.Proofs.YtolhmibejhldkaaGreatDoor

namespace Go.Proofs.YtolhmibejhldkaaGreatDoor
open Go.RowKit Go.Proofs
def errV (E : Nat → Addr) (n : Nat) : Value := if n = 0 then .nilIface else .iface 259 (.pointer (some (E n)))
def groupsV (E : Nat → Addr) (k g : Int) : Value := .tuple #[.int .i64 (if badF k g = 0 then eachF k g else 0), .int .i64 (if badF k g = 0 then manyF k else 0), errV E (badF k g)]
theorem groupsV_ok {E : Nat → Addr} {k g : Int} (h : badF k g = 0) : groupsV E k g = .tuple #[.int .i64 (eachF k g), .int .i64 (manyF k), .nilIface] := by
  unfold groupsV; rw [h]; rfl
theorem groupsV_bad {E : Nat → Addr} {k g : Int} {n : Nat} (h : badF k g = n) (hn : n ≠ 0) : groupsV E k g = .tuple #[.int .i64 0, .int .i64 0, .iface 259 (.pointer (some (E n)))] := by
  unfold groupsV errV; rw [h, if_neg hn, if_neg hn, if_neg hn]
set_option maxHeartbeats 1600000 in
theorem groups_any (k g : Int) (E : Nat → Addr) (w : World) (h1 : w.cell? ⟨0, 0, none⟩ = some (.iface 259 (.pointer (some (E 1))))) (h14 : w.cell? ⟨7, 0, none⟩ = some (.iface 259 (.pointer (some (E 14))))) :
    Calls Tryz.prog 52 #[.int .i64 k, .int .i64 g] w fun e w' => e = .returned (groupsV E k g) ∧ ∃ m, w' = w.drewN m := by
  by_cases k1 : k = 1
  · subst k1
    by_cases hr : rightB g = true
    · have HV := Lib.hid ((groupsV_ok (E := E) (badF_of (k := 1) (by omega) hr (by omega))).trans (show _ = Value.tuple #[.int .i64 (g), .int .i64 1, .nilIface] from rfl))
      have hq := hr
      go_enter Tryz.func52, Tryz.ntmps52
      go_wp2_with (go_at_call 104; refine (right_any _ _).mono ?_; rintro e w' ⟨rfl, rfl⟩; simp only [hr, hq])
      go_ret3
      exact ⟨by rw [HV.out]; rfl, 0, rfl⟩
    · have HV := Lib.hid (groupsV_bad (E := E) (k := 1) (g := g) (n := 1) (by unfold badF; rw [if_pos (by omega), if_neg (fun h => hr h.1)]) (by decide))
      replace hr : rightB g = false := by simpa using hr
      have hq := hr
      go_enter Tryz.func52, Tryz.ntmps52
      go_wp2_with (go_at_call 104; refine (right_any _ _).mono ?_; rintro e w' ⟨rfl, rfl⟩; simp only [hr, hq])
      go_quiet (fail)
      go_wp2
      go_ret3
      exact ⟨by rw [HV.out]; rfl, nq, rfl⟩
  · by_cases k2 : k = 2
    · subst k2
      by_cases hr : rightB g = true
      · have hgb := right_bd' hr
        by_cases h64 : g < 64
        · have HV := Lib.hid ((groupsV_ok (E := E) (badF_of (k := 2) (by omega) hr (fun _ => h64))).trans (show _ = Value.tuple #[.int .i64 (2 * g), .int .i64 1, .nilIface] from rfl))
          have hq := right_twice hr h64
          go_enter Tryz.func52, Tryz.ntmps52
          go_wp2_with (go_at_call 104; refine (right_any _ _).mono ?_; rintro e w' ⟨rfl, rfl⟩; simp only [hr, hq])
          go_ret3
          exact ⟨by rw [HV.out]; rfl, 0, rfl⟩
        · have hq : rightB (2 * g) = false := by rw [Bool.eq_false_iff, ne_eq, rightB_iff]; omega
          have HV := Lib.hid (groupsV_bad (E := E) (k := 2) (g := g) (n := 1) (by unfold badF eachF; rw [if_pos (by omega), if_neg (fun h => by rw [if_pos rfl, hq] at h; exact absurd h.2 (by decide))]) (by decide))
          go_enter Tryz.func52, Tryz.ntmps52
          go_wp2_with (go_at_call 104; refine (right_any _ _).mono ?_; rintro e w' ⟨rfl, rfl⟩; simp only [hr, hq])
          go_quiet (fail)
          go_wp2
          go_ret3
          exact ⟨by rw [HV.out]; rfl, nq, rfl⟩
      · have HV := Lib.hid (groupsV_bad (E := E) (k := 2) (g := g) (n := 1) (by unfold badF; rw [if_pos (by omega), if_neg (fun h => hr h.1)]) (by decide))
        replace hr : rightB g = false := by simpa using hr
        have hq := hr
        have hwr := IntWalk.i64_left (2 * g)
        go_enter Tryz.func52, Tryz.ntmps52
        go_wp2_with (go_at_call 104; refine (right_any _ _).mono ?_; rintro e w' ⟨rfl, rfl⟩; simp only [hr, hq])
        go_quiet (fail)
        go_wp2
        go_ret3
        exact ⟨by rw [HV.out]; rfl, nq, rfl⟩
    · by_cases k3 : k = 3
      · subst k3
        by_cases hr : rightB g = true
        · have HV := Lib.hid ((groupsV_ok (E := E) (badF_of (k := 3) (by omega) hr (by omega))).trans (show _ = Value.tuple #[.int .i64 (g), .int .i64 2, .nilIface] from rfl))
          have hq := hr
          go_enter Tryz.func52, Tryz.ntmps52
          go_wp2_with (go_at_call 104; refine (right_any _ _).mono ?_; rintro e w' ⟨rfl, rfl⟩; simp only [hr, hq])
          go_ret3
          exact ⟨by rw [HV.out]; rfl, 0, rfl⟩
        · have HV := Lib.hid (groupsV_bad (E := E) (k := 3) (g := g) (n := 1) (by unfold badF; rw [if_pos (by omega), if_neg (fun h => hr h.1)]) (by decide))
          replace hr : rightB g = false := by simpa using hr
          have hq := hr
          go_enter Tryz.func52, Tryz.ntmps52
          go_wp2_with (go_at_call 104; refine (right_any _ _).mono ?_; rintro e w' ⟨rfl, rfl⟩; simp only [hr, hq])
          go_quiet (fail)
          go_wp2
          go_ret3
          exact ⟨by rw [HV.out]; rfl, nq, rfl⟩
      · have HV := Lib.hid (groupsV_bad (E := E) (k := k) (g := g) (n := 14) (by unfold badF; rw [if_neg (by omega)]) (by decide))
        have hr : (1 : Nat) = 1 := rfl
        have hq := hr
        go_enter Tryz.func52, Tryz.ntmps52
        go_wp2
        go_quiet (fail)
        go_wp2
        go_ret3
        exact ⟨by rw [HV.out]; rfl, nq, rfl⟩
end Go.Proofs.YtolhmibejhldkaaGreatDoor

namespace Go.Proofs.YtolhmibejhldkaaGreatDoor
open Go.RowKit Go.Proofs
attribute [local go_sem] neq_nilG eql_nilG
section
variable {w w' w0 : World} {Nb : Nat} {a : Nat → Nat} {x : NdS} {E : Nat → Addr}
def eachN (kind : Int) (n : Nat) : Nat := if kind = 2 then 2 * n else n
def NdS.sta (x : NdS) (kind : Int) : NdS := { x with job := kind, bz := true, s := DuS.newS (if kind = 3 then 2 else 1) (if kind = 3 then x.d else 0) (eachN kind x.s.T.n) x.s.T }
theorem eachN_eq (kind : Int) (n : Nat) : eachF kind (n : Int) = ((eachN kind n : Nat) : Int) := by
  unfold eachF eachN
  split <;> simp
theorem ND.began {W : World} {a' : Nat → Nat} {bcap k d gn : Nat} {kind : Int} (h : ND w Nb a x E w0) (hz : x.bz = false) (hb : Below w.heap.size w W) (hA : DuA W a' (DuS.newS k d gn x.s.T) bcap false E w0) (hk : k = 1 ∨ (k = 2 ∧ d ≤ 15)) (hr : rightB (gn : Int) = true) (a1 : a' 1 = a 1) (a2 : a' 2 = a 2) (ax : ∀ y, Used k false y → y ≠ 1 → y ≠ 2 → w.heap.size ≤ a' y) {Wf : World} (hWf : Wf = (W.setCell ⟨Nb, 3, none⟩ (.int .i64 kind)).setCell ⟨Nb, 4, none⟩ (.pointer (some ⟨a' 0, 0, none⟩))) :
    ND Wf Nb a' { x with job := kind, bz := true, s := DuS.newS k d gn x.s.T } E w0 ∧ (∀ b, NX a' { x with job := kind, bz := true, s := DuS.newS k d gn x.s.T } b → NX a x b ∨ w.heap.size ≤ b) ∧ Chg (fun b => b = Nb) w Wf := by
  have hc : Chg (fun b => b = Nb) W Wf := by rw [hWf]; exact ((Chg.refl _ _).set1 _ _).set1 _ _
  have zN := h.b.lt
  have hT := (h.i hz).1.good
  have hnx : decide ((DuS.newS k d gn x.s.T).bare = 0) = false := decide_eq_false (by have := hA.hb; omega)
  have hX : ∀ b, NX a' { x with job := kind, bz := true, s := DuS.newS k d gn x.s.T } b → NX a x b ∨ w.heap.size ≤ b := fun b hb2 => by
    rcases hb2 with ⟨-, y, hy, rfl⟩ | ⟨e, -⟩
    · rw [hnx] at hy
      by_cases y1 : y = 1
      · rw [y1, a1]; exact .inl (.inr ⟨hz, .inl rfl⟩)
      by_cases y2 : y = 2
      · rw [y2, a2]; exact .inl (.inr ⟨hz, .inr rfl⟩)
      exact .inr (ax y hy y1 y2)
    · cases e
  have hN : ∀ b, NX a' { x with job := kind, bz := true, s := DuS.newS k d gn x.s.T } b → b ≠ Nb := fun b hb2 => by
    rcases hX b hb2 with e | e
    · exact h.n.2 b e
    · omega
  refine ⟨⟨?_, fun e => (by cases e), fun _ => ⟨DuOK.newS hk hr hT, .inl ⟨bcap, hA.chg hc (fun b e => by rw [e]; exact h.n.1) (fun y hy => hN _ (.inl ⟨rfl, y, by rw [hnx]; exact hy, rfl⟩))⟩⟩, ⟨h.n.1, hN⟩, h.pd⟩, hX, (Chg.of_below hb).trans hc⟩
  rw [hWf]
  have := ((h.b.below hb zN).set 3 (.int .i64 kind)).set 4 (.pointer (some ⟨a' 0, 0, none⟩))
  simp only [a1] at this ⊢
  exact this
set_option maxRecDepth 100000 in
set_option maxHeartbeats 8000000 in
theorem ND.startOk (h : ND w Nb a x E w0) (hz : x.bz = false) (kind : Int) (hbad : badF kind (x.s.T.n : Int) = 0) (hd : kind = 3 → x.d < 5) :
    Calls Tryz.prog 14 #[.pointer (some ⟨Nb, 0, none⟩), .int .i64 kind] w fun e w' => ∃ a', e = .returned .nilIface ∧ ND w' Nb a' (x.sta kind) E w0 ∧ (∀ b, NX a' (x.sta kind) b → NX a x b ∨ w.heap.size ≤ b) ∧ Chg (fun b => b = Nb) w w' := by
  obtain ⟨c0, c1, c2, c3, c4, z⟩ := h.cells
  rw [if_neg (by rw [hz]; decide)] at c4
  obtain ⟨ht, -⟩ := h.i hz
  obtain ⟨b1, b2, b3⟩ := badF_zero hbad
  have HH := Lib.hid h
  have HZ := Lib.hid hz
  have GR := Lib.hid (fun (W : World) (hb : Below w.heap.size w W) => (ht.later hb).groups)
  have CG := Lib.hid (fun (W : World) (hb : Below w.heap.size w W) => groups_any kind (x.s.T.n : Int) E W ((ht.later hb).low.e 1 (by decide)) ((ht.later hb).low.e 14 (by decide)))
  have GV := groupsV_ok (E := E) hbad
  have h5 : ¬ (5 : Int) ≤ (x.d : Int) ∨ kind ≠ 3 := by by_cases e : kind = 3; exact .inl (by have := hd e; omega); exact .inr e
  rw [eachN_eq] at GV b3
  unfold NdS.sta
  rw [GV] at CG
  have d5 := h.pd.1
  have BG := Lib.hid (fun (W : World) (a' : Nat → Nat) (bcap k d gn : Nat) (hb : Below w.heap.size w W) (hA : DuA W a' (DuS.newS k d gn x.s.T) bcap false E w0) hk hr a1 a2 ax (Wf : World) hWf => h.began (kind := kind) hz hb hA hk hr a1 a2 ax (Wf := Wf) hWf)
  have hBB := Lib.hid h.b
  generalize eachN kind x.s.T.n = gn at *
  by_cases k3 : kind = 3
  · have DN := Lib.hid (fun (W : World) (hb : Below w.heap.size w W) => dualNew_ok (k := 2) (d := x.d) (gn := gn) (x.d : Int) (.inr ⟨rfl, rfl, by omega⟩) b3 (ht.later hb))
    have HB3 := Lib.hid b3
    simp only [if_pos k3]
    subst k3
    have q5 : ¬ (x.d : Int) ≥ 5 := by rcases h5 with e | e; exact e; exact absurd rfl e
    have hm : manyF 3 = 2 := rfl
    rw [hm] at CG
    generalize x.s.T.n = n at *
    generalize x.d = d at *
    clear h ht hz hbad hd h5 c0 b1 b2 b3 GV hm
    go_enter Tryz.func14, Tryz.ntmps14
    go_wp2_with (first | (go_at_call 49; (with_reducible refine (GR.out _ (Below.refl _ _)).mono ?_); rintro e w1 ⟨rfl, rfl⟩) | (go_at_call 52; (with_reducible refine (CG.out _ (Below.refl _ _)).mono ?_); rintro e w1 ⟨rfl, dm, rfl⟩) | (go_at_call 53; (with_reducible refine (DN.out _ (below_drewN (Below.refl _ _) _)).mono ?_); rintro e w1 ⟨a', bcap, rfl, hA, a1, a2, ax, hb1⟩; have HB1 := Lib.hid ((below_drewN (Below.refl w.heap.size w) dm).trans hb1); have B1 := Lib.hid (hBB.out.below HB1.out z); have g3 := B1.out.frozen 3; have g4 := B1.out.frozen 4; have z1 := B1.out.lt; have k3c : w1.cell? ⟨Nb, 3, none⟩ = _ := B1.out.cell 3; have k4c : w1.cell? ⟨Nb, 4, none⟩ = _ := B1.out.cell 4; have HA := Lib.hid hA; have A1 := Lib.hid a1; have A2 := Lib.hid a2; have AX := Lib.hid ax; clear hA a1 a2 ax hb1))
    go_wp2
    refine wp_end_at (fun Wf hWf => ?_)
    go_ret
    exact ⟨a', rfl, BG.out _ _ _ _ _ _ HB1.out HA.out (.inr ⟨rfl, by omega⟩) HB3.out A1.out A2.out AX.out Wf hWf⟩
  · have DN := Lib.hid (fun (W : World) (hb : Below w.heap.size w W) => dualNew_ok (k := 1) (d := 0) (gn := gn) (-1) (.inl ⟨rfl, by decide, rfl⟩) b3 (ht.later hb))
    have HB3 := Lib.hid b3
    simp only [if_neg k3]
    have hm : manyF kind = 1 := by unfold manyF; rw [if_neg k3]
    rw [hm] at CG
    generalize x.s.T.n = n at *
    clear h ht hz hbad hd h5 c0 b1 b2 b3 GV hm
    go_enter Tryz.func14, Tryz.ntmps14
    go_wp2_with (first | (go_at_call 49; (with_reducible refine (GR.out _ (Below.refl _ _)).mono ?_); rintro e w1 ⟨rfl, rfl⟩) | (go_at_call 52; (with_reducible refine (CG.out _ (Below.refl _ _)).mono ?_); rintro e w1 ⟨rfl, dm, rfl⟩) | (go_at_call 53; (with_reducible refine (DN.out _ (below_drewN (Below.refl _ _) _)).mono ?_); rintro e w1 ⟨a', bcap, rfl, hA, a1, a2, ax, hb1⟩; have HB1 := Lib.hid ((below_drewN (Below.refl w.heap.size w) dm).trans hb1); have B1 := Lib.hid (hBB.out.below HB1.out z); have g3 := B1.out.frozen 3; have g4 := B1.out.frozen 4; have z1 := B1.out.lt; have k3c : w1.cell? ⟨Nb, 3, none⟩ = _ := B1.out.cell 3; have k4c : w1.cell? ⟨Nb, 4, none⟩ = _ := B1.out.cell 4; have HA := Lib.hid hA; have A1 := Lib.hid a1; have A2 := Lib.hid a2; have AX := Lib.hid ax; clear hA a1 a2 ax hb1))
    go_wp2
    refine wp_end_at (fun Wf hWf => ?_)
    go_ret
    exact ⟨a', rfl, BG.out _ _ _ _ _ _ HB1.out HA.out (.inl rfl) HB3.out A1.out A2.out AX.out Wf hWf⟩
end
end Go.Proofs.YtolhmibejhldkaaGreatDoor

namespace Go.Proofs.YtolhmibejhldkaaGreatDoor
open Go.RowKit Go.Proofs
attribute [local go_sem] neq_nilG eql_nilG
section
variable {w w' w0 : World} {Nb : Nat} {a : Nat → Nat} {x : NdS} {E : Nat → Addr}
def NdS.idle (p d : Nat) (T : TabS) : NdS := ⟨p, d, 0, false, DuS.newS 1 0 64 T⟩
def endA (a : Nat → Nat) (i y : Nat) : Nat := if y = 1 then a (8 + 3 * i) else if y = 2 then a (9 + 3 * i) else 0
theorem endA_x {i p d : Nat} {T : TabS} {b : Nat} (h : NX (endA a i) (NdS.idle p d T) b) : b = a (8 + 3 * i) ∨ b = a (9 + 3 * i) := by
  rcases h with ⟨e, -⟩ | ⟨-, e⟩
  · cases e
  · exact e
theorem endA_sub {i p d : Nat} {T : TabS} (hz : x.bz = true) (hi : i < x.s.k) : ∀ b, NX (endA a i) (NdS.idle p d T) b → NX a x b := fun b h => by
  rcases endA_x h with e | e
  · exact .inl ⟨hz, _, .of hi (by omega) (by omega), e⟩
  · exact .inl ⟨hz, _, .of hi (by omega) (by omega), e⟩
theorem endA_apart {p d p' d' : Nat} {T T' : TabS} (h : ND w Nb a x E w0) (hz : x.bz = true) (hk : x.s.k = 2) : ∀ b, NX (endA a 0) (NdS.idle p d T) b → ¬ NX (endA a 1) (NdS.idle p' d' T') b := fun b h1 h2 => by
  have hn := (h.u hz).n.inj
  rcases endA_x h1 with e | e <;> rcases endA_x h2 with e2 | e2 <;>
    exact absurd (hn _ _ (.of (i := 0) (by omega) (by omega) (by omega)) (.of (i := 1) (by omega) (by omega) (by omega)) (e.symm.trans e2)) (by decide)
theorem ND.ended {W Wf : World} {bcap fcap cap5 i p d N2 : Nat} (h : ND w Nb a x E w0) (hz : x.bz = true) (hi : i < x.s.k) (hB : DuB W a x.s bcap fcap cap5 true E w0) {Y : Nat → Prop} (hc : Chg Y W Wf) (hY : ∀ b, Y b → w0.heap.size ≤ b ∧ ¬ NX a x b) (hN : w0.heap.size ≤ N2 ∧ ¬ NX a x N2) (hpd : d ≤ 5 ∧ p < 2 ^ d)
    (hb : Blk Wf N2 90 #[.int .i64 (p : Int), .int .i64 (d : Int), .pointer (some ⟨a (8 + 3 * i), 0, none⟩), .int .i64 0, .pointer none]) : ND Wf N2 (endA a i) (NdS.idle p d (x.s.U i)) E w0 := by
  refine ⟨hb, fun _ => ⟨?_, (show 0 < 1 * 64 by decide)⟩, fun e => (by cases e), ⟨hN.1, fun b hb2 e => hN.2 (e ▸ endA_sub hz hi b hb2)⟩, hpd⟩
  exact (hB.u i hi).chg hc (fun b e => (hY b e).1) (fun e => (hY _ e).2 (.inl ⟨hz, _, .of hi (by omega) (by omega), rfl⟩)) (fun e => (hY _ e).2 (.inl ⟨hz, _, .of hi (by omega) (by omega), rfl⟩)) (fun b f => by cases f)
theorem ND.left0 (h : ND w Nb a x E w0) (hz : x.bz = true) (hn : x.s.left = 0) : ∃ bcap fcap cap5, DuB w a x.s bcap fcap cap5 false E w0 := by
  rcases (h.u hz).m with ⟨b, hA⟩ | hB
  · have := hA.hb
    unfold DuS.left at hn
    omega
  · exact hB
set_option maxRecDepth 100000 in
set_option maxHeartbeats 8000000 in
theorem ND.endOne (h : ND w Nb a x E w0) (hz : x.bz = true) (hn : x.s.left = 0) (hk : x.s.k = 1) :
    Calls Tryz.prog 17 #[.pointer (some ⟨Nb, 0, none⟩)] w fun e w' => e = .returned (.tuple #[.pointer none, .nilIface]) ∧ ND w' Nb (endA a 0) (NdS.idle x.p x.d (x.s.U 0)) E w0 ∧ Chg (fun b => b = Nb ∨ b = a 0) w w' := by
  obtain ⟨bcap, fcap, cap5, hB⟩ := h.left0 hz hn
  have hok := (h.u hz).ok
  have HH := Lib.hid h
  have HZ := Lib.hid hz
  obtain ⟨c0, c1, c2, c3, c4, z⟩ := h.cells
  rw [if_pos hz] at c4
  have DF := Lib.hid h.doneC
  rw [hz, hn] at DF
  have TK := Lib.hid (fun (W : World) (hb : Below w.heap.size w W) => (hB.later hb).take hok hn)
  have hpd := h.pd
  have hp32 : x.p < 32 := by
    have : 2 ^ x.d ≤ 2 ^ 5 := Nat.pow_le_pow_right (by decide) hpd.1
    omega
  have HP := Lib.hid hpd
  have N0 := Lib.hid (show ¬ NX a x Nb from fun e => h.n.2 Nb e rfl)
  have NL := Lib.hid (NX.lt h)
  have na0 : ¬ Nb = a 0 := fun e => N0.out (e ▸ .inl ⟨hz, 0, .lt4 (by decide), rfl⟩)
  have hk1 : 1 ≤ x.s.k := by omega
  have HEN := Lib.hid (fun (W Wf : World) (i p d N2 : Nat) hi hB Y (hc : Chg Y W Wf) hY hN hpd hb => h.ended (W := W) (Wf := Wf) (bcap := bcap) (fcap := fcap) (cap5 := cap5) (i := i) (p := p) (d := d) (N2 := N2) hz hi hB hc hY hN hpd hb)
  have hk0 : 0 < x.s.k := by omega
  rw [hk] at TK
  clear h hz hn hB hok c0 c1 c2 c3 hk1 hk
  go_enter Tryz.func17, Tryz.ntmps17
  go_wp2_with (first | (go_at_call 16; (with_reducible refine DF.out.mono ?_); rintro e w1 ⟨rfl, hb1⟩; have B1 := Lib.hid hb1; have k4 := (hb1.cell (p := ⟨Nb, 4, none⟩) z).trans c4; have zN1 := Nat.lt_of_lt_of_le z hb1.size; clear hb1) | (go_at_call 56; (with_reducible refine (TK.out _ B1.out).mono ?_); rintro e w2 ⟨v, rfl, hrow, hB2, hc2⟩; obtain ⟨gr, capr, curr, rfl, hgr, hgb, hgc⟩ := row_ptrsG hrow (by omega); have DB := Lib.hid hB2; have C2 := Lib.hid (show Chg (fun b => b = Nb ∨ b = a 0) w w2 from (Chg.of_below B1.out).trans (hc2.mono fun b _ e => .inr e)); have NB2 := Lib.hid ((HH.out.b.below B1.out z).chg hc2 na0); have zN2 := NB2.out.lt; have q0 : w2.cell? ⟨Nb, 0, none⟩ = _ := NB2.out.cell 0; have q1 : w2.cell? ⟨Nb, 1, none⟩ = _ := NB2.out.cell 1; have q2 : w2.cell? ⟨Nb, 2, none⟩ = _ := NB2.out.cell 2; have q3 : w2.cell? ⟨Nb, 3, none⟩ = _ := NB2.out.cell 3; have q4 : w2.cell? ⟨Nb, 4, none⟩ = _ := NB2.out.cell 4; have f0 := NB2.out.frozen 0; have f1 := NB2.out.frozen 1; have f2 := NB2.out.frozen 2; have f3 := NB2.out.frozen 3; have f4 := NB2.out.frozen 4; have zg := hgb.lt; have nNg : ¬ Nb = gr := by have := B1.out.size; omega))
  have g0 := hgc 0 (by decide)
  clear hgc
  go_wp2
  refine wp_end_at (fun Wf hWf => ?_)
  go_ret2
  have hCf : Chg (fun b => b = Nb) w2 Wf := by rw [hWf]; exact (((Chg.refl _ _).set1 _ _).set1 _ _).set1 _ _
  refine ⟨rfl, HEN.out w2 Wf 0 x.p x.d Nb hk0 DB.out (fun b => b = Nb) hCf (fun b e => by rw [e]; exact ⟨HH.out.n.1, N0.out⟩) ⟨HH.out.n.1, N0.out⟩ HP.out ?_, C2.out.trans (hCf.mono fun b _ e => .inl e)⟩
  rw [hWf]
  exact ((NB2.out.set 2 _).set 3 _).set 4 _
set_option maxRecDepth 100000 in
set_option maxHeartbeats 8000000 in
theorem ND.endTwo (h : ND w Nb a x E w0) (hz : x.bz = true) (hn : x.s.left = 0) (hk : x.s.k = 2) (hd : x.d < 5) :
    Calls Tryz.prog 17 #[.pointer (some ⟨Nb, 0, none⟩)] w fun e w' => ∃ N2, e = .returned (.tuple #[.pointer (some ⟨N2, 0, none⟩), .nilIface]) ∧ w.heap.size ≤ N2 ∧
      ND w' Nb (endA a 0) (NdS.idle (2 * x.p) (x.d + 1) (x.s.U 0)) E w0 ∧ ND w' N2 (endA a 1) (NdS.idle (2 * x.p + 1) (x.d + 1) (x.s.U 1)) E w0 ∧ Chg (fun b => b = Nb ∨ b = a 0) w w' := by
  obtain ⟨bcap, fcap, cap5, hB⟩ := h.left0 hz hn
  have hok := (h.u hz).ok
  have HH := Lib.hid h
  have HZ := Lib.hid hz
  obtain ⟨c0, c1, c2, c3, c4, z⟩ := h.cells
  rw [if_pos hz] at c4
  have DF := Lib.hid h.doneC
  rw [hz, hn] at DF
  have TK := Lib.hid (fun (W : World) (hb : Below w.heap.size w W) => (hB.later hb).take hok hn)
  have hpd := h.pd
  have hp32 : x.p < 32 := by
    have : 2 ^ x.d ≤ 2 ^ 5 := Nat.pow_le_pow_right (by decide) hpd.1
    omega
  have HP := Lib.hid hpd
  have N0 := Lib.hid (show ¬ NX a x Nb from fun e => h.n.2 Nb e rfl)
  have NL := Lib.hid (NX.lt h)
  have na0 : ¬ Nb = a 0 := fun e => N0.out (e ▸ .inl ⟨hz, 0, .lt4 (by decide), rfl⟩)
  have hk1 : 1 ≤ x.s.k := by omega
  have HEN := Lib.hid (fun (W Wf : World) (i p d N2 : Nat) hi hB Y (hc : Chg Y W Wf) hY hN hpd hb => h.ended (W := W) (Wf := Wf) (bcap := bcap) (fcap := fcap) (cap5 := cap5) (i := i) (p := p) (d := d) (N2 := N2) hz hi hB hc hY hN hpd hb)
  have hk0 : 0 < x.s.k := by omega
  have hk11 : 1 < x.s.k := by omega
  have hp2 : x.p < 2 ^ x.d := hpd.2
  have HP2 := Lib.hid (show (x.d + 1 ≤ 5 ∧ 2 * x.p < 2 ^ (x.d + 1)) ∧ (x.d + 1 ≤ 5 ∧ 2 * x.p + 1 < 2 ^ (x.d + 1)) from by rw [Nat.pow_succ]; omega)
  rw [hk] at TK
  clear h hz hn hB hok c0 c1 c2 c3 hk1 hk hp2 hpd
  go_enter Tryz.func17, Tryz.ntmps17
  go_wp2_with (first | (go_at_call 16; (with_reducible refine DF.out.mono ?_); rintro e w1 ⟨rfl, hb1⟩; have B1 := Lib.hid hb1; have k4 := (hb1.cell (p := ⟨Nb, 4, none⟩) z).trans c4; have zN1 := Nat.lt_of_lt_of_le z hb1.size; clear hb1) | (go_at_call 56; (with_reducible refine (TK.out _ B1.out).mono ?_); rintro e w2 ⟨v, rfl, hrow, hB2, hc2⟩; obtain ⟨gr, capr, curr, rfl, hgr, hgb, hgc⟩ := row_ptrsG hrow (by omega); have DB := Lib.hid hB2; have C2 := Lib.hid (show Chg (fun b => b = Nb ∨ b = a 0) w w2 from (Chg.of_below B1.out).trans (hc2.mono fun b _ e => .inr e)); have NB2 := Lib.hid ((HH.out.b.below B1.out z).chg hc2 na0); have zN2 := NB2.out.lt; have q0 : w2.cell? ⟨Nb, 0, none⟩ = _ := NB2.out.cell 0; have q1 : w2.cell? ⟨Nb, 1, none⟩ = _ := NB2.out.cell 1; have q2 : w2.cell? ⟨Nb, 2, none⟩ = _ := NB2.out.cell 2; have q3 : w2.cell? ⟨Nb, 3, none⟩ = _ := NB2.out.cell 3; have q4 : w2.cell? ⟨Nb, 4, none⟩ = _ := NB2.out.cell 4; have f0 := NB2.out.frozen 0; have f1 := NB2.out.frozen 1; have f2 := NB2.out.frozen 2; have f3 := NB2.out.frozen 3; have f4 := NB2.out.frozen 4; have zg := hgb.lt; have nNg : ¬ Nb = gr := by have := B1.out.size; omega))
  have g0 := hgc 0 (by decide)
  have g1 := hgc 1 (by decide)
  clear hgc
  go_wp2
  refine wp_region_seq (fun _ => False) #[⟨0, 0, 68719476736, 1, 0⟩, ⟨0, 0, 137438953472, 1, 0⟩, ⟨0, 0, 274877906944, 1, 0⟩, ⟨4, 4, 549755813888, 274877906944, 0⟩, ⟨8, 12, 1099511627776, 549755813888, 0⟩, ⟨16, 28, 2199023255552, 1099511627776, 1⟩, ⟨32, 60, 4398046511104, 2199023255552, 0⟩, ⟨0, 0, 8796093022208, 1, 0⟩, ⟨128, 128, 17592186044416, 8796093022208, 0⟩, ⟨256, 384, 35184372088832, 17592186044416, 0⟩, ⟨512, 896, 70368744177664, 35184372088832, 1⟩, ⟨1024, 1920, 140737488355328, 70368744177664, 0⟩, ⟨1149, 2045, 281474976710656, 68719476736, 0⟩, ⟨5245, 6141, 562949953421312, 281474976710656, 0⟩, ⟨9341, 14333, 0, 567347999932416, 3⟩, ⟨32767, 32767, 1125899906842624, 137438953472, 0⟩, ⟨65535, 65535, 2251799813685248, 1125899906842624, 0⟩, ⟨98303, 131071, 0, 2392537302040576, 3⟩] 1056 [(0, 0), (1, 0), (2, 0), (3, 0), (4, 0), (5, 1), (6, 0), (7, 0), (8, 0), (9, 0), (10, 1), (11, 0), (12, 0), (13, 0), (14, 3), (15, 0), (16, 0), (17, 3)] (by kernel_rfl) (by kernel_rfl) (by kernel_rfl) (by kernel_rfl) (by kernel_rfl) (by kernel_rfl) (fun c a d v w h => by cases d <;> exact h) ?_
  refine zqC ?_; refine zqC ?_; refine zqC ?_; refine zqC ?_; refine zqC ?_
  refine zq1 Tryz.underlying3 ?_
  try refine zqP ?_; refine zqC ?_; refine zqC ?_; refine zqC ?_; refine zqC ?_
  refine zq1 Tryz.underlying3 ?_
  try refine zqP ?_; refine zqC ?_; refine zqC ?_; refine zqC ?_
  refine zqE fun K hK => ?_; go_wp2_with (fail); refine hK.out _ _ ?_; clear hK K
  try refine zqP ?_; refine zqC ?_; refine zqC ?_
  refine zqE fun K hK => ?_; go_wp2_with (fail); refine hK.out _ _ ?_; clear hK K
  try refine zqP ?_
  refine seq_nil ?_
  go_wp2
  refine wp_region_seq (fun _ => False) #[⟨0, 0, 4503599627370496, 1, 0⟩, ⟨1, 1, 9007199254740992, 4503599627370496, 0⟩, ⟨2, 3, 18014398509481984, 9007199254740992, 0⟩, ⟨4, 7, 36028797018963968, 18014398509481984, 1⟩, ⟨8, 15, 72057594037927936, 36028797018963968, 0⟩, ⟨0, 0, 144115188075855872, 1, 0⟩, ⟨32, 32, 288230376151711744, 144115188075855872, 0⟩, ⟨64, 96, 576460752303423488, 288230376151711744, 0⟩, ⟨128, 224, 1152921504606846976, 576460752303423488, 1⟩, ⟨0, 0, 2305843009213693952, 16, 0⟩, ⟨512, 512, 4611686018427387904, 2305843009213693952, 0⟩, ⟨1024, 1536, 9223372036854775808, 4611686018427387904, 1⟩, ⟨2320, 4095, 18446744073709551616, 10448351135499550720, 0⟩, ⟨4096, 8191, 36893488147419103232, 18446744073709551616, 3⟩, ⟨16383, 16383, 4, 36893488147419103232, 0⟩, ⟨32767, 32767, 8, 0, 0⟩] 2312 [(0, 0), (1, 0), (2, 0), (3, 1), (4, 0), (5, 0), (6, 0), (7, 0), (8, 1), (9, 0), (10, 0), (11, 1), (12, 0), (13, 3), (14, 0), (15, 0)] (by kernel_rfl) (by kernel_rfl) (by kernel_rfl) (by kernel_rfl) (by kernel_rfl) (by kernel_rfl) (fun c a d v w h => by cases d <;> exact h) ?_
  refine zqC ?_; refine zqC ?_; refine zqC ?_
  refine zq1 Tryz.underlying3 ?_
  try refine zqP ?_; refine zqC ?_; refine zqC ?_; refine zqC ?_; refine zqC ?_
  refine zq1 Tryz.underlying3 ?_
  try refine zqP ?_; refine zqC ?_; refine zqC ?_
  refine zq1 Tryz.underlying85 ?_
  try refine zqP ?_; refine zqC ?_
  refine zqE fun K hK => ?_; go_wp2_with (fail); refine hK.out _ _ ?_; clear hK K
  try refine zqP ?_; refine zqC ?_; refine zqC ?_
  refine seq_nil ?_
  go_wp2
  refine wp_end_at (fun Wf hWf => ?_)
  go_ret2
  obtain ⟨W5, hW5⟩ : ∃ W5 : World, W5 = ((((w2.setCell ⟨Nb, 2, none⟩ (.pointer (some ⟨a 8, 0, none⟩))).setCell ⟨Nb, 3, none⟩ (.int .i64 0)).setCell ⟨Nb, 4, none⟩ (.pointer none)).setCell ⟨Nb, 0, none⟩ (.int .i64 (2 * (x.p : Int)))).setCell ⟨Nb, 1, none⟩ (.int .i64 ((x.d : Int) + 1)) := ⟨_, rfl⟩
  have hz5 : W5.heap.size = w2.heap.size := by rw [hW5]; simp
  have hb5 : Blk W5 Nb 90 #[.int .i64 (2 * (x.p : Int)), .int .i64 ((x.d : Int) + 1), .pointer (some ⟨a 8, 0, none⟩), .int .i64 0, .pointer none] := by
    rw [hW5]; exact ((((NB2.out.set 2 _).set 3 _).set 4 _).set 0 _).set 1 _
  rw [← hW5] at hWf
  have hB5 : Below W5.heap.size W5 Wf := by rw [hWf]; exact (((Below.refl _ _).alloc (Nat.le_refl _) _).drew).drew
  have hn5 : Blk Wf w2.heap.size 90 #[.int .i64 (2 * (x.p : Int) + 1), .int .i64 ((x.d : Int) + 1), .pointer (some ⟨a 11, 0, none⟩), .int .i64 0, .pointer none] := by rw [hWf]; exact (Blk.new_at hz5.symm).drew.drew
  have hC5 : Chg (fun b => b = Nb) w2 W5 := by rw [hW5]; exact (((((Chg.refl _ _).set1 _ _).set1 _ _).set1 _ _).set1 _ _).set1 _ _
  have hCf : Chg (fun b => b = Nb) w2 Wf := hC5.trans (Chg.of_below hB5)
  have hw2 : w.heap.size ≤ w2.heap.size := C2.out.size
  have hw0 := HH.out.bel.size
  refine ⟨w2.heap.size, rfl, hw2, HEN.out w2 Wf 0 (2 * x.p) (x.d + 1) Nb hk0 DB.out (fun b => b = Nb) hCf (fun b e => by rw [e]; exact ⟨HH.out.n.1, N0.out⟩) ⟨HH.out.n.1, N0.out⟩ HP2.out.1 ?_,
    HEN.out w2 Wf 1 (2 * x.p + 1) (x.d + 1) w2.heap.size hk11 DB.out (fun b => b = Nb) hCf (fun b e => by rw [e]; exact ⟨HH.out.n.1, N0.out⟩) ⟨by omega, fun e => by have := NL.out _ e; omega⟩ HP2.out.2 ?_, C2.out.trans (hCf.mono fun b _ e => .inl e)⟩
  · push_cast
    exact hb5.below hB5 hb5.lt
  · push_cast
    exact hn5
end
end Go.Proofs.YtolhmibejhldkaaGreatDoor

namespace Go.Proofs.YtolhmibejhldkaaGreatDoor
open Go.RowKit Go.Proofs
attribute [local go_sem] neq_nilG eql_nilG
section
variable {w w' w0 : World} {Nb : Nat} {a : Nat → Nat} {x : NdS} {E : Nat → Addr}
def nodeA (B Q y : Nat) : Nat := if y = 1 then B else if y = 2 then Q else 0
set_option maxRecDepth 100000 in
set_option maxHeartbeats 8000000 in
theorem nodeNew_ok (p d : Nat) (hd : d ≤ 5) (hp : p < 2 ^ d) (he : EC w0 E [1, 2, 4, 5, 14, 16]) (hT : Tab64 w0) (hb : Below w0.heap.size w0 w) :
    Calls Tryz.prog 6 #[.int .i64 (p : Int), .int .i64 (d : Int)] w fun e w' => ∃ Nb a, e = .returned (.tuple #[.pointer (some ⟨Nb, 0, none⟩), .nilIface]) ∧ w.heap.size ≤ Nb ∧ ND w' Nb a (NdS.idle p d (TabS.new 1)) E w0 ∧ (∀ b, NX a (NdS.idle p d (TabS.new 1)) b → w.heap.size ≤ b) ∧ Below w.heap.size w w' := by
  have HE := Lib.hid he
  have HT := Lib.hid hT
  have HB := Lib.hid hb
  have HP := Lib.hid (And.intro hd hp)
  have N1 := Lib.hid (fun (w' : World) => tnew_ok 1 (by decide) w')
  simp only [show ((1 : Nat) : Int) = 1 from rfl] at N1
  have LO := Lib.hid (fun (w' : World) => low_ok p d (by omega) hp w')
  have h5 : ¬ (d : Int) > 5 := by omega
  have d5 : decide ((d : Int) > 5) = false := decide_eq_false h5
  generalize ((lowN p d : Nat) : Int) = lo at *
  clear he hT hb hp
  go_enter Tryz.func6, Tryz.ntmps6
  go_wp2_with (first | (go_at_call 36; (with_reducible refine (LO.out w).mono ?_); rintro e w1 ⟨rfl, rfl⟩) | (go_at_call 37; (with_reducible refine (N1.out w).mono ?_); rintro e w1 ⟨B, Q, rfl, hB, hQ, ht, hb1⟩; have S1 := Lib.hid (TMW.new (w0 := w0) (n := 1) (by decide) HE.out HT.out HB.out ht hb1 hB hQ); have B1 := Lib.hid hb1; clear ht hb1))
  refine wp_end_at (fun Wf hWf => ?_)
  go_ret2
  have hbf : Below w1.heap.size w1 Wf := by rw [hWf]; exact (Below.refl _ _).alloc (Nat.le_refl _) _
  have hn : Blk Wf w1.heap.size 90 #[.int .i64 (p : Int), .int .i64 (d : Int), .pointer (some ⟨B, 0, none⟩), .int .i64 0, .pointer none] := by rw [hWf]; exact Blk.new _ _ _
  have hw1 := B1.out.size
  have hw0 := HB.out.size
  have hX : ∀ b, NX (nodeA B Q) (NdS.idle p d (TabS.new 1)) b → b = B ∨ b = Q := fun b e => by
    rcases e with ⟨e, -⟩ | ⟨-, e⟩
    · cases e
    · exact e
  have hlB := S1.out.ltB
  have hlQ := S1.out.ltQ
  refine ⟨w1.heap.size, nodeA B Q, rfl, hw1, ⟨hn, fun _ => ⟨S1.out.later hbf, (show 0 < 1 * 64 by decide)⟩, fun e => (by cases e), ⟨by omega, fun b e => by rcases hX b e with e | e <;> omega⟩, HP.out⟩, fun b e => by rcases hX b e with e | e <;> omega, B1.out.trans (hbf.mono hw1)⟩
set_option maxRecDepth 100000 in
theorem ND.lenI (h : ND w Nb a x E w0) (hz : x.bz = false) : Calls Tryz.prog 35 #[.pointer (some ⟨Nb, 0, none⟩)] w fun e w' => e = .returned (.int .i64 x.s.T.lv) ∧ w = w' := by
  obtain ⟨c0, c1, c2, c3, c4, z⟩ := h.cells
  rw [if_neg (by rw [hz]; decide)] at c4
  have LE := Lib.hid (h.i hz).1.len
  clear h c0 c1 c3 hz
  go_enter Tryz.func35, Tryz.ntmps35
  go_wp2_with (go_at_call 47; (with_reducible refine LE.out.mono ?_); rintro e w1 ⟨rfl, rfl⟩)
  go_ret
  exact ⟨rfl, rfl⟩
set_option maxRecDepth 100000 in
theorem ND.groupsI (h : ND w Nb a x E w0) (hz : x.bz = false) : Calls Tryz.prog 34 #[.pointer (some ⟨Nb, 0, none⟩)] w fun e w' => e = .returned (.int .i64 (x.s.T.n : Int)) ∧ w = w' := by
  obtain ⟨c0, c1, c2, c3, c4, z⟩ := h.cells
  rw [if_neg (by rw [hz]; decide)] at c4
  have LE := Lib.hid (h.i hz).1.groups
  clear h c0 c1 c3 hz
  go_enter Tryz.func34, Tryz.ntmps34
  go_wp2_with (go_at_call 49; (with_reducible refine LE.out.mono ?_); rintro e w1 ⟨rfl, rfl⟩)
  go_ret
  exact ⟨rfl, rfl⟩
end
end Go.Proofs.YtolhmibejhldkaaGreatDoor

namespace Go.Proofs.YtolhmibejhldkaaGreatDoor
open Go.RowKit Go.Proofs
end Go.Proofs.YtolhmibejhldkaaGreatDoor

namespace Go.Proofs.YtolhmibejhldkaaGreatDoor
open Go.RowKit Go.Proofs
end Go.Proofs.YtolhmibejhldkaaGreatDoor

namespace Go.Proofs.YtolhmibejhldkaaGreatDoor
open Go.RowKit Go.Proofs
theorem within_ok (h p k : Nat) (hh : h < 18446744073709551616) (hk : k ≤ 16) (hp : p < 2 ^ k) (w : World) :
    Calls Tryz.prog 9 #[.int .u64 (h : Int), .int .i64 (p : Int), .int .i64 (k : Int)] w fun e w' => e = .returned (.bool (decide (topN h k = p))) ∧ w = w' := by
  have ht := Lib.hid (top_ok h k hh hk)
  have hpp := prefixed_any (p : Int) (k : Int)
  rw [decide_eq_true (show Pre (p : Int) (k : Int) from ⟨by omega, by omega, by simp; exact_mod_cast hp⟩)] at hpp
  have HPP := Lib.hid hpp
  have hd : decide (topN h k = p) = (((topN h k : Nat) : Int) == (p : Int)) := by rw [Bool.eq_iff_iff]; simp; omega
  rw [hd]
  generalize topN h k = t at *
  clear hd hpp hp hh
  go_enter Tryz.func9, Tryz.ntmps9
  go_wp2_with (first
    | (go_at_call 38; refine (ht.out _).mono ?_; rintro e w' ⟨rfl, rfl⟩)
    | (go_at_call 39; refine (HPP.out _).mono ?_; rintro e w' ⟨rfl, rfl⟩))
  go_ret
  exact ⟨rfl, rfl⟩
end Go.Proofs.YtolhmibejhldkaaGreatDoor

namespace Go.Proofs.YtolhmibejhldkaaGreatDoor
open Go.RowKit Go.Proofs
theorem pig : ∀ (n : Nat) (l : List Int), l.Nodup → (∀ x ∈ l, 0 ≤ x ∧ x < (n : Int)) → l.length ≤ n
  | 0, [], _, _ => Nat.le_refl _
  | 0, x :: l, _, h => by have := h x (List.mem_cons_self ..); omega
  | n + 1, l, hd, h => by
    have h1 := pig n (l.erase (n : Int)) (hd.erase _) (fun x hx => by
      obtain ⟨e1, e2⟩ := (hd.mem_erase_iff).1 hx
      have := h x e2
      omega)
    have h2 := List.length_erase (a := (n : Int)) (l := l)
    split at h2 <;> omega
theorem TFun.lv_le {T : TabS} {H : Int → Nat} (hT : TFun T H) (n : Nat) (h : ∀ q, T.has q (H q) = true → 0 ≤ q ∧ q < (n : Int)) : T.lv ≤ n := by
  rw [← ents_lv hT.good]
  have h1 : (T.ents.map (fun e => e.key)).Nodup := by
    have := hT.pw T.n (Nat.le_refl _)
    exact List.pairwise_map.2 this
  have h2 := pig n _ h1 (fun x hx => by
    obtain ⟨e, he, rfl⟩ := List.mem_map.1 hx
    exact h _ (mem_ents hT he).1)
  rw [List.length_map] at h2
  omega
def ndP (H : Int → Nat) (p d : Nat) (P : Int → Bool) (q : Int) : Bool := P q && decide (topN (H q) d = p)
def ndV (H : Int → Nat) (p d : Nat) (P : Int → Bool) (v : Int → Int) (q : Int) : EntS := if ndP H p d P q = true then ⟨q, v q, H q⟩ else EntS.zero
def qn (n : Nat) : Nat := (3 * n + 7) / 8
section
variable {x : NdS} {s : DuS} {H : Int → Nat} {P : Int → Bool} {v : Int → Int} {m1 m c : Int}
theorem DuL.congr {P P' : Int → Bool} {V V' : Int → EntS} (h : DuL s H m c P V) (hP : ∀ q, P q = P' q) (hV : ∀ q, V q = V' q) : DuL s H m c P' V' :=
  ⟨h.f, fun q => (h.p q).trans (hP q), fun q => (h.e q).trans (hV q), h.c, h.l1, h.l2, h.z⟩
theorem DuL.put_l1 {V : Int → EntS} (h : DuL s H m c P V) (q v : Int) : (s.put q v (H q) true).T.lv + ltSum (s.put q v (H q) true).U (s.put q v (H q) true).k ≤ s.T.lv + ltSum s.U s.k + 1 := by
  have hy := h.f.ok.yk (H q)
  have u1 : ltSum (upd s.U (s.y (H q)) ((s.U (s.y (H q))).putT q v (H q))) s.k ≤ ltSum s.U s.k + 1 := by
    rw [ltSum_upd h.k12 hy]
    have := put_lt (T := s.U (s.y (H q))) q v (H q)
    split at this <;> omega
  have t1 : (s.T.putT q v (H q)).lv ≤ s.T.lv + 1 := by
    rw [(h.f.t.put_lv q v).1]; split <;> omega
  unfold DuS.put
  split
  · show s.T.lv + ltSum (upd s.U (s.y (H q)) _) s.k ≤ _; omega
  · split
    · show (s.T.putT q v (H q)).lv + ltSum s.U s.k ≤ _; omega
    · split
      · show s.T.lv + ltSum s.U s.k ≤ _; omega
      · split
        · show s.T.lv + ltSum (upd s.U (s.y (H q)) _) s.k ≤ _; omega
        · show (s.T.putT q v (H q)).lv + ltSum s.U s.k ≤ _; omega
theorem DuL.del_l1 {V : Int → EntS} (h : DuL s H m c P V) (q : Int) : (s.del q (H q)).T.lv + ltSum (s.del q (H q)).U (s.del q (H q)).k ≤ s.T.lv + ltSum s.U s.k := by
  have hy := h.f.ok.yk (H q)
  have u1 : ltSum (upd s.U (s.y (H q)) ((s.U (s.y (H q))).delT q (H q))) s.k ≤ ltSum s.U s.k := by
    rw [ltSum_upd h.k12 hy]
    have := del_lt (T := s.U (s.y (H q))) q (H q)
    omega
  have t1 : (s.T.delT q (H q)).lv ≤ s.T.lv := by rw [del_lv]; split <;> omega
  unfold DuS.del
  split
  · show s.T.lv + ltSum (upd s.U (s.y (H q)) _) s.k ≤ _; omega
  · show (s.T.delT q (H q)).lv + ltSum s.U s.k ≤ _; omega
theorem DuL.stp_l1 {V : Int → EntS} (h : DuL s H m c P V) (hHb : ∀ q, H q < 18446744073709551616) (hm : m ≤ 7 * (s.gn : Int)) : s.stp.T.lv + ltSum s.stp.U s.stp.k ≤ s.T.lv + ltSum s.U s.k := by
  unfold DuS.stp
  by_cases h0 : s.bare = 0
  · rw [if_pos h0]
    by_cases hn : s.nx < s.T.n
    · rw [if_pos hn]
      have h' : DuL s H (s.T.lv + ltSum s.U s.k) c P V := ⟨h.f, h.p, h.e, h.c, Int.le_refl _, fun hb => by omega, h.z⟩
      exact (h'.move hHb (Int.le_trans h.l1 hm) h0 hn).2.l1
    · rw [if_neg hn]; exact Int.le_refl _
  · rw [if_neg h0]; exact Int.le_refl _
structure NF (x : NdS) (H : Int → Nat) (P : Int → Bool) (v : Int → Int) (m1 m : Int) : Prop where
  l : ∃ c, DuL x.s H m c (ndP H x.p x.d P) (ndV H x.p x.d P v)
  l1 : x.bz = true → x.s.T.lv + ltSum x.s.U x.s.k ≤ m1
  i : x.bz = false → x.s.gn = 64 ∧ 0 < x.s.bare
  u : x.bz = true → (x.job = 1 ∧ x.s.k = 1 ∧ x.s.gn = x.s.T.n) ∨ (x.job = 2 ∧ x.s.k = 1 ∧ x.s.gn = 2 * x.s.T.n) ∨ (x.job = 3 ∧ x.s.k = 2 ∧ x.s.d = x.d ∧ x.s.gn = x.s.T.n ∧ x.d < 5 ∧ 8 ≤ x.s.T.n)
  hd : x.d ≤ 5 ∧ (x.d = 0 ∨ 8 ≤ x.s.T.n)
def NdS.tot (x : NdS) : Nat := x.s.k * x.s.gn + x.s.T.n
def NdS.m0 (x : NdS) : Int := 4 * (x.s.T.n : Int) + ((x.d * qn x.s.T.n : Nat) : Int)
def NdS.mj (x : NdS) : Int := if x.job = 1 then 2 * (x.s.T.n : Int) else x.m0
def NA (x : NdS) (H : Int → Nat) (P : Int → Bool) (v : Int → Int) : Prop :=
  (x.bz = false ∧ NF x H P v 0 (x.m0 - 1)) ∨ (x.bz = true ∧ ∃ j : Nat, NF x H P v (x.mj + j) (x.m0 + j) ∧ 0 < x.s.left ∧ x.s.left + 8 * (j + 1) ≤ x.tot)
def NO (x : NdS) (H : Int → Nat) (P : Int → Bool) (v : Int → Int) : Prop :=
  (x.bz = false ∧ NF x H P v 0 x.m0) ∨ (x.bz = true ∧ ∃ j : Nat, NF x H P v (x.mj + j) (x.m0 + j) ∧ 0 < x.s.left ∧ x.s.left + 8 * j ≤ x.tot)
theorem qn_mul (d n : Nat) (hd : d ≤ 5) : d * qn n ≤ 5 * qn n := Nat.mul_le_mul_right _ hd
theorem qn_le (n : Nat) : 8 * qn n ≤ 3 * n + 7 ∧ 3 * n ≤ 8 * qn n := by unfold qn; omega
theorem NF.room {m' : Int} (h : NF x H P v m1 m') {j : Nat} (hm : m' ≤ x.m0 + j) (hj : 8 * j < 3 * x.s.T.n) (hi : x.bz = false → j = 0) : m' < 7 * (x.s.gn : Int) ∧ m' < 7 * (x.s.T.n : Int) := by
  obtain ⟨c, hl⟩ := h.l
  have hb := hl.f.t.good.bounds
  have h1 := qn_mul x.d x.s.T.n h.hd.1
  have h2 := qn_le x.s.T.n
  have h3 : m' < 7 * (x.s.T.n : Int) := by
    unfold NdS.m0 at hm
    rcases h.hd.2 with e | e
    · rw [e, Nat.zero_mul] at hm; omega
    · omega
  refine ⟨?_, h3⟩
  cases hz : x.bz with
  | false => rw [(h.i hz).1]; omega
  | true => rcases h.u hz with e | e | e <;> omega
end
end Go.Proofs.YtolhmibejhldkaaGreatDoor

namespace Go.Proofs.YtolhmibejhldkaaGreatDoor
open Go.RowKit Go.Proofs
section
variable {x : NdS} {s : DuS} {H : Int → Nat} {P P' : Int → Bool} {v v' : Int → Int} {m1 m c : Int}
theorem put_d (s : DuS) (q v : Int) (h : Nat) (more : Bool) : (s.put q v h more).d = s.d := by
  unfold DuS.put
  split
  · rfl
  · split
    · rfl
    · split
      · rfl
      · split <;> rfl
theorem del_d (s : DuS) (q : Int) (h : Nat) : (s.del q h).d = s.d := by unfold DuS.del; split <;> rfl
def SameS (s s' : DuS) : Prop := s'.k = s.k ∧ s'.d = s.d ∧ s'.gn = s.gn ∧ s'.T.n = s.T.n ∧ s'.bare = s.bare ∧ s'.nx = s.nx
theorem SameS.put (s : DuS) (q v : Int) (h : Nat) (more : Bool) : SameS s (s.put q v h more) := by
  obtain ⟨a1, a2, a3⟩ := put_gn s q v h more
  obtain ⟨b1, b2⟩ := put_kb s q v h more
  exact ⟨b1, put_d s q v h more, a1, a2, b2, a3⟩
theorem SameS.del (s : DuS) (q : Int) (h : Nat) : SameS s (s.del q h) := by
  obtain ⟨a1, a2, a3⟩ := del_gn s q h
  obtain ⟨b1, b2⟩ := del_kb s q h
  exact ⟨b1, del_d s q h, a1, a2, b2, a3⟩
theorem SameS.nums {s' : DuS} (h : SameS x.s s') : NdS.tot { x with s := s' } = x.tot ∧ NdS.m0 { x with s := s' } = x.m0 ∧ NdS.mj { x with s := s' } = x.mj ∧ s'.left = x.s.left := by
  obtain ⟨h1, h2, h3, h4, h5, h6⟩ := h
  unfold NdS.tot NdS.mj NdS.m0 DuS.left
  simp only [h1, h3, h4, h5, h6]
  exact ⟨trivial, trivial, trivial, trivial⟩
theorem NF.same {s' : DuS} {m1' m' : Int} (h : NF x H P v m1 m) (hs : SameS x.s s') (hl : ∃ c, DuL s' H m' c (ndP H x.p x.d P') (ndV H x.p x.d P' v')) (h1 : s'.T.lv + ltSum s'.U s'.k ≤ x.s.T.lv + ltSum x.s.U x.s.k + 1) (hm : m1 + 1 ≤ m1') : NF { x with s := s' } H P' v' m1' m' := by
  obtain ⟨e1, e2, e3, e4, e5, e6⟩ := hs
  refine ⟨hl, fun e => ?_, fun e => ?_, fun e => ?_, ?_⟩
  · have := h.l1 e
    show s'.T.lv + ltSum s'.U s'.k ≤ m1'
    omega
  · have := h.i e
    show s'.gn = 64 ∧ 0 < s'.bare
    rw [e3, e5]; exact this
  · have := h.u e
    show (x.job = 1 ∧ s'.k = 1 ∧ s'.gn = s'.T.n) ∨ (x.job = 2 ∧ s'.k = 1 ∧ s'.gn = 2 * s'.T.n) ∨ (x.job = 3 ∧ s'.k = 2 ∧ s'.d = x.d ∧ s'.gn = s'.T.n ∧ x.d < 5 ∧ 8 ≤ s'.T.n)
    rw [e1, e2, e3, e4]; exact this
  · have := h.hd
    show x.d ≤ 5 ∧ (x.d = 0 ∨ 8 ≤ s'.T.n)
    rw [e4]; exact this
theorem NF.put {m1' m' : Int} (h : NF x H P v m1 m) (hm : m < 7 * (x.s.gn : Int) ∧ m < 7 * (x.s.T.n : Int)) (hHb : ∀ q, H q < 18446744073709551616) (q val : Int) (hq : topN (H q) x.d = x.p) (h1 : m1 + 1 ≤ m1') (h2 : m + 1 ≤ m') :
    x.s.putB q (H q) true = !P q ∧ x.s.putN q (H q) true = 0 ∧ NF { x with s := x.s.put q val (H q) true } H (putP P q true) (fun q' => if q' = q then val else v q') m1' m' := by
  obtain ⟨c, hl⟩ := h.l
  have hk : DuK x.s H x.s.T.n x.s.gn m c (ndP H x.p x.d P) (ndV H x.p x.d P v) := ⟨hl, rfl, rfl⟩
  have hok := hk.okm hm.1 hm.2 q
  have hb := hl.f.putB_eq q
  rw [hok, hl.p q, if_pos rfl, Bool.and_true] at hb
  have hpq : ndP H x.p x.d P q = P q := by unfold ndP; rw [decide_eq_true hq, Bool.and_true]
  rw [hpq] at hb
  refine ⟨hb.1, hb.2, h.same (SameS.put _ _ _ _ _) ⟨_, ((hk.put hm.1 hm.2 q val (hHb q)).l.congr (fun q' => ?_) (fun q' => ?_)).more h2⟩ (hl.put_l1 q val) h1⟩
  · unfold putP ndP
    by_cases e : q' = q
    · subst e; simp [hq]
    · simp [e]
  · unfold putV ndV ndP putP
    by_cases e : q' = q
    · subst e; simp [hq]
    · simp [e]
theorem NF.del {m1' : Int} (h : NF x H P v m1 m) (q : Int) (hq : topN (H q) x.d = x.p) (h1 : m1 + 1 ≤ m1') :
    x.s.has q (H q) = P q ∧ NF { x with s := x.s.del q (H q) } H (putP P q false) v m1' m := by
  obtain ⟨c, hl⟩ := h.l
  have hpq : ndP H x.p x.d P q = P q := by unfold ndP; rw [decide_eq_true hq, Bool.and_true]
  refine ⟨(hl.p q).trans hpq, h.same (SameS.del _ _ _) ⟨_, (hl.del q).congr (fun q' => ?_) (fun q' => ?_)⟩ (by have := hl.del_l1 q; omega) h1⟩
  · unfold putP ndP
    by_cases e : q' = q
    · subst e; simp
    · simp [e]
  · unfold putV ndV ndP putP
    by_cases e : q' = q
    · subst e; simp
    · simp [e]
theorem NF.more {m1' m' : Int} (h : NF x H P v m1 m) (h1 : m1 ≤ m1') (h2 : m ≤ m') : NF x H P v m1' m' := by
  obtain ⟨c, hl⟩ := h.l
  exact ⟨⟨c, hl.more h2⟩, fun e => Int.le_trans (h.l1 e) h1, h.i, h.u, h.hd⟩
theorem NF.tot3 (h : NF x H P v m1 m) (hz : x.bz = true) : x.tot ≤ 3 * x.s.T.n := by
  unfold NdS.tot
  rcases h.u hz with ⟨-, e1, e2⟩ | ⟨-, e1, e2⟩ | ⟨-, e1, -, e2, -, -⟩ <;> rw [e1, e2] <;> omega
theorem NF.other (h : NF x H P v m1 m) (hc : ∀ q, topN (H q) x.d = x.p → P' q = P q ∧ v' q = v q) : NF x H P' v' m1 m := by
  obtain ⟨c, hl⟩ := h.l
  refine ⟨⟨c, hl.congr (fun q => ?_) (fun q => ?_)⟩, h.l1, h.i, h.u, h.hd⟩
  · unfold ndP
    by_cases e : topN (H q) x.d = x.p
    · rw [(hc q e).1]
    · rw [decide_eq_false e, Bool.and_false, Bool.and_false]
  · unfold ndV ndP
    by_cases e : topN (H q) x.d = x.p
    · rw [(hc q e).1, (hc q e).2]
    · rw [decide_eq_false e, Bool.and_false, Bool.and_false]; simp
theorem NA.other (h : NA x H P v) (hc : ∀ q, topN (H q) x.d = x.p → P' q = P q ∧ v' q = v q) : NA x H P' v' := by
  rcases h with ⟨h1, h2⟩ | ⟨h1, j, h2, h3⟩
  · exact .inl ⟨h1, h2.other hc⟩
  · exact .inr ⟨h1, j, h2.other hc, h3⟩
theorem NA.put (h : NA x H P v) (hHb : ∀ q, H q < 18446744073709551616) (q val : Int) (hq : topN (H q) x.d = x.p) :
    x.s.putB q (H q) true = !P q ∧ x.s.putN q (H q) true = 0 ∧ NO { x with s := x.s.put q val (H q) true } H (putP P q true) (fun q' => if q' = q then val else v q') := by
  obtain ⟨n1, n2, n3, n4⟩ := (SameS.put x.s q val (H q) true).nums (x := x)
  rcases h with ⟨hz, h2⟩ | ⟨hz, j, h2, h3, h4⟩
  · obtain ⟨c, hl⟩ := h2.l
    have hb := hl.f.t.good.bounds
    obtain ⟨a1, a2, a3⟩ := h2.put (m1' := 1) (m' := x.m0) (h2.room (j := 0) (by omega) (by omega) (fun _ => rfl)) hHb q val hq (by omega) (by omega)
    refine ⟨a1, a2, .inl ⟨hz, ?_⟩⟩
    rw [n2]
    exact ⟨a3.l, fun e => (by rw [show x.bz = true from e] at hz; cases hz), a3.i, a3.u, a3.hd⟩
  · have ht := h2.tot3 hz
    obtain ⟨a1, a2, a3⟩ := h2.put (m1' := x.mj + ((j + 1 : Nat) : Int)) (m' := x.m0 + ((j + 1 : Nat) : Int)) (h2.room (j := j) (by omega) (by omega) (fun e => (by rw [hz] at e; cases e))) hHb q val hq (by omega) (by omega)
    refine ⟨a1, a2, .inr ⟨hz, j + 1, ?_, ?_, ?_⟩⟩
    · rw [n2, n3]; exact a3
    · show 0 < (x.s.put q val (H q) true).left; rw [n4]; exact h3
    · show (x.s.put q val (H q) true).left + 8 * (j + 1) ≤ _; rw [n4, n1]; exact h4
theorem NA.del (h : NA x H P v) (q : Int) (hq : topN (H q) x.d = x.p) :
    x.s.has q (H q) = P q ∧ NO { x with s := x.s.del q (H q) } H (putP P q false) v := by
  obtain ⟨n1, n2, n3, n4⟩ := (SameS.del x.s q (H q)).nums (x := x)
  rcases h with ⟨hz, h2⟩ | ⟨hz, j, h2, h3, h4⟩
  · obtain ⟨a1, a3⟩ := h2.del (m1' := 1) q hq (by omega)
    refine ⟨a1, .inl ⟨hz, ?_⟩⟩
    rw [n2]
    have a4 := a3.more (Int.le_refl _) (show x.m0 - 1 ≤ x.m0 by omega)
    exact ⟨a4.l, fun e => (by rw [show x.bz = true from e] at hz; cases hz), a4.i, a4.u, a4.hd⟩
  · obtain ⟨a1, a3⟩ := h2.del (m1' := x.mj + ((j + 1 : Nat) : Int)) q hq (by omega)
    refine ⟨a1, .inr ⟨hz, j + 1, ?_, ?_, ?_⟩⟩
    · rw [n2, n3]; exact a3.more (Int.le_refl _) (by omega)
    · show 0 < (x.s.del q (H q)).left; rw [n4]; exact h3
    · show (x.s.del q (H q)).left + 8 * (j + 1) ≤ _; rw [n4, n1]; exact h4
end
end Go.Proofs.YtolhmibejhldkaaGreatDoor

namespace Go.Proofs.YtolhmibejhldkaaGreatDoor
open Go.RowKit Go.Proofs
section
variable {x : NdS} {s : DuS} {H : Int → Nat} {P P' : Int → Bool} {v v' : Int → Int} {m1 m c : Int}
def NG (k : Nat) (x : NdS) (H : Int → Nat) (P : Int → Bool) (v : Int → Int) : Prop :=
  (x.bz = false ∧ NF x H P v 0 (x.m0 - 1)) ∨ (x.bz = true ∧ ∃ j : Nat, NF x H P v (x.mj + j) (x.m0 + j) ∧ 8 * j < x.tot ∧ (x.s.left = 0 ∨ x.s.left + 8 * j + k ≤ x.tot))
theorem whichF_cases {l t g lo gl : Int} (hf : fineB l t g lo gl = true) : (whichF l t g lo gl = 0 ∧ l < 4 * g ∧ l + t < 4 * g) ∨ (4 * g ≤ l + t ∨ 4 * g ≤ l) ∧ ((whichF l t g lo gl = 1 ∧ (l ≤ 2 * g ∨ 64 ≤ g)) ∨ (whichF l t g lo gl = 2 ∧ g < 64) ∨ (whichF l t g lo gl = 3 ∧ 8 ≤ g ∧ lo < gl)) := by
  unfold whichF
  by_cases hn : needsB l t g = true
  · rw [if_pos ⟨hf, hn⟩]
    right
    rw [needsB_iff] at hn
    refine ⟨by omega, ?_⟩
    split
    · exact .inl ⟨rfl, .inl (by assumption)⟩
    · split
      · rename_i h1; exact .inr (.inr ⟨rfl, h1⟩)
      · split
        · exact .inr (.inl ⟨rfl, by assumption⟩)
        · exact .inl ⟨rfl, .inr (by omega)⟩
  · rw [if_neg (fun e => hn e.2)]
    left
    rw [needsB_iff] at hn
    exact ⟨rfl, by omega, by omega⟩
theorem NF.begun {kind : Int} {k d gn : Nat} (h : NF x H P v 0 x.m0) (hz : x.bz = false) (hk : k = 1 ∨ (k = 2 ∧ d ≤ 15)) (hr : rightB (gn : Int) = true)
    (hu : (kind = 1 ∧ k = 1 ∧ gn = x.s.T.n ∧ x.s.T.lv ≤ 2 * (x.s.T.n : Int)) ∨ (kind = 2 ∧ k = 1 ∧ gn = 2 * x.s.T.n) ∨ (kind = 3 ∧ k = 2 ∧ d = x.d ∧ gn = x.s.T.n ∧ x.d < 5 ∧ 8 ≤ x.s.T.n)) : NG 0 { x with job := kind, bz := true, s := DuS.newS k d gn x.s.T } H P v := by
  obtain ⟨c, hl⟩ := h.l
  have hbd := hl.f.t.good.bounds
  have hb0 := (h.i hz).2
  have hm := hl.l2 hb0
  have hi := fun q => (idle_has hb0 q (H q))
  have hnew := DuL.new (k := k) (d := d) (gn := gn) hk hr hl.f.t hm
  have hk' : k = 1 ∨ k = 2 := by omega
  have z2 : ltSum (fun _ => TabS.new gn) k = 0 := by rcases hk' with rfl | rfl; rw [ltSum_one]; rfl; rw [ltSum_two]; rfl
  have hgn : 1 ≤ gn := by rw [rightB_iff] at hr; omega
  have e1 : NdS.m0 { x with job := kind, bz := true, s := DuS.newS k d gn x.s.T } = x.m0 := rfl
  have e2 : NdS.mj { x with job := kind, bz := true, s := DuS.newS k d gn x.s.T } = if kind = 1 then 2 * (x.s.T.n : Int) else x.m0 := rfl
  have e3 : NdS.tot { x with job := kind, bz := true, s := DuS.newS k d gn x.s.T } = k * gn + x.s.T.n := rfl
  have e4 : DuS.left (DuS.newS k d gn x.s.T) = k * gn + x.s.T.n := by
    unfold DuS.left
    show k * gn + (x.s.T.n - 0) = _
    rw [Nat.sub_zero]
  refine .inr ⟨rfl, 0, ⟨⟨_, hnew.congr (fun q => ?_) (fun q => ?_) |>.more (by rw [e1]; omega)⟩, fun _ => ?_, fun e => (by cases e), fun _ => ?_, h.hd⟩, by rw [e3]; omega, .inr ?_⟩
  · show x.s.T.has q (H q) = _
    rw [← (hi q).1, hl.p]
  · show x.s.T.ent q (H q) = _
    rw [← (hi q).2, hl.e]
  · show x.s.T.lv + ltSum (fun _ => TabS.new gn) k ≤ _
    rw [z2, e2]
    rcases hu with ⟨e, -, -, e5⟩ | ⟨e, -, -⟩ | ⟨e, -⟩
    · rw [if_pos e]; omega
    · rw [if_neg (by omega)]; omega
    · rw [if_neg (by omega)]; omega
  · rcases hu with ⟨a1, a2, a3, -⟩ | a1 | a1
    · exact .inl ⟨a1, a2, a3⟩
    · exact .inr (.inl a1)
    · exact .inr (.inr a1)
  · show DuS.left (DuS.newS k d gn x.s.T) + _ ≤ _
    rw [e3, e4]; omega
theorem NO.start (h : NO x H P v) (g n : Nat) (hg : g ≤ 5) (hn : n ≤ 128) (hP : ∀ q, P q = true → 0 ≤ q ∧ q < (n : Int)) :
    (x.wants (g : Int) = 0 ∧ NG 0 x H P v) ∨ (x.wants (g : Int) ≠ 0 ∧ x.bz = false ∧ badF (x.wants (g : Int)) (x.s.T.n : Int) = 0 ∧ (x.wants (g : Int) = 3 → x.d < 5) ∧ NG 0 (x.sta (x.wants (g : Int))) H P v) := by
  unfold NdS.wants
  rcases h with ⟨hz, h⟩ | ⟨hz, j, h2, h3, h4⟩
  · rw [if_neg (by rw [hz]; decide)]
    obtain ⟨c, hl⟩ := h.l
    have hT := hl.f.t
    have hb := hT.good.bounds
    have hr := hT.good.right
    have hb0 := (h.i hz).2
    have hlv := hT.lv_le n (fun q hq => by
      rw [← (idle_has hb0 q (H q)).1, hl.p] at hq
      unfold ndP at hq
      exact hP q (by cases e : P q <;> simp [e] at hq ⊢))
    have hf : fineB x.s.T.lv x.s.T.tb (x.s.T.n : Int) (x.d : Int) (g : Int) = true := by rw [fineB_iff]; exact ⟨hr, by omega, by omega, by omega, by omega⟩
    rcases whichF_cases hf with ⟨e, e1, e2⟩ | ⟨-, e⟩
    · rw [e]
      refine .inl ⟨rfl, .inl ⟨hz, ⟨⟨c, ⟨hl.f, hl.p, hl.e, hl.c, ?_, fun _ => ?_, hl.z⟩⟩, h.l1, h.i, h.u, h.hd⟩⟩⟩
      · have hu := (hl.f.ok.pre hb0).2
        have z2 : ltSum x.s.U x.s.k = 0 := by
          rcases hl.k12 with e | e
          · rw [e, ltSum_one, hu 0 (by omega)]; rfl
          · rw [e, ltSum_two, hu 0 (by omega), hu 1 (by omega)]; rfl
        rw [z2]; unfold NdS.m0; omega
      · unfold NdS.m0; omega
    · right
      generalize whichF x.s.T.lv x.s.T.tb (x.s.T.n : Int) (x.d : Int) (g : Int) = kind at *
      have hd := h.hd
      rcases e with ⟨rfl, e⟩ | ⟨rfl, e⟩ | ⟨rfl, e1, e2⟩
      · exact ⟨by decide, hz, badF_of (.inl rfl) hr (fun e => (by omega)), fun e => (by omega), h.begun (kind := 1) (k := 1) (d := 0) (gn := x.s.T.n) hz (.inl rfl) hr (.inl ⟨rfl, rfl, rfl, by omega⟩)⟩
      · exact ⟨by decide, hz, badF_of (.inr (.inl rfl)) hr (fun _ => e), fun e => (by omega), h.begun (kind := 2) (k := 1) (d := 0) (gn := 2 * x.s.T.n) hz (.inl rfl) (by have := right_twice hr e; simpa using this) (.inr (.inl ⟨rfl, rfl, rfl⟩))⟩
      · exact ⟨by decide, hz, badF_of (.inr (.inr rfl)) hr (fun e => (by omega)), fun _ => (by omega), h.begun (kind := 3) (k := 2) (d := x.d) (gn := x.s.T.n) hz (.inr ⟨rfl, by omega⟩) hr (.inr (.inr ⟨rfl, rfl, rfl, rfl, by omega, by omega⟩))⟩
  · rw [if_pos hz]
    exact .inl ⟨rfl, .inr ⟨hz, j, h2, by omega, .inr (by omega)⟩⟩
theorem NG.stp {k : Nat} (h : NG k x H P v) (hHb : ∀ q, H q < 18446744073709551616) : (x.bz = true → x.s.evOk) ∧ NG (k + 1) x.stp H P v := by
  unfold NdS.stp
  rcases h with ⟨hz, h⟩ | ⟨hz, j, h, hj, h3⟩
  · rw [if_neg (by rw [hz]; decide)]
    exact ⟨fun e => (by rw [hz] at e; cases e), .inl ⟨hz, h⟩⟩
  · rw [if_pos hz]
    obtain ⟨c, hl⟩ := h.l
    have hb := hl.f.t.good.bounds
    have ht := h.tot3 hz
    have hr := h.room (j := j) (by omega) (by omega) (fun e => (by rw [hz] at e; cases e))
    have hk : DuK x.s H x.s.T.n x.s.gn (x.m0 + j) c (ndP H x.p x.d P) (ndV H x.p x.d P v) := ⟨hl, rfl, rfl⟩
    obtain ⟨s1, s2, s3⟩ := hk.stp hHb (by omega)
    have hl1 := hl.stp_l1 hHb (by omega)
    have hkd : x.s.stp.k = x.s.k ∧ x.s.stp.d = x.s.d := by
      unfold DuS.stp
      split
      · split <;> exact ⟨rfl, rfl⟩
      · exact ⟨rfl, rfl⟩
    obtain ⟨e1, e2⟩ := hkd
    obtain ⟨e3, e4⟩ := s2.n
    have n1 : NdS.tot { x with s := x.s.stp } = x.tot := by unfold NdS.tot; simp only [e1, e3, e4]
    have n2 : NdS.m0 { x with s := x.s.stp } = x.m0 := by unfold NdS.m0; simp only [e4]
    have n3 : NdS.mj { x with s := x.s.stp } = x.mj := by unfold NdS.mj NdS.m0; simp only [e4]
    refine ⟨fun _ => s1, .inr ⟨hz, j, ⟨⟨c, by rw [n2]; exact s2.l⟩, fun _ => ?_, fun e => ?_, fun _ => ?_, ?_⟩, by rw [n1]; exact hj, ?_⟩⟩
    · rw [n3]
      have := h.l1 hz
      show x.s.stp.T.lv + ltSum x.s.stp.U x.s.stp.k ≤ _
      omega
    · exact absurd (show x.bz = false from e) (by rw [hz]; decide)
    · have := h.u hz
      show (x.job = 1 ∧ x.s.stp.k = 1 ∧ x.s.stp.gn = x.s.stp.T.n) ∨ (x.job = 2 ∧ x.s.stp.k = 1 ∧ x.s.stp.gn = 2 * x.s.stp.T.n) ∨ (x.job = 3 ∧ x.s.stp.k = 2 ∧ x.s.stp.d = x.d ∧ x.s.stp.gn = x.s.stp.T.n ∧ x.d < 5 ∧ 8 ≤ x.s.stp.T.n)
      rw [e1, e2, e3, e4]; exact this
    · have := h.hd
      show x.d ≤ 5 ∧ (x.d = 0 ∨ 8 ≤ x.s.stp.T.n)
      rw [e4]; exact this
    · show x.s.stp.left = 0 ∨ x.s.stp.left + 8 * j + (k + 1) ≤ _
      rw [n1, s3]
      omega
end
end Go.Proofs.YtolhmibejhldkaaGreatDoor

namespace Go.Proofs.YtolhmibejhldkaaGreatDoor
open Go.RowKit Go.Proofs
theorem topN_halfN (h d : Nat) (hd : d < 64) : topN h d = topN h (d + 1) / 2 := by
  unfold topN
  rw [Nat.div_div_eq_div_mul, ← Nat.pow_succ, show (64 - (d + 1)).succ = 64 - d by omega]
section
variable {x : NdS} {s : DuS} {H : Int → Nat} {P P' : Int → Bool} {v v' : Int → Int} {m1 m c : Int}
theorem NG.notDone (h : NG 8 x H P v) (hd : (x.bz && decide (x.s.left = 0)) = false) : NA x H P v := by
  rcases h with h | ⟨hz, j, h1, h2, h3⟩
  · exact .inl h
  · rw [hz, Bool.true_and, decide_eq_false_iff_not] at hd
    exact .inr ⟨hz, j, h1, by omega, by omega⟩
theorem DuL.fin {V : Int → EntS} (h : DuL s H m c P V) (hn : s.left = 0) (i : Nat) (hi : i < s.k) : ∀ q, (s.U i).has q (H q) = (P q && decide (tIx s.k s.d (H q) = i)) ∧ (s.U i).ent q (H q) = if (P q && decide (tIx s.k s.d (H q) = i)) = true then V q else EntS.zero := fun q => by
  have hb : s.bare = 0 ∧ s.T.n ≤ s.nx := by unfold DuS.left at hn; omega
  have hT : s.T.has q (H q) = false := by
    rw [← Bool.not_eq_true, h.f.t.has_iff]
    rintro ⟨g, k, ha⟩
    have h1 := h.z q g k ha
    have h2 := ha.hg
    omega
  have hp := h.p q
  have he := h.e q
  rw [h.f.has_eq, hT, Bool.or_false] at hp
  rw [h.f.ent_eq] at he
  have hs := h.f.u.side i hi q
  have hne := TFun.ent_not (T := s.U i) (i := q) (h := H q)
  have hy : s.y (H q) = tIx s.k s.d (H q) := rfl
  rw [hy] at hp he
  by_cases e : tIx s.k s.d (H q) = i
  · rw [e] at hp he
    rw [decide_eq_true e, Bool.and_true, ← hp]
    refine ⟨rfl, ?_⟩
    cases c1 : (s.U i).has q (H q) with
    | true => rw [c1, if_pos rfl] at he; rw [if_pos rfl]; exact he
    | false => rw [if_neg (by decide)]; exact hne c1
  · rw [decide_eq_false e, Bool.and_false, if_neg (by decide)]
    have c1 : (s.U i).has q (H q) = false := by
      cases c1 : (s.U i).has q (H q) with
      | true => exact absurd (hs c1) e
      | false => rfl
    exact ⟨c1, hne c1⟩
theorem DuL.idle {V : Int → EntS} {T : TabS} {V' : Int → EntS} {P' : Int → Bool} (hT : TFun T H) (hP : ∀ q, T.has q (H q) = P' q) (hV : ∀ q, T.ent q (H q) = V' q) (hm : T.lv + T.tb ≤ m) : DuL (DuS.newS 1 0 64 T) H m T.lv P' V' :=
  (DuL.new (k := 1) (d := 0) (gn := 64) (.inl rfl) (by decide) hT hm).congr hP hV
theorem NG.fin (h : NG 8 x H P v) (hz : x.bz = true) (hn : x.s.left = 0) (i p d : Nat) (hi : i < x.s.k) (hd : d ≤ 5 ∧ (d = 0 ∨ 8 ≤ x.s.gn))
    (hp : ∀ q, (ndP H x.p x.d P q && decide (tIx x.s.k x.s.d (H q) = i)) = ndP H p d P q) (hm : ∀ j : Nat, 8 * j < x.tot → x.mj + j ≤ 4 * (x.s.gn : Int) + ((d * qn x.s.gn : Nat) : Int) - 1) : NA (NdS.idle p d (x.s.U i)) H P v := by
  rcases h with ⟨e, -⟩ | ⟨-, j, h1, h2, h3⟩
  · rw [hz] at e; cases e
  · obtain ⟨c, hl⟩ := h1.l
    have hf := hl.fin hn i hi
    have hg := (hl.f.ok.u i hi).2
    have hle := ltSum_le hl.k12 hi hl.u0
    have hl1 := h1.l1 hz
    have hlv := hl.f.t.good.bounds
    have hmj := hm j h2
    have e0 : NdS.m0 (NdS.idle p d (x.s.U i)) = 4 * (x.s.gn : Int) + ((d * qn x.s.gn : Nat) : Int) := by
      show 4 * ((x.s.U i).n : Int) + ((d * qn (x.s.U i).n : Nat) : Int) = _
      rw [hg]
    refine .inl ⟨rfl, ⟨⟨_, DuL.idle (V := fun _ => EntS.zero) (hl.f.u.f i hi) (fun q => (hf q).1.trans (hp q)) (fun q => (hf q).2.trans ?_) ?_⟩, fun e => (by cases e), fun _ => ⟨rfl, (show 0 < 1 * 64 by decide)⟩, fun e => (by cases e), ?_⟩⟩
    · rw [hp q]
      show _ = ndV H p d P v q
      unfold ndV
      by_cases e : ndP H p d P q = true
      · rw [if_pos e, if_pos e]
        have e2 : ndP H x.p x.d P q = true := by
          have := hp q
          rw [e] at this
          cases e3 : ndP H x.p x.d P q with
          | true => rfl
          | false => rw [e3] at this; cases this
        rw [if_pos e2]
      · rw [if_neg e, if_neg e]
    · rw [e0]; omega
    · show d ≤ 5 ∧ (d = 0 ∨ 8 ≤ (x.s.U i).n)
      rw [hg]; exact hd
theorem NG.endOne (h : NG 8 x H P v) (hz : x.bz = true) (hn : x.s.left = 0) (hk : x.s.k = 1) : NA (NdS.idle x.p x.d (x.s.U 0)) H P v := by
  obtain ⟨j, h1⟩ : ∃ j : Nat, NF x H P v (x.mj + j) (x.m0 + j) := by
    rcases h with ⟨e, -⟩ | ⟨-, j, h1, -⟩
    · rw [hz] at e; cases e
    · exact ⟨j, h1⟩
  have hu := h1.u hz
  have hdd := h1.hd
  have hb := h1.l.choose_spec.f.t.good.bounds
  refine h.fin hz hn 0 x.p x.d (by omega) ⟨hdd.1, ?_⟩ (fun q => ?_) (fun j hj => ?_)
  · rcases hdd.2 with e | e
    · exact .inl e
    · right; omega
  · rw [hk, show tIx 1 x.s.d (H q) = 0 from rfl]; simp
  · have q1 := qn_mul x.d x.s.T.n hdd.1
    have q2 := qn_le x.s.T.n
    unfold NdS.tot at hj
    unfold NdS.mj NdS.m0
    rcases hu with ⟨e1, e2, e3⟩ | ⟨e1, e2, e3⟩ | ⟨-, e2, -⟩
    · rw [if_pos e1, e3]
      rw [e2, e3] at hj
      omega
    · rw [if_neg (by omega), e3]
      rw [e2, e3] at hj
      rcases hdd.2 with e | e
      · rw [e, Nat.zero_mul, Nat.zero_mul]; omega
      · omega
    · omega
theorem tIx_top (h d p b : Nat) (hd : d < 64) (hb : b < 2) : (decide (topN h d = p) && decide (tIx 2 d h = b)) = decide (topN h (d + 1) = 2 * p + b) := by
  have h1 := topN_halfN h d hd
  have h2 : tIx 2 d h = topN h (d + 1) % 2 := by
    unfold tIx bitN topN
    rw [if_neg (by decide), show 63 - d = 64 - (d + 1) by omega]
  rw [h1, h2]
  generalize topN h (d + 1) = t
  by_cases e : t = 2 * p + b
  · rw [decide_eq_true e, decide_eq_true (show t / 2 = p by omega), decide_eq_true (show t % 2 = b by omega)]; rfl
  · rw [decide_eq_false e]
    by_cases e1 : t / 2 = p
    · rw [decide_eq_true e1, decide_eq_false (show ¬ t % 2 = b by omega)]; rfl
    · rw [decide_eq_false e1]; rfl
theorem NG.endTwo (h : NG 8 x H P v) (hz : x.bz = true) (hn : x.s.left = 0) (hk : x.s.k = 2) : x.d < 5 ∧ NA (NdS.idle (2 * x.p) (x.d + 1) (x.s.U 0)) H P v ∧ NA (NdS.idle (2 * x.p + 1) (x.d + 1) (x.s.U 1)) H P v := by
  obtain ⟨j, h1⟩ : ∃ j : Nat, NF x H P v (x.mj + j) (x.m0 + j) := by
    rcases h with ⟨e, -⟩ | ⟨-, j, h1, -⟩
    · rw [hz] at e; cases e
    · exact ⟨j, h1⟩
  have hu := h1.u hz
  obtain ⟨u1, u3, u4, u5, u6⟩ : x.job = 3 ∧ x.s.d = x.d ∧ x.s.gn = x.s.T.n ∧ x.d < 5 ∧ 8 ≤ x.s.T.n := by
    rcases hu with ⟨-, e, -⟩ | ⟨-, e, -⟩ | ⟨e1, -, e3⟩
    · omega
    · omega
    · exact ⟨e1, e3⟩
  have hm : ∀ j : Nat, 8 * j < x.tot → x.mj + j ≤ 4 * (x.s.gn : Int) + (((x.d + 1) * qn x.s.gn : Nat) : Int) - 1 := fun j hj => by
    have q2 := qn_le x.s.T.n
    unfold NdS.tot at hj
    unfold NdS.mj NdS.m0
    rw [if_neg (by omega), u4, Nat.succ_mul]
    rw [hk, u4] at hj
    omega
  have hx : ∀ q b, b < 2 → (ndP H x.p x.d P q && decide (tIx x.s.k x.s.d (H q) = b)) = ndP H (2 * x.p + b) (x.d + 1) P q := fun q b hb => by
    unfold ndP
    rw [hk, u3, Bool.and_assoc, tIx_top _ _ _ _ (by omega) hb]
  exact ⟨u5, h.fin hz hn 0 _ _ (by omega) ⟨by omega, .inr (by omega)⟩ (fun q => hx q 0 (by decide)) hm, h.fin hz hn 1 _ _ (by omega) ⟨by omega, .inr (by omega)⟩ (fun q => hx q 1 (by decide)) hm⟩
theorem NA.new : NA (NdS.idle 0 0 (TabS.new 1)) H (fun _ => false) v := by
  have hr : rightB ((1 : Nat) : Int) = true := by decide
  refine .inl ⟨rfl, ⟨⟨_, DuL.idle (V := fun _ => EntS.zero) (TFun.new hr H) (fun q => (new_no hr H q).trans ?_) (fun q => (TFun.ent_not (new_no hr H q)).trans ?_) ?_⟩, fun e => (by cases e), fun _ => ⟨rfl, (show 0 < 1 * 64 by decide)⟩, fun e => (by cases e), ⟨by decide, .inl rfl⟩⟩⟩
  · show false = ndP H 0 0 (fun _ => false) q
    rfl
  · rfl
  · show (0 : Int) + 0 ≤ 4 * ((1 : Nat) : Int) + ((0 * qn 1 : Nat) : Int) - 1
    rw [Nat.zero_mul]; decide
end
end Go.Proofs.YtolhmibejhldkaaGreatDoor

namespace Go.Proofs.YtolhmibejhldkaaGreatDoor
open Go.RowKit Go.Proofs
def NBx (Nb : Nat) (a : Nat → Nat) (x : NdS) (b : Nat) : Prop := b = Nb ∨ NX a x b
structure NZ (w : World) (N : Nat) (Nb : Nat → Nat) (a : Nat → Nat → Nat) (xs : Nat → NdS) (M : Nat) (mt : MeterS) (K : Nat → Prop) (E : Nat → Addr) (w0 : World) : Prop where
  v : ∀ i, i < N → ND w (Nb i) (a i) (xs i) E w0
  m : Blk w M 37 mt.cells
  ml : mt.limited = false
  mz : w0.heap.size ≤ M ∧ ¬ K M
  am : ∀ i, i < N → ∀ b, NBx (Nb i) (a i) (xs i) b → b ≠ M ∧ ¬ K b
  ap : ∀ i j, i < N → j < N → i ≠ j → ∀ b, NBx (Nb i) (a i) (xs i) b → ¬ NBx (Nb j) (a j) (xs j) b
  kz : ∀ b, K b → b < w.heap.size
  hb : Below w0.heap.size w0 w
section
variable {w w' w0 : World} {N N' i : Nat} {Nb Nb' : Nat → Nat} {a a' : Nat → Nat → Nat} {xs xs' : Nat → NdS} {M : Nat} {mt mt' : MeterS} {K K' : Nat → Prop} {E : Nat → Addr}
theorem ND.bx {b Nb1 : Nat} {a1 : Nat → Nat} {x : NdS} (h : ND w Nb1 a1 x E w0) (hb : NBx Nb1 a1 x b) : b < w.heap.size ∧ w0.heap.size ≤ b := by
  rcases hb with e | e
  · rw [e]; exact ⟨h.b.lt, h.n.1⟩
  · exact ⟨NX.lt h b e, NX.ge h b e⟩
theorem NZ.later (h : NZ w N Nb a xs M mt K E w0) (hb : Below w.heap.size w w') : NZ w' N Nb a xs M mt K E w0 :=
  ⟨fun i hi => (h.v i hi).later hb, h.m.below hb h.m.lt, h.ml, h.mz, h.am, h.ap, fun b hK => Nat.lt_of_lt_of_le (h.kz b hK) hb.size, h.hb.trans (hb.mono h.hb.size)⟩
theorem NZ.kept {Y : Nat → Prop} (h : NZ w N Nb a xs M mt K E w0) (hc : Chg Y w w') (hY : ∀ b, Y b → K b ∧ w0.heap.size ≤ b) : NZ w' N Nb a xs M mt K E w0 :=
  ⟨fun i hi => (h.v i hi).chg hc (fun b e => (hY b e).2) (fun e => (h.am i hi _ (.inl rfl)).2 (hY _ e).1) (fun b hx e => (h.am i hi b (.inr hx)).2 (hY b e).1), h.m.chg hc (fun e => h.mz.2 (hY _ e).1), h.ml, h.mz, h.am, h.ap,
    fun b hK => Nat.lt_of_lt_of_le (h.kz b hK) hc.size, h.hb.trans (hc.below h.hb.size (fun k hk e => by have := (hY k e).2; omega))⟩
theorem NZ.own (h : NZ w N Nb a xs M mt K E w0) (hK : ∀ b, K' b → b < w.heap.size ∧ (K b ∨ (b ≠ M ∧ ∀ i, i < N → ¬ NBx (Nb i) (a i) (xs i) b))) : NZ w N Nb a xs M mt K' E w0 :=
  ⟨h.v, h.m, h.ml, ⟨h.mz.1, fun e => by
    rcases (hK M e).2 with f | f
    · exact h.mz.2 f
    · exact f.1 rfl⟩, fun i hi b hb => ⟨(h.am i hi b hb).1, fun e => by
    rcases (hK b e).2 with f | f
    · exact (h.am i hi b hb).2 f
    · exact f.2 i hi hb⟩, h.ap, fun b e => (hK b e).1, h.hb⟩
theorem NZ.lens (h : NZ w N Nb a xs M mt K E w0) (hi : i < N) : LensN (some M) (a i) (xs i) (Nb i) w0.heap.size := fun b e => by
  cases e
  exact ⟨h.mz.1, fun e => (h.am i hi _ (.inr e)).1 rfl, fun e => (h.am i hi M (.inl e)).1 rfl⟩
theorem NZ.lw (h : NZ w N Nb a xs M mt K E w0) : LW w (some M) mt := fun M' e => by cases e; exact h.m
theorem NZ.re (h : NZ w N Nb a xs M mt K E w0) (hi : i < N) (hc : Chg (fun b => b = M ∨ NBx (Nb i) (a i) (xs i) b) w w') (hm : Blk w' M 37 mt'.cells) (hl : mt'.limited = false)
    (ho : ∀ j, j < N' → j < N ∧ j ≠ i → Nb' j = Nb j ∧ a' j = a j ∧ xs' j = xs j)
    (hn : ∀ j, j < N' → ¬ (j < N ∧ j ≠ i) → ND w' (Nb' j) (a' j) (xs' j) E w0 ∧ ∀ b, NBx (Nb' j) (a' j) (xs' j) b → NBx (Nb i) (a i) (xs i) b ∨ w.heap.size ≤ b)
    (hp : ∀ j j2, j < N' → j2 < N' → j ≠ j2 → ¬ (j < N ∧ j ≠ i) → ¬ (j2 < N ∧ j2 ≠ i) → ∀ b, NBx (Nb' j) (a' j) (xs' j) b → ¬ NBx (Nb' j2) (a' j2) (xs' j2) b) :
    NZ w' N' Nb' a' xs' M mt' K E w0 ∧ Chg (KC K w0.heap.size) w w' := by
  have hY0 : ∀ b, b = M ∨ NBx (Nb i) (a i) (xs i) b → w0.heap.size ≤ b := fun b e => by
    rcases e with e | e
    · rw [e]; exact h.mz.1
    · exact ((h.v i hi).bx e).2
  have hv2 := fun j (hj : j < N ∧ j ≠ i) => (h.v j hj.1).chg hc hY0 (fun e => by
      rcases e with e | e
      · exact (h.am j hj.1 _ (.inl rfl)).1 e
      · exact h.ap j i hj.1 hi hj.2 _ (.inl rfl) e) (fun b hx e => by
      rcases e with e | e
      · exact (h.am j hj.1 _ (.inr hx)).1 e
      · exact h.ap j i hj.1 hi hj.2 _ (.inr hx) e)
  have hfar : ∀ j, j < N' → ¬ (j < N ∧ j ≠ i) → ∀ b, NBx (Nb' j) (a' j) (xs' j) b → ∀ j2, j2 < N ∧ j2 ≠ i → ¬ NBx (Nb j2) (a j2) (xs j2) b := fun j hj hjn b hb j2 hj2 e => by
    rcases (hn j hj hjn).2 b hb with f | f
    · exact h.ap j2 i hj2.1 hi hj2.2 b e f
    · have := ((h.v j2 hj2.1).bx e).1; omega
  refine ⟨⟨fun j hj => ?_, hm, hl, h.mz, fun j hj b hb => ?_, fun j j2 hj hj2 hne b hb => ?_, fun b hK => Nat.lt_of_lt_of_le (h.kz b hK) hc.size, h.hb.trans (hc.below h.hb.size (fun k hk e => by have := hY0 k e; omega))⟩, hc.mono (fun b _ e => ⟨hY0 b e, fun hK => ?_⟩)⟩
  · by_cases c : j < N ∧ j ≠ i
    · obtain ⟨e1, e2, e3⟩ := ho j hj c
      rw [e1, e2, e3]; exact hv2 j c
    · exact (hn j hj c).1
  · by_cases c : j < N ∧ j ≠ i
    · obtain ⟨e1, e2, e3⟩ := ho j hj c
      rw [e1, e2, e3] at hb; exact h.am j c.1 b hb
    · rcases (hn j hj c).2 b hb with f | f
      · exact h.am i hi b f
      · exact ⟨fun e2 => by have := h.m.lt; omega, fun hK => by have := h.kz b hK; omega⟩
  · by_cases c : j < N ∧ j ≠ i
    · obtain ⟨e1, e2, e3⟩ := ho j hj c
      rw [e1, e2, e3] at hb
      by_cases c2 : j2 < N ∧ j2 ≠ i
      · obtain ⟨f1, f2, f3⟩ := ho j2 hj2 c2
        rw [f1, f2, f3]; exact h.ap j j2 c.1 c2.1 hne b hb
      · exact fun e => hfar j2 hj2 c2 b e j c hb
    · by_cases c2 : j2 < N ∧ j2 ≠ i
      · obtain ⟨f1, f2, f3⟩ := ho j2 hj2 c2
        rw [f1, f2, f3]; exact hfar j hj c b hb j2 c2
      · exact hp j j2 hj hj2 hne c c2 b hb
  · rcases e with e | e
    · rw [e] at hK; exact h.mz.2 hK
    · exact (h.am i hi b e).2 hK
theorem NZ.turn {a1 : Nat → Nat} {x1 : NdS} (h : NZ w N Nb a xs M mt K E w0) (hi : i < N) (hv : ND w' (Nb i) a1 x1 E w0) (hm : Blk w' M 37 mt'.cells) (hl : mt'.limited = false) (hX : ∀ b, NX a1 x1 b → NX (a i) (xs i) b ∨ w.heap.size ≤ b) (hc : Chg (fun b => b = M ∨ NBx (Nb i) (a i) (xs i) b) w w') :
    NZ w' N Nb (upd a i a1) (upd xs i x1) M mt' K E w0 ∧ Chg (KC K w0.heap.size) w w' := by
  have hji : ∀ j, j < N → ¬ (j < N ∧ j ≠ i) → j = i := fun j hj c => by
    by_cases e : j = i
    · exact e
    · exact absurd ⟨hj, e⟩ c
  refine h.re hi hc hm hl (fun j _ c => ⟨rfl, upd_other _ _ c.2, upd_other _ _ c.2⟩) (fun j hj c => ?_) (fun j j2 hj hj2 hne c c2 => absurd ((hji j hj c).trans (hji j2 hj2 c2).symm) hne)
  obtain rfl := hji j hj c
  rw [upd_same, upd_same]
  refine ⟨hv, fun b hb => ?_⟩
  rcases hb with e | e
  · exact .inl (.inl e)
  · rcases hX b e with f | f
    · exact .inl (.inr f)
    · exact .inr f
theorem NZ.two {a1 a2 : Nat → Nat} {x1 x2 : NdS} {N2 : Nat} (h : NZ w N Nb a xs M mt K E w0) (hi : i < N) (hv : ND w' (Nb i) a1 x1 E w0) (hv2 : ND w' N2 a2 x2 E w0) (hN : w.heap.size ≤ N2) (hm : Blk w' M 37 mt'.cells) (hl : mt'.limited = false)
    (hX : ∀ b, NX a1 x1 b → NX (a i) (xs i) b) (hX2 : ∀ b, NX a2 x2 b → NX (a i) (xs i) b) (hd : ∀ b, NX a1 x1 b → ¬ NX a2 x2 b) (hc : Chg (fun b => b = M ∨ NBx (Nb i) (a i) (xs i) b) w w') :
    NZ w' (N + 1) (upd Nb N N2) (upd (upd a i a1) N a2) (upd (upd xs i x1) N x2) M mt' K E w0 ∧ Chg (KC K w0.heap.size) w w' := by
  have hiN : i ≠ N := by omega
  have hold := h.v i hi
  have hlt := NX.lt hold
  have hbl := hold.b.lt
  have hapart : ∀ b, NBx (Nb i) a1 x1 b → ¬ NBx N2 a2 x2 b := fun b h1 h2 => by
    rcases h1 with e | e <;> rcases h2 with f | f
    · omega
    · exact hold.n.2 b (hX2 b f) e
    · have := hlt b (hX b e); omega
    · exact hd b e f
  have hji : ∀ j, j < N + 1 → ¬ (j < N ∧ j ≠ i) → j = i ∨ j = N := fun j hj c => by
    by_cases e : j = i
    · exact .inl e
    · right
      by_cases f : j < N
      · exact absurd ⟨f, e⟩ c
      · omega
  refine h.re hi hc hm hl (fun j _ c => ?_) (fun j hj c => ?_) (fun j j2 hj hj2 hne c c2 b h1 h2 => ?_)
  · have : j ≠ N := by omega
    rw [upd_other _ _ this, upd_other _ _ this, upd_other _ _ this, upd_other _ _ c.2, upd_other _ _ c.2]
    exact ⟨rfl, rfl, rfl⟩
  · rcases hji j hj c with e | e
    · subst e
      rw [upd_other _ _ hiN, upd_other _ _ hiN, upd_other _ _ hiN, upd_same, upd_same]
      exact ⟨hv, fun b hb => .inl (by
        rcases hb with e | e
        · exact .inl e
        · exact .inr (hX b e))⟩
    · subst e
      rw [upd_same, upd_same, upd_same]
      exact ⟨hv2, fun b hb => by
        rcases hb with e | e
        · exact .inr (by omega)
        · exact .inl (.inr (hX2 b e))⟩
  · rcases hji j hj c with e | e <;> rcases hji j2 hj2 c2 with f | f
    · exact hne (e.trans f.symm)
    · subst e; subst f
      rw [upd_other _ _ hiN, upd_other _ _ hiN, upd_other _ _ hiN, upd_same, upd_same] at h1
      rw [upd_same, upd_same, upd_same] at h2
      exact hapart b h1 h2
    · subst e; subst f
      rw [upd_other _ _ hiN, upd_other _ _ hiN, upd_other _ _ hiN, upd_same, upd_same] at h2
      rw [upd_same, upd_same, upd_same] at h1
      exact hapart b h2 h1
    · exact hne (e.trans f.symm)
end
end Go.Proofs.YtolhmibejhldkaaGreatDoor

namespace Go.Proofs.YtolhmibejhldkaaGreatDoor
open Go.RowKit Go.Proofs
def NZs (w : World) (N : Nat) (Nb : Nat → Nat) (xs : Nat → NdS) (M : Nat) (K : Nat → Prop) (E : Nat → Addr) (w0 : World) : Prop := ∃ a mt, NZ w N Nb a xs M mt K E w0
section
variable {w w' w0 : World} {N i : Nat} {Nb : Nat → Nat} {xs : Nat → NdS} {M : Nat} {K K' : Nat → Prop} {E : Nat → Addr}
theorem NZs.later (h : NZs w N Nb xs M K E w0) (hb : Below w.heap.size w w') : NZs w' N Nb xs M K E w0 := by
  obtain ⟨a, mt, h⟩ := h
  exact ⟨a, mt, h.later hb⟩
theorem NZs.kept {Y : Nat → Prop} (h : NZs w N Nb xs M K E w0) (hc : Chg Y w w') (hY : ∀ b, Y b → K b ∧ w0.heap.size ≤ b) : NZs w' N Nb xs M K E w0 := by
  obtain ⟨a, mt, h⟩ := h
  exact ⟨a, mt, h.kept hc hY⟩
theorem NZs.bel (h : NZs w N Nb xs M K E w0) : Below w0.heap.size w0 w := by
  obtain ⟨a, mt, h⟩ := h
  exact h.hb
theorem NZs.prefixC (h : NZs w N Nb xs M K E w0) (hi : i < N) : Calls Tryz.prog 8 #[.pointer (some ⟨Nb i, 0, none⟩)] w fun e w' => e = .returned (.tuple #[.int .i64 ((xs i).p : Int), .int .i64 ((xs i).d : Int)]) ∧ Below w.heap.size w w' := by
  obtain ⟨a, mt, h⟩ := h
  exact (h.v i hi).prefixC
theorem NZs.doneC (h : NZs w N Nb xs M K E w0) (hi : i < N) : Calls Tryz.prog 16 #[.pointer (some ⟨Nb i, 0, none⟩)] w fun e w' => e = .returned (.bool ((xs i).bz && decide ((xs i).s.left = 0))) ∧ Below w.heap.size w w' := by
  obtain ⟨a, mt, h⟩ := h
  exact (h.v i hi).doneC
theorem NZs.wantsC (h : NZs w N Nb xs M K E w0) (hi : i < N) (gl : Int) : Calls Tryz.prog 13 #[.pointer (some ⟨Nb i, 0, none⟩), .int .i64 gl] w fun e w' => e = .returned (.tuple #[.int .i64 ((xs i).wants gl), .bool ((xs i).dbl gl)]) ∧ Below w.heap.size w w' := by
  obtain ⟨a, mt, h⟩ := h
  exact (h.v i hi).wantsC gl
theorem NZs.find (h : NZs w N Nb xs M K E w0) (hi : i < N) (key : Int) (hh : Nat) (hb : hh < 18446744073709551616) :
    Calls Tryz.prog 18 #[.pointer (some ⟨Nb i, 0, none⟩), .agg #[.pointer none, .int .i64 0, .int .i64 0, .int .i64 0], .int .u64 key, .int .u64 (hh : Int)] w fun e w' =>
      e = .returned (.tuple #[.agg #[.int .u64 ((xs i).s.ent key hh).key, .int .u64 ((xs i).s.ent key hh).val, .int .u64 ((xs i).s.ent key hh).hash], .bool ((xs i).s.has key hh)]) ∧ NZs w' N Nb xs M K E w0 ∧ Chg (fun _ => False) w w' := by
  obtain ⟨a, mt, h⟩ := h
  refine ((h.v i hi).find (lp := none) (mt := mt) (fun b e => by cases e) (LensN.none _) key hh hb none (.inl ⟨rfl, rfl⟩) 0 0 0).mono ?_
  rintro e w' ⟨e1, -, -, hc⟩
  have hc' : Chg (fun _ => False) w w' := hc.mono (fun b _ e => by cases e)
  exact ⟨e1, ⟨a, mt, h.kept hc' (fun b e => e.elim)⟩, hc'⟩
theorem NZs.put (h : NZs w N Nb xs M K E w0) (hi : i < N) (key v : Int) (hh : Nat) (hb : hh < 18446744073709551616) (more : Bool) (x1 y1 z1 : Int) :
    Calls Tryz.prog 12 #[.pointer (some ⟨Nb i, 0, none⟩), .agg #[.pointer (some ⟨M, 0, none⟩), .int .i64 x1, .int .i64 y1, .int .i64 z1], .agg #[.int .u64 key, .int .u64 v, .int .u64 (hh : Int)], .bool more] w fun e w' =>
      e = .returned (.tuple #[.bool ((xs i).s.putB key hh more), errN E ((xs i).s.putN key hh more)]) ∧ NZs w' N Nb (upd xs i { xs i with s := (xs i).s.put key v hh more }) M K E w0 ∧ Chg (KC K w0.heap.size) w w' := by
  obtain ⟨a, mt, h⟩ := h
  refine ((h.v i hi).put h.lw (h.lens hi) key v hh hb more _ (.inr ⟨M, rfl, rfl⟩) x1 y1 z1).mono ?_
  rintro e w' ⟨e1, hv, ⟨n, hl⟩, hc⟩
  obtain ⟨t1, t2⟩ := h.turn hi hv (hl M rfl) ((addN_limited _ _ _ _ _).trans h.ml) (fun b e => .inl (by
    rcases e with ⟨f1, f2⟩ | e
    · exact .inl ⟨f1, (duX_eq (put_kb (xs i).s key v hh more) b).1 f2⟩
    · exact .inr e)) (hc.mono (fun b _ e => by
    rcases e with e | e
    · cases e; exact .inl rfl
    · exact .inr (.inr e)))
  exact ⟨e1, ⟨_, _, t1⟩, t2⟩
theorem NZs.del (h : NZs w N Nb xs M K E w0) (hi : i < N) (key : Int) (hh : Nat) (hb : hh < 18446744073709551616) (x1 y1 z1 : Int) :
    Calls Tryz.prog 10 #[.pointer (some ⟨Nb i, 0, none⟩), .agg #[.pointer (some ⟨M, 0, none⟩), .int .i64 x1, .int .i64 y1, .int .i64 z1], .int .u64 key, .int .u64 (hh : Int)] w fun e w' =>
      e = .returned (.tuple #[.agg #[.int .u64 ((xs i).s.ent key hh).key, .int .u64 ((xs i).s.ent key hh).val, .int .u64 ((xs i).s.ent key hh).hash], .bool ((xs i).s.has key hh)]) ∧ NZs w' N Nb (upd xs i { xs i with s := (xs i).s.del key hh }) M K E w0 ∧ Chg (KC K w0.heap.size) w w' := by
  obtain ⟨a, mt, h⟩ := h
  refine ((h.v i hi).del h.lw (h.lens hi) key hh hb _ (.inr ⟨M, rfl, rfl⟩) x1 y1 z1).mono ?_
  rintro e w' ⟨e1, hv, ⟨n, hl⟩, hc⟩
  obtain ⟨t1, t2⟩ := h.turn hi hv (hl M rfl) ((addN_limited _ _ _ _ _).trans h.ml) (fun b e => .inl (by
    rcases e with ⟨f1, f2⟩ | e
    · exact .inl ⟨f1, (duX_eq (del_kb (xs i).s key hh) b).1 f2⟩
    · exact .inr e)) (hc.mono (fun b _ e => by
    rcases e with e | e
    · cases e; exact .inl rfl
    · exact .inr (.inr e)))
  exact ⟨e1, ⟨_, _, t1⟩, t2⟩
theorem NZs.step (h : NZs w N Nb xs M K E w0) (hi : i < N) (hev : (xs i).bz = true → (xs i).s.evOk) :
    Calls Tryz.prog 15 #[.pointer (some ⟨Nb i, 0, none⟩), .pointer (some ⟨M, 0, none⟩)] w fun e w' =>
      e = .returned (.bool ((xs i).bz && decide (0 < (xs i).s.left))) ∧ NZs w' N Nb (upd xs i (xs i).stp) M K E w0 ∧ Chg (KC K w0.heap.size) w w' := by
  obtain ⟨a, mt, h⟩ := h
  refine ((h.v i hi).step h.m h.ml (h.lens hi) hev).mono ?_
  rintro e w' ⟨a', mt', e1, hv, hm, hl, hX, hc⟩
  obtain ⟨t1, t2⟩ := h.turn hi hv hm hl hX (hc.mono (fun b _ e => by
    rcases e with e | e
    · exact .inl e
    · exact .inr (.inr e)))
  exact ⟨e1, ⟨_, _, t1⟩, t2⟩
theorem NZs.startOk (h : NZs w N Nb xs M K E w0) (hi : i < N) (hz : (xs i).bz = false) (kind : Int) (hbad : badF kind ((xs i).s.T.n : Int) = 0) (hd : kind = 3 → (xs i).d < 5) :
    Calls Tryz.prog 14 #[.pointer (some ⟨Nb i, 0, none⟩), .int .i64 kind] w fun e w' => e = .returned .nilIface ∧ NZs w' N Nb (upd xs i ((xs i).sta kind)) M K E w0 ∧ Chg (KC K w0.heap.size) w w' := by
  obtain ⟨a, mt, h⟩ := h
  have hM : Nb i ≠ M := (h.am i hi _ (.inl rfl)).1
  refine ((h.v i hi).startOk hz kind hbad hd).mono ?_
  rintro e w' ⟨a', e1, hv, hX, hc⟩
  obtain ⟨t1, t2⟩ := h.turn hi hv (h.m.chg hc (fun e => hM e.symm)) h.ml hX (hc.mono (fun b _ e => .inr (.inl e)))
  exact ⟨e1, ⟨_, _, t1⟩, t2⟩
theorem NZs.endOne (h : NZs w N Nb xs M K E w0) (hi : i < N) (hz : (xs i).bz = true) (hn : (xs i).s.left = 0) (hk : (xs i).s.k = 1) :
    Calls Tryz.prog 17 #[.pointer (some ⟨Nb i, 0, none⟩)] w fun e w' => e = .returned (.tuple #[.pointer none, .nilIface]) ∧ NZs w' N Nb (upd xs i (NdS.idle (xs i).p (xs i).d ((xs i).s.U 0))) M K E w0 ∧ Chg (KC K w0.heap.size) w w' := by
  obtain ⟨a, mt, h⟩ := h
  have hc0 : NX (a i) (xs i) (a i 0) := .inl ⟨hz, 0, .lt4 (by decide), rfl⟩
  have hcc : ∀ b, b = Nb i ∨ b = a i 0 → NBx (Nb i) (a i) (xs i) b := fun b e => by
    rcases e with e | e
    · exact .inl e
    · rw [e]; exact .inr hc0
  refine ((h.v i hi).endOne hz hn hk).mono ?_
  rintro e w' ⟨e1, hv, hc⟩
  obtain ⟨t1, t2⟩ := h.turn hi hv (h.m.chg hc (fun e => (h.am i hi _ (hcc _ e)).1 rfl)) h.ml (fun b e => .inl (endA_sub hz (by omega) b e)) (hc.mono (fun b _ e => .inr (hcc b e)))
  exact ⟨e1, ⟨_, _, t1⟩, t2⟩
theorem NZs.endTwo (h : NZs w N Nb xs M K E w0) (hi : i < N) (hz : (xs i).bz = true) (hn : (xs i).s.left = 0) (hk : (xs i).s.k = 2) (hd : (xs i).d < 5) :
    Calls Tryz.prog 17 #[.pointer (some ⟨Nb i, 0, none⟩)] w fun e w' => ∃ N2, e = .returned (.tuple #[.pointer (some ⟨N2, 0, none⟩), .nilIface]) ∧
      NZs w' (N + 1) (upd Nb N N2) (upd (upd xs i (NdS.idle (2 * (xs i).p) ((xs i).d + 1) ((xs i).s.U 0))) N (NdS.idle (2 * (xs i).p + 1) ((xs i).d + 1) ((xs i).s.U 1))) M K E w0 ∧ Chg (KC K w0.heap.size) w w' := by
  obtain ⟨a, mt, h⟩ := h
  have hc0 : NX (a i) (xs i) (a i 0) := .inl ⟨hz, 0, .lt4 (by decide), rfl⟩
  have hcc : ∀ b, b = Nb i ∨ b = a i 0 → NBx (Nb i) (a i) (xs i) b := fun b e => by
    rcases e with e | e
    · exact .inl e
    · rw [e]; exact .inr hc0
  refine ((h.v i hi).endTwo hz hn hk hd).mono ?_
  rintro e w' ⟨N2, e1, hN, hv, hv2, hc⟩
  obtain ⟨t1, t2⟩ := h.two hi hv hv2 hN (h.m.chg hc (fun e => (h.am i hi _ (hcc _ e)).1 rfl)) h.ml (fun b e => endA_sub hz (by omega) b e) (fun b e => endA_sub hz (by omega) b e) (endA_apart (h.v i hi) hz hk) (hc.mono (fun b _ e => .inr (hcc b e)))
  exact ⟨N2, e1, ⟨_, _, t1⟩, t2⟩
end
end Go.Proofs.YtolhmibejhldkaaGreatDoor

namespace Go.Proofs.YtolhmibejhldkaaGreatDoor
open Go.RowKit Go.Proofs
def sumW (f : Nat → Nat) : Nat → Nat
  | 0 => 0
  | n + 1 => sumW f n + f n
theorem sumW_congr {f g : Nat → Nat} : ∀ {n : Nat}, (∀ i, i < n → f i = g i) → sumW f n = sumW g n
  | 0, _ => rfl
  | n + 1, h => by unfold sumW; rw [sumW_congr (n := n) (fun i hi => h i (by omega)), h n (by omega)]
theorem sumW_ge {f : Nat → Nat} : ∀ {n : Nat}, (∀ i, i < n → 1 ≤ f i) → n ≤ sumW f n
  | 0, _ => Nat.le_refl _
  | n + 1, h => by
    unfold sumW
    have h1 := sumW_ge (n := n) (fun i hi => h i (by omega))
    have h2 := h n (by omega)
    omega
theorem sumW_upd {f : Nat → Nat} {i y : Nat} : ∀ {n : Nat}, i < n → sumW (upd f i y) n + f i = sumW f n + y
  | 0, h => by omega
  | n + 1, h => by
    unfold sumW
    by_cases e : n = i
    · subst e
      rw [upd_same, sumW_congr (n := n) (f := upd f n y) (g := f) (fun j hj => upd_other _ _ (by omega))]
      omega
    · rw [upd_other _ _ e]
      have := sumW_upd (f := f) (y := y) (n := n) (show i < n by omega)
      omega
def NdS.hasH (x : NdS) (h : Nat) : Prop := topN h x.d = x.p
structure PD (N : Nat) (xs : Nat → NdS) : Prop where
  d : ∀ i, i < N → (xs i).d ≤ 5
  one : ∀ h, h < 18446744073709551616 → ∃ i, i < N ∧ (xs i).hasH h ∧ ∀ j, j < N → (xs j).hasH h → j = i
  sum : sumW (fun i => 2 ^ (5 - (xs i).d)) N = 32
section
variable {N i : Nat} {xs : Nat → NdS} {H : Int → Nat} {P : Int → Bool} {v : Int → Int} {x1 x2 : NdS}
theorem PD.le (h : PD N xs) : N ≤ 32 := by
  rw [← h.sum]
  exact sumW_ge (fun i hi => Nat.one_le_two_pow)
theorem PD.upd (h : PD N xs) (hp : x1.p = (xs i).p ∧ x1.d = (xs i).d) : PD N (upd xs i x1) := by
  have hx : ∀ j, (Go.Proofs.YtolhmibejhldkaaGreatDoor.upd xs i x1 j).p = (xs j).p ∧ (Go.Proofs.YtolhmibejhldkaaGreatDoor.upd xs i x1 j).d = (xs j).d := fun j => by
    by_cases e : j = i
    · subst e; rw [upd_same]; exact hp
    · rw [upd_other _ _ e]; exact ⟨rfl, rfl⟩
  refine ⟨fun j hj => by rw [(hx j).2]; exact h.d j hj, fun hh h1 => ?_, ?_⟩
  · obtain ⟨k, k1, k2, k3⟩ := h.one hh h1
    refine ⟨k, k1, ?_, fun j hj hj2 => k3 j hj ?_⟩
    · unfold NdS.hasH at *; rw [(hx k).1, (hx k).2]; exact k2
    · unfold NdS.hasH at *; rw [(hx j).1, (hx j).2] at hj2; exact hj2
  · rw [← h.sum]
    exact sumW_congr (fun j hj => by show 2 ^ (5 - _) = _; rw [(hx j).2])
theorem half_top (h d p : Nat) (hd : d < 64) : topN h d = p ↔ (topN h (d + 1) = 2 * p ∨ topN h (d + 1) = 2 * p + 1) := by
  rw [topN_halfN h d hd]; omega
theorem PD.two (h : PD N xs) (hi : i < N) (hd : (xs i).d < 5) (h1 : x1.p = 2 * (xs i).p ∧ x1.d = (xs i).d + 1) (h2 : x2.p = 2 * (xs i).p + 1 ∧ x2.d = (xs i).d + 1) : PD (N + 1) (Go.Proofs.YtolhmibejhldkaaGreatDoor.upd (Go.Proofs.YtolhmibejhldkaaGreatDoor.upd xs i x1) N x2) := by
  have hiN : i ≠ N := by omega
  have u1 : Go.Proofs.YtolhmibejhldkaaGreatDoor.upd (Go.Proofs.YtolhmibejhldkaaGreatDoor.upd xs i x1) N x2 i = x1 := by rw [upd_other _ _ hiN, upd_same]
  have u2 : Go.Proofs.YtolhmibejhldkaaGreatDoor.upd (Go.Proofs.YtolhmibejhldkaaGreatDoor.upd xs i x1) N x2 N = x2 := upd_same ..
  have u3 : ∀ j, j < N → j ≠ i → Go.Proofs.YtolhmibejhldkaaGreatDoor.upd (Go.Proofs.YtolhmibejhldkaaGreatDoor.upd xs i x1) N x2 j = xs j := fun j hj hji => by rw [upd_other _ _ (by omega), upd_other _ _ hji]
  generalize Go.Proofs.YtolhmibejhldkaaGreatDoor.upd (Go.Proofs.YtolhmibejhldkaaGreatDoor.upd xs i x1) N x2 = ys at *
  have ht := fun hh => half_top hh (xs i).d (xs i).p (by omega)
  have e1 : ∀ hh, x1.hasH hh ↔ topN hh ((xs i).d + 1) = 2 * (xs i).p := fun hh => by unfold NdS.hasH; rw [h1.1, h1.2]
  have e2 : ∀ hh, x2.hasH hh ↔ topN hh ((xs i).d + 1) = 2 * (xs i).p + 1 := fun hh => by unfold NdS.hasH; rw [h2.1, h2.2]
  have hj3 : ∀ j, j < N + 1 → (j < N ∧ j ≠ i) ∨ j = i ∨ j = N := fun j hj => by omega
  refine ⟨fun j hj => ?_, fun hh hlt => ?_, ?_⟩
  · rcases hj3 j hj with e | e | e
    · rw [u3 j e.1 e.2]; exact h.d j e.1
    · rw [e, u1, h1.2]; omega
    · rw [e, u2, h2.2]; omega
  · obtain ⟨k, k1, k2, k3⟩ := h.one hh hlt
    by_cases e : k = i
    · subst e
      have hin : ∀ j, j < N → j ≠ k → ¬ (xs j).hasH hh := fun j hj hne hx => hne (k3 j hj hx)
      rcases (ht hh).1 k2 with f | f
      · refine ⟨k, by omega, by rw [u1, e1]; exact f, fun j hj hx => ?_⟩
        rcases hj3 j hj with g | g | g
        · rw [u3 j g.1 g.2] at hx; exact absurd hx (hin j g.1 g.2)
        · exact g
        · rw [g, u2, e2] at hx; omega
      · refine ⟨N, by omega, by rw [u2, e2]; exact f, fun j hj hx => ?_⟩
        rcases hj3 j hj with g | g | g
        · rw [u3 j g.1 g.2] at hx; exact absurd hx (hin j g.1 g.2)
        · rw [g, u1, e1] at hx; omega
        · exact g
    · have hno : ¬ (xs i).hasH hh := fun hx => e (k3 i hi hx).symm
      have hno' : ¬ topN hh (xs i).d = (xs i).p := hno
      rw [ht hh] at hno'
      refine ⟨k, by omega, by rw [u3 k k1 e]; exact k2, fun j hj hx => ?_⟩
      rcases hj3 j hj with g | g | g
      · rw [u3 j g.1 g.2] at hx; exact k3 j g.1 hx
      · rw [g, u1, e1] at hx; exact absurd (.inl hx) hno'
      · rw [g, u2, e2] at hx; exact absurd (.inr hx) hno'
  · have hs := h.sum
    have hu := sumW_upd (f := fun j => 2 ^ (5 - (xs j).d)) (y := 2 ^ (5 - ((xs i).d + 1))) hi
    unfold sumW
    rw [show 2 ^ (5 - (ys N).d) = 2 ^ (5 - ((xs i).d + 1)) by rw [u2, h2.2]]
    rw [sumW_congr (n := N) (g := Go.Proofs.YtolhmibejhldkaaGreatDoor.upd (fun j => 2 ^ (5 - (xs j).d)) i (2 ^ (5 - ((xs i).d + 1)))) (fun j hj => by
      show 2 ^ (5 - (ys j).d) = _
      by_cases e : j = i
      · subst e; rw [upd_same, u1, h1.2]
      · rw [upd_other _ _ e, u3 j hj e])]
    have hp : 2 ^ (5 - (xs i).d) = 2 ^ (5 - ((xs i).d + 1)) + 2 ^ (5 - ((xs i).d + 1)) := by
      rw [show 5 - (xs i).d = (5 - ((xs i).d + 1)) + 1 by omega, Nat.pow_succ]; omega
    have hu' : sumW (Go.Proofs.YtolhmibejhldkaaGreatDoor.upd (fun j => 2 ^ (5 - (xs j).d)) i (2 ^ (5 - ((xs i).d + 1)))) N + 2 ^ (5 - (xs i).d) = 32 + 2 ^ (5 - ((xs i).d + 1)) := by rw [← hs]; exact hu
    omega
theorem PD.new : PD 1 (fun _ => NdS.idle 0 0 (TabS.new 1)) := by
  refine ⟨fun _ _ => by decide, fun h hh => ⟨0, by decide, ?_, fun j hj _ => by omega⟩, rfl⟩
  show topN h 0 = 0
  have := topN_lt hh (show 0 ≤ 64 by decide)
  omega
structure NL (N : Nat) (xs : Nat → NdS) (H : Int → Nat) (P : Int → Bool) (v : Int → Int) : Prop where
  pd : PD N xs
  na : ∀ i, i < N → NA (xs i) H P v
def NLo (N i : Nat) (xs : Nat → NdS) (H : Int → Nat) (P : Int → Bool) (v : Int → Int) : Prop := PD N xs ∧ ∀ j, j < N → j ≠ i → NA (xs j) H P v
theorem NL.o (h : NL N xs H P v) (i : Nat) : NLo N i xs H P v := ⟨h.pd, fun j hj _ => h.na j hj⟩
theorem NLo.upd (h : NLo N i xs H P v) (hp : x1.p = (xs i).p ∧ x1.d = (xs i).d) : NLo N i (Go.Proofs.YtolhmibejhldkaaGreatDoor.upd xs i x1) H P v :=
  ⟨h.1.upd hp, fun j hj hne => by rw [upd_other _ _ hne]; exact h.2 j hj hne⟩
theorem NLo.key {P' : Int → Bool} {v' : Int → Int} (h : NLo N i xs H P v) (hi : i < N) (hHb : ∀ q, H q < 18446744073709551616) (q : Int) (hq : (xs i).hasH (H q)) (hP : ∀ q', q' ≠ q → P' q' = P q' ∧ v' q' = v q') : NLo N i xs H P' v' :=
  ⟨h.1, fun j hj hne => (h.2 j hj hne).other fun q' hq' => hP q' (fun e => by
    subst e
    obtain ⟨k, k1, k2, k3⟩ := h.1.one (H q') (hHb q')
    exact hne ((k3 j hj hq').trans (k3 i hi hq).symm))⟩
theorem NLo.done (h : NLo N i xs H P v) (hx : NA (xs i) H P v) : NL N xs H P v :=
  ⟨h.1, fun j hj => by
    by_cases e : j = i
    · rw [e]; exact hx
    · exact h.2 j hj e⟩
theorem NLo.two (h : NLo N i xs H P v) (hi : i < N) (hd : (xs i).d < 5) (h1 : x1.p = 2 * (xs i).p ∧ x1.d = (xs i).d + 1) (h2 : x2.p = 2 * (xs i).p + 1 ∧ x2.d = (xs i).d + 1) (n1 : NA x1 H P v) (n2 : NA x2 H P v) : NL (N + 1) (Go.Proofs.YtolhmibejhldkaaGreatDoor.upd (Go.Proofs.YtolhmibejhldkaaGreatDoor.upd xs i x1) N x2) H P v :=
  ⟨h.1.two hi hd h1 h2, fun j hj => by
    by_cases e : j = N
    · rw [e, upd_same]; exact n2
    · rw [upd_other _ _ e]
      by_cases f : j = i
      · rw [f, upd_same]; exact n1
      · rw [upd_other _ _ f]; exact h.2 j (by omega) f⟩
theorem NA.find {x : NdS} (h : NA x H P v) (q : Int) (hq : x.hasH (H q)) : x.s.has q (H q) = P q ∧ (P q = true → (x.s.ent q (H q)).val = v q) := by
  obtain ⟨m1, m, c, hl⟩ : ∃ m1 m c, DuL x.s H m c (ndP H x.p x.d P) (ndV H x.p x.d P v) := by
    rcases h with ⟨-, h⟩ | ⟨-, j, h, -⟩
    · obtain ⟨c, hl⟩ := h.l; exact ⟨0, _, c, hl⟩
    · obtain ⟨c, hl⟩ := h.l; exact ⟨0, _, c, hl⟩
  have hpq : ndP H x.p x.d P q = P q := by unfold ndP; rw [decide_eq_true (show topN (H q) x.d = x.p from hq), Bool.and_true]
  refine ⟨(hl.p q).trans hpq, fun e => ?_⟩
  rw [hl.e q]
  unfold ndV
  rw [if_pos (hpq.trans e)]
end
end Go.Proofs.YtolhmibejhldkaaGreatDoor

namespace Go.Proofs.YtolhmibejhldkaaGreatDoor
open Go.RowKit Go.Proofs
attribute [local go_sem] neq_nilG eql_nilG
section
variable {w w0 : World} {N : Nat} {Nb : Nat → Nat} {xs : Nat → NdS} {M : Nat} {K : Nat → Prop} {E : Nat → Addr}
set_option maxRecDepth 100000 in
set_option maxHeartbeats 4000000 in
theorem of_any {B G cap : Nat} (h : NZs w N Nb xs M K E w0) (hB : w.cell? ⟨B, 0, none⟩ = some (.slice (some ⟨G, 0, none⟩) N cap)) (hG : ∀ j, j < N → w.cell? ⟨G, j, none⟩ = some (.pointer (some ⟨Nb j, 0, none⟩))) (zB : B < w.heap.size) (zG : G < w.heap.size) (hP : PD N xs) (hp : ∀ j, j < N → (xs j).p < 2 ^ (xs j).d) (hh : Nat) (hlt : hh < 18446744073709551616) :
    Calls Tryz.prog 7 #[.int .u64 (hh : Int), .pointer (some ⟨B, 0, none⟩)] w fun e w' => ∃ i, i < N ∧ (xs i).hasH hh ∧ e = .returned (.pointer (some ⟨Nb i, 0, none⟩)) ∧ Below w.heap.size w w' := by
  have HZ := Lib.hid h
  have HG := Lib.hid hG
  have HP := Lib.hid hP
  have PX := Lib.hid (fun (j : Nat) (hj : j < N) (W : World) (hb : Below w.heap.size w W) => (h.later hb).prefixC hj)
  have WI := Lib.hid (fun (j : Nat) (hj : j < N) (W : World) => within_ok hh (xs j).p (xs j).d hlt (by have := hP.d j hj; omega) (hp j hj) W)
  have hN := hP.le
  obtain ⟨i0, hi0, hx0, -⟩ := hP.one hh hlt
  have HI := Lib.hid (And.intro hi0 hx0)
  clear h hG hP hp hi0 hx0
  go_enter Tryz.func7, Tryz.ntmps7
  go_wp2
  go_loopg [10] N (fun gk v10 wr => ∃ j : Nat, j + gk = N ∧ v10 = .int .i64 (j : Int) ∧ (∀ k, k < j → ¬ (xs k).hasH hh) ∧ Below w.heap.size w wr)
  case atStart => exact ⟨0, by omega, rfl, fun k hk => by omega, Below.refl _ _⟩
  case round =>
    obtain ⟨j, hj, rfl, hno, hbr⟩ := hrel
    have KB := Lib.hid hbr
    have NO := Lib.hid hno
    clear hbr hno
    by_cases hjN : j < N
    · have hjI : (j : Int) < (N : Int) := by omega
      have gl := (KB.out.cell (p := ⟨G, j, none⟩) zG).trans (HG.out j hjN)
      have zGr := Nat.lt_of_lt_of_le zG KB.out.size
      have PXj := Lib.hid (PX.out j hjN wr KB.out)
      have WIj := Lib.hid (WI.out j hjN)
      have HJ := Lib.hid (show (xs j).hasH hh ↔ topN hh (xs j).d = (xs j).p from Iff.rfl)
      by_cases hx : topN hh (xs j).d = (xs j).p
      · rw [decide_eq_true hx] at WIj
        have HX := Lib.hid hx
        clear hx
        go_wp2_with (first | (go_at_call 8; (with_reducible refine PXj.out.mono ?_); rintro e w1 ⟨rfl, hb1⟩; have B1 := Lib.hid (KB.out.trans (hb1.mono KB.out.size))) | (go_at_call 9; (with_reducible refine (WIj.out _).mono ?_); rintro e w2 ⟨rfl, rfl⟩))
        go_ret
        exact ⟨j, hjN, HX.out, rfl, B1.out⟩
      · rw [decide_eq_false hx] at WIj
        have HX := Lib.hid hx
        clear hx
        go_wp2_with (first | (go_at_call 8; (with_reducible refine PXj.out.mono ?_); rintro e w1 ⟨rfl, hb1⟩; have B1 := Lib.hid (KB.out.trans (hb1.mono KB.out.size))) | (go_at_call 9; (with_reducible refine (WIj.out _).mono ?_); rintro e w2 ⟨rfl, rfl⟩))
        go_roundg (gk - 1)
        case measure => omega
        case rel => exact ⟨j + 1, by omega, by go_num, fun k hk => (by
          by_cases e : k = j
          · rw [e]; exact HX.out
          · exact NO.out k (by omega)), B1.out⟩
    · exact absurd HI.out.2 (NO.out _ (by have := HI.out.1; omega))
end
end Go.Proofs.YtolhmibejhldkaaGreatDoor

namespace Go.Proofs.YtolhmibejhldkaaGreatDoor
open Go.RowKit Go.Proofs
attribute [local go_sem] neq_nilG eql_nilG
def alS : Nat → DuS
  | 0 => DuS.newS 1 0 64 (TabS.new 1)
  | k + 1 => (alS k).put k 0 (k * 1152921504606846976) true
def alX (k : Nat) : NdS := ⟨0, 0, 0, false, alS k⟩
def alJ : NdS := (alX 4).sta 2
theorem al_put : ∀ k, k < 4 → (alS k).putB k (k * 1152921504606846976) true = true ∧ (alS k).putN k (k * 1152921504606846976) true = 0 := by decide +kernel
theorem al_w : (alX 4).wants 0 = 2 ∧ (alX 4).dbl 0 = false ∧ badF 2 ((alX 4).s.T.n : Int) = 0 := by decide +kernel
theorem al_l : alJ.s.left = 3 ∧ alJ.stp.s.left = 2 ∧ alJ.stp.stp.s.left = 1 ∧ alJ.stp.stp.stp.s.left = 0 ∧ alJ.stp.stp.stp.s.k = 1 ∧ (alJ.stp.stp.stp.s.U 0).n = 2 ∧ (alJ.stp.stp.stp.s.U 0).lv = 4 ∧ alJ.s.bare = 2 ∧ alJ.stp.s.bare = 1 ∧ alJ.bz = true ∧ alJ.stp.bz = true ∧ alJ.stp.stp.bz = true ∧ alJ.stp.stp.stp.bz = true := by decide +kernel
theorem al_e : alJ.stp.stp.s.evOk := by
  have h : EvOk alJ.stp.stp.s.k alJ.stp.stp.s.d (entsL (alJ.stp.stp.s.T.M alJ.stp.stp.s.nx) (alJ.stp.stp.s.T.S alJ.stp.stp.s.nx)) alJ.stp.stp.s.U := by unfold EvOk; decide +kernel
  exact fun _ _ => h
section
variable {w w' w0 : World} {N i : Nat} {Nb : Nat → Nat} {xs : Nat → NdS} {M : Nat} {K K' : Nat → Prop} {E : Nat → Addr}
theorem NZs.lenI (h : NZs w N Nb xs M K E w0) (hi : i < N) (hz : (xs i).bz = false) : Calls Tryz.prog 35 #[.pointer (some ⟨Nb i, 0, none⟩)] w fun e w' => e = .returned (.int .i64 (xs i).s.T.lv) ∧ w = w' := by
  obtain ⟨a, mt, h⟩ := h
  exact (h.v i hi).lenI hz
theorem NZs.groupsI (h : NZs w N Nb xs M K E w0) (hi : i < N) (hz : (xs i).bz = false) : Calls Tryz.prog 34 #[.pointer (some ⟨Nb i, 0, none⟩)] w fun e w' => e = .returned (.int .i64 ((xs i).s.T.n : Int)) ∧ w = w' := by
  obtain ⟨a, mt, h⟩ := h
  exact (h.v i hi).groupsI hz
def N1s (w : World) (D : Nat) (x : NdS) (M : Nat) (K : Nat → Prop) (E : Nat → Addr) (w0 : World) : Prop := ∃ Nb xs, Nb 0 = D ∧ xs 0 = x ∧ NZs w 1 Nb xs M K E w0
theorem N1s.mk {w1 : World} {D : Nat} {a : Nat → Nat} {x : NdS} (hv : ND w1 D a x E w0) (hb : Below w0.heap.size w0 w1) (hK : ∀ b, ¬ K b) : N1s (w1.alloc (.cells MeterS.zero.cells 37)) D x w1.heap.size K E w0 := by
  have hb1 : Below w1.heap.size w1 (w1.alloc (.cells MeterS.zero.cells 37)) := (Below.refl _ _).alloc (Nat.le_refl _) _
  refine ⟨fun _ => D, fun _ => x, rfl, rfl, fun _ => a, MeterS.zero, ⟨fun j _ => hv.later hb1, Blk.new _ _ _, rfl, ⟨hb.size, hK _⟩, fun j _ b e => ⟨?_, hK b⟩, fun j j2 h1 h2 hne => by omega, fun b e => absurd e (hK b), hb.trans (hb1.mono hb.size)⟩⟩
  have := (hv.bx e).1
  omega
variable {D : Nat} {x : NdS}
theorem N1s.later (h : N1s w D x M K E w0) (hb : Below w.heap.size w w') : N1s w' D x M K E w0 := by
  obtain ⟨Nb, xs, h1, h2, h3⟩ := h
  exact ⟨Nb, xs, h1, h2, h3.later hb⟩
theorem N1s.put (h : N1s w D x M K E w0) (key v : Int) (hh : Nat) (hb : hh < 18446744073709551616) (more : Bool) (x1 y1 z1 : Int) :
    Calls Tryz.prog 12 #[.pointer (some ⟨D, 0, none⟩), .agg #[.pointer (some ⟨M, 0, none⟩), .int .i64 x1, .int .i64 y1, .int .i64 z1], .agg #[.int .u64 key, .int .u64 v, .int .u64 (hh : Int)], .bool more] w fun e w' =>
      e = .returned (.tuple #[.bool (x.s.putB key hh more), errN E (x.s.putN key hh more)]) ∧ N1s w' D { x with s := x.s.put key v hh more } M K E w0 := by
  obtain ⟨Nb, xs, rfl, rfl, h3⟩ := h
  exact (h3.put (i := 0) (by decide) key v hh hb more x1 y1 z1).mono (fun e w' ⟨a1, a2, _⟩ => ⟨a1, Nb, _, rfl, upd_same .., a2⟩)
theorem N1s.step (h : N1s w D x M K E w0) (hev : x.bz = true → x.s.evOk) :
    Calls Tryz.prog 15 #[.pointer (some ⟨D, 0, none⟩), .pointer (some ⟨M, 0, none⟩)] w fun e w' => e = .returned (.bool (x.bz && decide (0 < x.s.left))) ∧ N1s w' D x.stp M K E w0 := by
  obtain ⟨Nb, xs, rfl, rfl, h3⟩ := h
  exact (h3.step (i := 0) (by decide) hev).mono (fun e w' ⟨a1, a2, _⟩ => ⟨a1, Nb, _, rfl, upd_same .., a2⟩)
theorem N1s.startOk (h : N1s w D x M K E w0) (hz : x.bz = false) (kind : Int) (hbad : badF kind (x.s.T.n : Int) = 0) (hd : kind = 3 → x.d < 5) :
    Calls Tryz.prog 14 #[.pointer (some ⟨D, 0, none⟩), .int .i64 kind] w fun e w' => e = .returned .nilIface ∧ N1s w' D (x.sta kind) M K E w0 := by
  obtain ⟨Nb, xs, rfl, rfl, h3⟩ := h
  exact (h3.startOk (i := 0) (by decide) hz kind hbad hd).mono (fun e w' ⟨a1, a2, _⟩ => ⟨a1, Nb, _, rfl, upd_same .., a2⟩)
theorem N1s.endOne (h : N1s w D x M K E w0) (hz : x.bz = true) (hn : x.s.left = 0) (hk : x.s.k = 1) :
    Calls Tryz.prog 17 #[.pointer (some ⟨D, 0, none⟩)] w fun e w' => e = .returned (.tuple #[.pointer none, .nilIface]) ∧ N1s w' D (NdS.idle x.p x.d (x.s.U 0)) M K E w0 := by
  obtain ⟨Nb, xs, rfl, rfl, h3⟩ := h
  exact (h3.endOne (i := 0) (by decide) hz hn hk).mono (fun e w' ⟨a1, a2, _⟩ => ⟨a1, Nb, _, rfl, upd_same .., a2⟩)
theorem N1s.bel (h : N1s w D x M K E w0) : Below w0.heap.size w0 w := by
  obtain ⟨Nb, xs, rfl, rfl, h3⟩ := h
  exact h3.bel
theorem N1s.doneC (h : N1s w D x M K E w0) : Calls Tryz.prog 16 #[.pointer (some ⟨D, 0, none⟩)] w fun e w' => e = .returned (.bool (x.bz && decide (x.s.left = 0))) ∧ Below w.heap.size w w' := by
  obtain ⟨Nb, xs, rfl, rfl, h3⟩ := h
  exact h3.doneC (by decide)
theorem N1s.wantsC (h : N1s w D x M K E w0) (gl : Int) : Calls Tryz.prog 13 #[.pointer (some ⟨D, 0, none⟩), .int .i64 gl] w fun e w' => e = .returned (.tuple #[.int .i64 (x.wants gl), .bool (x.dbl gl)]) ∧ Below w.heap.size w w' := by
  obtain ⟨Nb, xs, rfl, rfl, h3⟩ := h
  exact h3.wantsC (by decide) gl
theorem N1s.lenI (h : N1s w D x M K E w0) (hz : x.bz = false) : Calls Tryz.prog 35 #[.pointer (some ⟨D, 0, none⟩)] w fun e w' => e = .returned (.int .i64 x.s.T.lv) ∧ w = w' := by
  obtain ⟨Nb, xs, rfl, rfl, h3⟩ := h
  exact h3.lenI (by decide) hz
theorem N1s.groupsI (h : N1s w D x M K E w0) (hz : x.bz = false) : Calls Tryz.prog 34 #[.pointer (some ⟨D, 0, none⟩)] w fun e w' => e = .returned (.int .i64 (x.s.T.n : Int)) ∧ w = w' := by
  obtain ⟨Nb, xs, rfl, rfl, h3⟩ := h
  exact h3.groupsI (by decide) hz
end
set_option maxRecDepth 100000 in
set_option maxHeartbeats 8000000 in
theorem alive15_any (E : Nat → Addr) (w : World) (he : EC w E [1, 2, 4, 5, 14, 16]) (hT : Tab64 w) :
    Calls Tryz.prog 5 #[] w fun e w' => e = .returned (.bool true) ∧ Below w.heap.size w w' := by
  have NW := Lib.hid (nodeNew_ok (w := w) (w0 := w) 0 0 (by decide) (by decide) he hT (Below.refl _ _))
  simp only [show ((0 : Nat) : Int) = 0 from rfl] at NW
  clear he hT
  go_enter Tryz.func5, Tryz.ntmps5
  go_wp2_with (go_at_call 6; (with_reducible refine NW.out.mono ?_); rintro e w1 ⟨D, a, rfl, hD, hv, hX, hb1⟩; have V1 := Lib.hid hv; have B1 := Lib.hid hb1; clear hv hX hb1)
  have S3 := Lib.hid (N1s.mk (K := fun _ => False) V1.out B1.out (fun b e => e))
  simp only [MeterS.cells, MeterS.zero] at S3
  obtain ⟨M, hM⟩ : ∃ M, M = w1.heap.size := ⟨_, rfl⟩
  simp only [← hM] at S3 ⊢
  clear hM V1 B1 NW
  have S4 := Lib.hid (show N1s _ D (alX 0) M (fun _ => False) E w from S3.out)
  clear S3
  go_loopw [22] (fun v22 wr => ∃ k : Nat, k ≤ 4 ∧ v22 = .int .u64 (k : Int) ∧ N1s wr D (alX k) M (fun _ => False) E w) (fun v22 _ => 4 - (intOf v22).toNat)
  case atStart => exact ⟨0, by omega, rfl, S4.out⟩
  case round =>
    clear S4
    obtain ⟨k, hk, rfl, hS⟩ := hrel
    have KS := Lib.hid hS
    clear hS
    by_cases hlt : k < 4
    · have hltI : (k : Int) < 4 := by omega
      have PU := Lib.hid (fun (W : World) (h' : N1s W D (alX k) M (fun _ => False) E w) => h'.put (k : Int) 0 (k * 1152921504606846976) (by omega) true 1 0 0)
      have e1 : (alX k).s.putB (k : Int) (k * 1152921504606846976) true = true := (al_put k hlt).1
      have e2 : (alX k).s.putN (k : Int) (k * 1152921504606846976) true = 0 := (al_put k hlt).2
      rw [e1, e2, errN_0] at PU
      have hq : IntKind.u64.wrap ((k : Int) * 2 ^ 60) = ((k * 1152921504606846976 : Nat) : Int) := by
        rw [show ((k : Int) * 2 ^ 60) = ((k * 1152921504606846976 : Nat) : Int) by simp]
        exact IntWalk.u64_in _ (by omega)
      have hq2 : IntKind.u64.wrap ((k : Int) * 1152921504606846976) = ((k * 1152921504606846976 : Nat) : Int) := by
        rw [← hq]; rfl
      have HN := Lib.hid (fun (W : World) (h' : N1s W D { alX k with s := (alX k).s.put (k : Int) 0 (k * 1152921504606846976) true } M (fun _ => False) E w) => (show N1s W D (alX (k + 1)) M (fun _ => False) E w from h'))
      clear e1 e2
      generalize k * 1152921504606846976 = hh at *
      go_wp2_with (first | (go_at_call 11; (with_reducible refine (probing_any _ _).mono ?_); rintro e w2 ⟨rfl, hb2⟩; have KS2 := Lib.hid (KS.out.later hb2)) | (go_at_call 12; (with_reducible refine (PU.out _ KS2.out).mono ?_); rintro e w3 ⟨rfl, hs3⟩; have KS3 := Lib.hid (HN.out _ hs3); clear hs3))
      go_roundw
      case measure => simp [intOf]; omega
      case rel => exact ⟨k + 1, by omega, by go_num, KS3.out⟩
    · obtain rfl : k = 4 := by omega
      obtain ⟨w1, w2, w3⟩ := al_w
      obtain ⟨l1, l2, l3, l4, l5, l6, l7, l8, l9, z1, z2, z3, z4⟩ := al_l
      have WN := Lib.hid (KS.out.wantsC 0)
      rw [w1, w2] at WN
      have ST := Lib.hid (fun (W : World) (h' : N1s W D (alX 4) M (fun _ => False) E w) => h'.startOk rfl 2 w3 (fun e => by cases e))
      have T1 := Lib.hid (fun (W : World) (h' : N1s W D alJ M (fun _ => False) E w) => h'.step (fun _ h0 => by omega))
      rw [z1, l1] at T1
      have T2 := Lib.hid (fun (W : World) (h' : N1s W D alJ.stp M (fun _ => False) E w) => h'.step (fun _ h0 => by omega))
      rw [z2, l2] at T2
      have T3 := Lib.hid (fun (W : World) (h' : N1s W D alJ.stp.stp M (fun _ => False) E w) => h'.step (fun _ => al_e))
      rw [z3, l3] at T3
      have DN := Lib.hid (fun (W : World) (h' : N1s W D alJ.stp.stp.stp M (fun _ => False) E w) => h'.doneC)
      rw [z4, l4] at DN
      have EN := Lib.hid (fun (W : World) (h' : N1s W D alJ.stp.stp.stp M (fun _ => False) E w) => h'.endOne z4 l4 l5)
      have GR := Lib.hid (fun (W : World) (h' : N1s W D (NdS.idle alJ.stp.stp.stp.p alJ.stp.stp.stp.d (alJ.stp.stp.stp.s.U 0)) M (fun _ => False) E w) => h'.groupsI rfl)
      have LE := Lib.hid (fun (W : World) (h' : N1s W D (NdS.idle alJ.stp.stp.stp.p alJ.stp.stp.stp.d (alJ.stp.stp.stp.s.U 0)) M (fun _ => False) E w) => h'.lenI rfl)
      rw [show (NdS.idle alJ.stp.stp.stp.p alJ.stp.stp.stp.d (alJ.stp.stp.stp.s.U 0)).s.T.n = 2 from l6] at GR
      rw [show (NdS.idle alJ.stp.stp.stp.p alJ.stp.stp.stp.d (alJ.stp.stp.stp.s.U 0)).s.T.lv = 4 from l7] at LE
      simp only [show ((2 : Nat) : Int) = 2 from rfl] at GR
      have HJ := Lib.hid (fun (W : World) (h' : N1s W D ((alX 4).sta 2) M (fun _ => False) E w) => (show N1s W D alJ M (fun _ => False) E w from h'))
      clear w1 w2 w3 l1 l2 l3 l4 l5 l6 l7 l8 l9 z1 z2 z3 z4
      generalize alJ.stp.stp.stp = y3 at *
      generalize alJ.stp.stp = y2 at *
      generalize alJ.stp = y1 at *
      generalize (alX 4).sta 2 = y0' at *
      generalize alJ = y0 at *
      generalize NdS.idle y3.p y3.d (y3.s.U 0) = y4 at *
      generalize alX 4 = x4 at *
      go_wp2_with (first
        | (go_at_call 13; (with_reducible refine WN.out.mono ?_); rintro e w2 ⟨rfl, hb2⟩; have R2 := Lib.hid (KS.out.later hb2); clear hb2)
        | (go_at_call 14; (with_reducible refine (ST.out _ R2.out).mono ?_); rintro e w3 ⟨rfl, hs3⟩; have R3 := Lib.hid (HJ.out _ hs3); clear hs3)
        | (go_at_call 15; (with_reducible refine (T1.out _ R3.out).mono ?_); rintro e w4 ⟨rfl, hs4⟩; have R4 := Lib.hid hs4; clear hs4 T1)
        | (go_at_call 15; (with_reducible refine (T2.out _ R4.out).mono ?_); rintro e w5 ⟨rfl, hs5⟩; have R5 := Lib.hid hs5; clear hs5 T2)
        | (go_at_call 15; (with_reducible refine (T3.out _ R5.out).mono ?_); rintro e w6 ⟨rfl, hs6⟩; have R6 := Lib.hid hs6; clear hs6 T3)
        | (go_at_call 16; (with_reducible refine (DN.out _ R6.out).mono ?_); rintro e w7 ⟨rfl, hb7⟩; have R7 := Lib.hid (R6.out.later hb7); clear hb7)
        | (go_at_call 17; (with_reducible refine (EN.out _ R7.out).mono ?_); rintro e w8 ⟨rfl, hs8⟩; have R8 := Lib.hid hs8; clear hs8)
        | (go_at_call 34; (with_reducible refine (GR.out _ R8.out).mono ?_); rintro e w9 ⟨rfl, rfl⟩)
        | (go_at_call 35; (with_reducible refine (LE.out _ R8.out).mono ?_); rintro e w9 ⟨rfl, rfl⟩))
      go_ret
      exact ⟨rfl, R8.out.bel⟩
end Go.Proofs.YtolhmibejhldkaaGreatDoor

namespace Go.Proofs.YtolhmibejhldkaaGreatDoor
open Go.RowKit Go.Proofs
structure NFs (w : World) (N : Nat) (Nb : Nat → Nat) (xs : Nat → NdS) (M B G cap VB VU n : Nat) (K : Nat → Prop) (th : Nat → Bool) (va : Nat → Int) (E : Nat → Addr) (w0 : World) : Prop where
  z : NZs w N Nb xs M K E w0
  b : Blk w B 31 #[.slice (some ⟨G, 0, none⟩) N cap]
  g : w.ownsRow w0.heap.size 25 1 (.slice (some ⟨G, 0, none⟩) N cap) N ((List.range N).map (fun i => Value.pointer (some ⟨Nb i, 0, none⟩)))
  v : TV w VB VU n th va
  k : K B ∧ K G ∧ K VB ∧ K VU
  v0 : w0.heap.size ≤ B ∧ w0.heap.size ≤ VB ∧ w0.heap.size ≤ VU ∧ B ≠ VB ∧ B ≠ VU ∧ B ≠ G ∧ G ≠ VB ∧ G ≠ VU
section
variable {w w' w0 : World} {N i M B G cap VB VU n : Nat} {Nb Nb' : Nat → Nat} {xs xs' : Nat → NdS} {K K' : Nat → Prop} {th : Nat → Bool} {va : Nat → Int} {E : Nat → Addr}
theorem NZs.keep (h : NZs w N Nb xs M K E w0) (hb : Below w.heap.size w w') (hK : ∀ b, K' b → K b ∨ (w.heap.size ≤ b ∧ b < w'.heap.size)) : NZs w' N Nb xs M K' E w0 := by
  obtain ⟨a, mt, h1⟩ := h
  have h2 := h1.later hb
  refine ⟨a, mt, h2.own (fun b e => ?_)⟩
  rcases hK b e with f | f
  · exact ⟨h2.kz b f, .inl f⟩
  · exact ⟨f.2, .inr ⟨fun e2 => by have := h1.m.lt; omega, fun j hj e2 => by have := ((h1.v j hj).bx e2).1; omega⟩⟩
theorem row_own {g : Nat} {c : Nat} {m : Nat} : ∀ b, (Value.slice (some ⟨g, 0, none⟩) m c).ownBlock = some b → b = g := fun b e => by
  have : some g = some b := e
  cases this; rfl
theorem NFs.later (h : NFs w N Nb xs M B G cap VB VU n K th va E w0) (hb : Below w.heap.size w w') : NFs w' N Nb xs M B G cap VB VU n K th va E w0 := ⟨h.z.later hb, h.b.below hb h.b.lt, ownsRow_later h.g hb, h.v.later hb, h.k, h.v0⟩
theorem NFs.turn (h : NFs w N Nb xs M B G cap VB VU n K th va E w0) (hz : NZs w' N Nb xs' M K E w0) (hc : Chg (KC K w0.heap.size) w w') : NFs w' N Nb xs' M B G cap VB VU n K th va E w0 :=
  ⟨hz, h.b.chg hc (fun e => e.2 h.k.1), ownsRow_chgB h.g hc (fun b e => by rw [row_own b e]; exact fun e => e.2 h.k.2.1), h.v.chg hc (fun e => e.2 h.k.2.2.1) (fun e => e.2 h.k.2.2.2), h.k, h.v0⟩
theorem NFs.keep (h : NFs w N Nb xs M B G cap VB VU n K th va E w0) (hb : Below w.heap.size w w') (hK : ∀ b, K' b → K b ∨ (w.heap.size ≤ b ∧ b < w'.heap.size)) (hk : K' B ∧ K' G ∧ K' VB ∧ K' VU) : NFs w' N Nb xs M B G cap VB VU n K' th va E w0 :=
  ⟨h.z.keep hb hK, h.b.below hb h.b.lt, ownsRow_later h.g hb, h.v.later hb, hk, h.v0⟩
theorem NFs.kept {Y : Nat → Prop} (h : NFs w N Nb xs M B G cap VB VU n K th va E w0) (hc : Chg Y w w') (hY : ∀ b, Y b → K b ∧ w0.heap.size ≤ b ∧ b ≠ B ∧ b ≠ G ∧ b ≠ VB ∧ b ≠ VU) : NFs w' N Nb xs M B G cap VB VU n K th va E w0 :=
  ⟨h.z.kept hc (fun b e => ⟨(hY b e).1, (hY b e).2.1⟩), h.b.chg hc (fun e => (hY _ e).2.2.1 rfl), ownsRow_chgB h.g hc (fun b e f => by rw [row_own b e] at f; exact (hY _ f).2.2.2.1 rfl), h.v.chg hc (fun e => (hY _ e).2.2.2.2.1 rfl) (fun e => (hY _ e).2.2.2.2.2 rfl), h.k, h.v0⟩
theorem NFs.setB (h : NFs w N Nb xs M B G cap VB VU n K th va E w0) {x : Nat} (hx : x < n) (t : Bool) : NFs (w.setCell ⟨VB, x, none⟩ (.bool t)) N Nb xs M B G cap VB VU n K (upd th x t) va E w0 := by
  have hc : Chg (fun b => b = VB) w (w.setCell ⟨VB, x, none⟩ (.bool t)) := (Chg.refl (fun b => b = VB) w).set1 x _
  exact ⟨h.z.kept hc (fun b e => by rw [e]; exact ⟨h.k.2.2.1, h.v0.2.1⟩), h.b.chg hc h.v0.2.2.2.1, ownsRow_chgB h.g hc (fun b e => by rw [row_own b e]; exact h.v0.2.2.2.2.2.2.1), h.v.setB hx t, h.k, h.v0⟩
theorem NFs.setU (h : NFs w N Nb xs M B G cap VB VU n K th va E w0) {x : Nat} (hx : x < n) (v : Int) : NFs (w.setCell ⟨VU, x, none⟩ (.int .u64 v)) N Nb xs M B G cap VB VU n K th (upd va x v) E w0 := by
  have hc : Chg (fun b => b = VU) w (w.setCell ⟨VU, x, none⟩ (.int .u64 v)) := (Chg.refl (fun b => b = VU) w).set1 x _
  exact ⟨h.z.kept hc (fun b e => by rw [e]; exact ⟨h.k.2.2.2, h.v0.2.2.1⟩), h.b.chg hc h.v0.2.2.2.2.1, ownsRow_chgB h.g hc (fun b e => by rw [row_own b e]; exact h.v0.2.2.2.2.2.2.2), h.v.setU hx v, h.k, h.v0⟩
theorem NZs.pd (h : NZs w N Nb xs M K E w0) : ∀ j, j < N → (xs j).p < 2 ^ (xs j).d := fun j hj => by
  obtain ⟨a, mt, h1⟩ := h
  exact (h1.v j hj).pd.2
theorem NFs.of (h : NFs w N Nb xs M B G cap VB VU n K th va E w0) (hN : 1 ≤ N) (hP : PD N xs) (hh : Nat) (hlt : hh < 18446744073709551616) :
    Calls Tryz.prog 7 #[.int .u64 (hh : Int), .pointer (some ⟨B, 0, none⟩)] w fun e w' => ∃ i, i < N ∧ (xs i).hasH hh ∧ e = .returned (.pointer (some ⟨Nb i, 0, none⟩)) ∧ NFs w' N Nb xs M B G cap VB VU n K th va E w0 ∧ Below w.heap.size w w' := by
  obtain ⟨g, c, cur, e1, e2, e3, e4⟩ := row_ptrsG h.g hN
  cases e1
  exact (of_any h.z (h.b.cell 0) e4 h.b.lt e3.lt hP h.z.pd hh hlt).mono (fun e w' ⟨i, a1, a2, a3, a4⟩ => ⟨i, a1, a2, a3, h.later a4, a4⟩)
end
end Go.Proofs.YtolhmibejhldkaaGreatDoor

namespace Go.Proofs.YtolhmibejhldkaaGreatDoor
open Go.RowKit Go.Proofs
def thP (n : Nat) (th : Nat → Bool) (q : Int) : Bool := decide (0 ≤ q ∧ q < (n : Int)) && th q.toNat
def vaV (va : Nat → Int) (q : Int) : Int := if 0 ≤ q then va q.toNat else 0
theorem thP_in {n : Nat} {th : Nat → Bool} {x : Nat} (hx : x < n) : thP n th (x : Int) = th x := by
  unfold thP; rw [decide_eq_true ⟨by omega, by omega⟩, Int.toNat_natCast, Bool.true_and]
theorem vaV_in {va : Nat → Int} {x : Nat} : vaV va (x : Int) = va x := by unfold vaV; rw [if_pos (by omega), Int.toNat_natCast]
theorem thP_keys {n : Nat} {th : Nat → Bool} (q : Int) (h : thP n th q = true) : 0 ≤ q ∧ q < (n : Int) := by
  unfold thP at h
  rw [Bool.and_eq_true, decide_eq_true_eq] at h
  exact h.1
theorem thP_put {n : Nat} {th : Nat → Bool} {x : Nat} (hx : x < n) (t : Bool) : putP (thP n th) (x : Int) t = thP n (upd th x t) := by
  funext q
  unfold putP
  by_cases e : q = (x : Int)
  · rw [if_pos e, e, thP_in hx, upd_same]
  · rw [if_neg e]
    unfold thP
    by_cases c : 0 ≤ q ∧ q < (n : Int)
    · rw [upd_other _ _ (by omega)]
    · rw [decide_eq_false c]; rfl
theorem vaV_put {va : Nat → Int} {x : Nat} (val : Int) : (fun q' => if q' = (x : Int) then val else vaV va q') = vaV (upd va x val) := by
  funext q
  by_cases e : q = (x : Int)
  · rw [if_pos e, e, vaV_in, upd_same]
  · rw [if_neg e]
    unfold vaV
    by_cases c : 0 ≤ q
    · rw [if_pos c, if_pos c, upd_other _ _ (by omega)]
    · rw [if_neg c, if_neg c]
theorem thP_none (n : Nat) : thP n (fun _ => false) = fun _ => false := by funext q; unfold thP; rw [Bool.and_false]
section
variable {N n i : Nat} {xs : Nat → NdS} {H : Int → Nat} {th : Nat → Bool} {va : Nat → Int}
theorem NL.put (h : NL N xs H (thP n th) (vaV va)) (hi : i < N) (hHb : ∀ q, H q < 18446744073709551616) {x : Nat} (hx : x < n) (val : Int) (hq : (xs i).hasH (H (x : Int))) :
    (xs i).s.putB (x : Int) (H (x : Int)) true = !th x ∧ (xs i).s.putN (x : Int) (H (x : Int)) true = 0 ∧
      NO { xs i with s := (xs i).s.put (x : Int) val (H (x : Int)) true } H (thP n (upd th x true)) (vaV (upd va x val)) ∧ NLo N i (upd xs i { xs i with s := (xs i).s.put (x : Int) val (H (x : Int)) true }) H (thP n (upd th x true)) (vaV (upd va x val)) := by
  obtain ⟨a1, a2, a3⟩ := (h.na i hi).put hHb (x : Int) val hq
  rw [thP_put hx, vaV_put] at a3
  rw [thP_in hx] at a1
  refine ⟨a1, a2, a3, NLo.upd ((h.o i).key hi hHb (x : Int) hq (fun q' hne => ?_)) ⟨rfl, rfl⟩⟩
  rw [← thP_put hx, ← vaV_put]
  unfold putP
  rw [if_neg hne]
  exact ⟨rfl, if_neg hne⟩
theorem NL.del (h : NL N xs H (thP n th) (vaV va)) (hi : i < N) (hHb : ∀ q, H q < 18446744073709551616) {x : Nat} (hx : x < n) (hq : (xs i).hasH (H (x : Int))) :
    (xs i).s.has (x : Int) (H (x : Int)) = th x ∧ NO { xs i with s := (xs i).s.del (x : Int) (H (x : Int)) } H (thP n (upd th x false)) (vaV va) ∧ NLo N i (upd xs i { xs i with s := (xs i).s.del (x : Int) (H (x : Int)) }) H (thP n (upd th x false)) (vaV va) := by
  obtain ⟨a1, a3⟩ := (h.na i hi).del (x : Int) hq
  rw [thP_put hx] at a3
  rw [thP_in hx] at a1
  refine ⟨a1, a3, NLo.upd ((h.o i).key hi hHb (x : Int) hq (fun q' hne => ?_)) ⟨rfl, rfl⟩⟩
  rw [← thP_put hx]
  unfold putP
  rw [if_neg hne]
  exact ⟨rfl, rfl⟩
theorem NL.find (h : NL N xs H (thP n th) (vaV va)) (hi : i < N) {x : Nat} (hx : x < n) (hq : (xs i).hasH (H (x : Int))) : (xs i).s.has (x : Int) (H (x : Int)) = th x ∧ (th x = true → ((xs i).s.ent (x : Int) (H (x : Int))).val = va x) := by
  obtain ⟨a1, a2⟩ := (h.na i hi).find (x : Int) hq
  rw [thP_in hx] at a1 a2
  rw [vaV_in] at a2
  exact ⟨a1, a2⟩
end
end Go.Proofs.YtolhmibejhldkaaGreatDoor

namespace Go.Proofs.YtolhmibejhldkaaGreatDoor
open Go.RowKit Go.Proofs
attribute [local go_sem] neq_nilG eql_nilG
set_option maxRecDepth 100000 in
set_option maxHeartbeats 16000000 in
theorem nodeFunction_no (glob : Int) (a1 a2 : Option Addr) (c1 c2 : Nat) (n1 n2 : Nat) (E : Nat → Addr) (w0 : World) (he : EC w0 E [1, 2, 4, 5, 14, 16]) (hT : Tab64 w0) (hn : n1 < 1 ∨ 100 < n1 ∨ 250 < n2) :
    Calls Tryz.prog 3 #[.slice a1 n1 c1, .slice a2 n2 c2, .int .i64 glob] w0 fun e w' => e = .returned (.bool true) ∧ Below w0.heap.size w0 w' := by
  have AL := Lib.hid (alive15_any E w0 he hT)
  clear he hT
  by_cases g1 : n1 < 1
  · have d1 : decide ((n1 : Int) < 1) = true := by rw [decide_eq_true_iff]; omega
    have d1' : (n1 : Int) < 1 := by omega
    clear hn
    go_enter Tryz.func3, Tryz.ntmps3
    go_wp2_with (go_at_call 5; (with_reducible refine AL.out.mono ?_); rintro e w1 ⟨rfl, hb1⟩; have B1 := Lib.hid hb1)
    go_ret
    exact ⟨rfl, B1.out⟩
  · have d1 : decide ((n1 : Int) < 1) = false := by rw [decide_eq_false_iff_not]; omega
    have d1' : ¬ (n1 : Int) < 1 := by omega
    by_cases g2 : 100 < n1
    · have d2 : decide ((n1 : Int) > 100) = true := by rw [decide_eq_true_iff]; omega
      have d2' : (100 : Int) < (n1 : Int) := by omega
      clear hn
      go_enter Tryz.func3, Tryz.ntmps3
      go_wp2_with (go_at_call 5; (with_reducible refine AL.out.mono ?_); rintro e w1 ⟨rfl, hb1⟩; have B1 := Lib.hid hb1)
      go_ret
      exact ⟨rfl, B1.out⟩
    · have d2 : decide ((n1 : Int) > 100) = false := by rw [decide_eq_false_iff_not]; omega
      have d2' : ¬ (100 : Int) < (n1 : Int) := by omega
      have d3 : decide ((n2 : Int) > 250) = true := by rw [decide_eq_true_iff]; omega
      have d3' : (250 : Int) < (n2 : Int) := by omega
      clear hn
      go_enter Tryz.func3, Tryz.ntmps3
      go_wp2_with (go_at_call 5; (with_reducible refine AL.out.mono ?_); rintro e w1 ⟨rfl, hb1⟩; have B1 := Lib.hid hb1)
      go_ret
      exact ⟨rfl, B1.out⟩
end Go.Proofs.YtolhmibejhldkaaGreatDoor

namespace Go.Proofs.YtolhmibejhldkaaGreatDoor
open Go.RowKit Go.Proofs
def KK (B G VB VU b : Nat) : Prop := b = B ∨ b = G ∨ b = VB ∨ b = VU
theorem NFs.begin {w2 W3 wx w0 : World} {D VB VU n : Nat} {a : Nat → Nat} {x : NdS} {E : Nat → Addr} (hv : ND w2 D a x E w0) (hb2 : Below w0.heap.size w0 w2)
    (hW3 : W3 = (w2.alloc (.cells #[.pointer (some ⟨D, 0, none⟩)] 25)).alloc (.cells #[.slice (some ⟨w2.heap.size, 0, none⟩) 1 1] 31))
    (hV : TV wx VB VU n (fun _ => false) (fun _ => 0)) (hVB : W3.heap.size ≤ VB) (hVU : W3.heap.size ≤ VU) (hbc : Below W3.heap.size W3 wx) :
    NFs (wx.alloc (.cells MeterS.zero.cells 37)) 1 (fun _ => D) (fun _ => x) wx.heap.size (w2.heap.size + 1) w2.heap.size 1 VB VU n (KK (w2.heap.size + 1) w2.heap.size VB VU) (fun _ => false) (fun _ => 0) E w0 := by
  have hz3 : W3.heap.size = w2.heap.size + 2 := by rw [hW3]; simp
  have hzx := hbc.size
  have hz0 := hb2.size
  have hbW : Below w2.heap.size w2 W3 := by rw [hW3]; exact ((Below.refl _ _).alloc (Nat.le_refl _) _).alloc (by simp) _
  have hbx : Below w2.heap.size w2 wx := hbW.trans (hbc.mono (by omega))
  have hbf : Below wx.heap.size wx (wx.alloc (.cells MeterS.zero.cells 37)) := (Below.refl _ _).alloc (Nat.le_refl _) _
  have hB3 : Blk W3 (w2.heap.size + 1) 31 #[.slice (some ⟨w2.heap.size, 0, none⟩) 1 1] := by rw [hW3]; exact Blk.new_at (by simp)
  have hG3 : Blk W3 w2.heap.size 25 #[.pointer (some ⟨D, 0, none⟩)] := by rw [hW3]; exact (Blk.new _ _ _).alloc _
  have hBx := (hB3.below hbc hB3.lt).below hbf (Nat.lt_of_lt_of_le hB3.lt hzx)
  have hGx := (hG3.below hbc hG3.lt).below hbf (Nat.lt_of_lt_of_le hG3.lt hzx)
  have hvx := hv.later hbx
  have zVB := hV.b.lt
  have zVU := hV.u.lt
  have hold := fun b (e : NBx D a x b) => (hv.bx e).1
  refine ⟨⟨fun _ => a, MeterS.zero, ⟨fun j _ => hvx.later hbf, Blk.new _ _ _, rfl, ⟨by omega, fun e => ?_⟩, fun j _ b e => ⟨?_, fun f => ?_⟩, fun j j2 h1 h2 hne => by omega, fun b e => ?_, ?_⟩⟩, hBx, ?_, hV.later hbf, ⟨.inl rfl, .inr (.inl rfl), .inr (.inr (.inl rfl)), .inr (.inr (.inr rfl))⟩, ⟨by omega, by omega, by omega, by omega, by omega, by omega, by omega, by omega⟩⟩
  · rcases e with e | e | e | e <;> omega
  · have := hold b e; omega
  · have := hold b e
    rcases f with f | f | f | f <;> omega
  · rcases e with e | e | e | e <;> (simp; omega)
  · exact (hb2.trans (hbx.mono hz0)).trans (hbf.mono (by omega))
  · exact ⟨by simp, .inr ⟨w2.heap.size, 1, _, rfl, hz0, hGx, Nat.le_refl _, by decide, rfl, rfl⟩⟩
end Go.Proofs.YtolhmibejhldkaaGreatDoor

namespace Go.Proofs.YtolhmibejhldkaaGreatDoor
open Go.RowKit Go.Proofs
attribute [local go_sem] neq_nilG eql_nilG
theorem NG.k12 {x : NdS} {k : Nat} {H : Int → Nat} {P : Int → Bool} {v : Int → Int} (h : NG k x H P v) (hz : x.bz = true) : x.s.k = 1 ∨ x.s.k = 2 := by
  rcases h with ⟨e, -⟩ | ⟨-, j, h1, -⟩
  · rw [hz] at e; cases e
  · rcases h1.u hz with ⟨-, e, -⟩ | ⟨-, e, -⟩ | ⟨-, e, -⟩
    · exact .inl e
    · exact .inl e
    · exact .inr e
def KQ (K : Nat → Prop) (P : Nat) (b : Nat) : Prop := K b ∨ b = P
def F0 (w : World) (N : Nat) (Nb : Nat → Nat) (M B G cap VB VU n : Nat) (K : Nat → Prop) (th : Nat → Bool) (va : Nat → Int) (H : Int → Nat) (E : Nat → Addr) (w0 : World) : Prop :=
  ∃ xs, NFs w N Nb xs M B G cap VB VU n K th va E w0 ∧ NL N xs H (thP n th) (vaV va)
def F0h (w : World) (N : Nat) (Nb : Nat → Nat) (M B G cap VB VU n : Nat) (K : Nat → Prop) (th : Nat → Bool) (va : Nat → Int) (H : Int → Nat) (E : Nat → Addr) (w0 : World) (i hh : Nat) : Prop :=
  ∃ xs, NFs w N Nb xs M B G cap VB VU n K th va E w0 ∧ NL N xs H (thP n th) (vaV va) ∧ i < N ∧ (xs i).hasH hh
def F1 (w : World) (N : Nat) (Nb : Nat → Nat) (M B G cap VB VU n : Nat) (K : Nat → Prop) (th : Nat → Bool) (va : Nat → Int) (th' : Nat → Bool) (va' : Nat → Int) (H : Int → Nat) (E : Nat → Addr) (w0 : World) (i : Nat) : Prop :=
  ∃ xs, NFs w N Nb xs M B G cap VB VU n K th va E w0 ∧ NLo N i xs H (thP n th') (vaV va') ∧ NO (xs i) H (thP n th') (vaV va') ∧ i < N
def F2 (w : World) (N : Nat) (Nb : Nat → Nat) (M B G cap VB VU n : Nat) (K : Nat → Prop) (th : Nat → Bool) (va : Nat → Int) (H : Int → Nat) (E : Nat → Addr) (w0 : World) (i k : Nat) : Prop :=
  ∃ xs, NFs w N Nb xs M B G cap VB VU n K th va E w0 ∧ NLo N i xs H (thP n th) (vaV va) ∧ NG k (xs i) H (thP n th) (vaV va) ∧ i < N
def F3 (w : World) (N : Nat) (Nb : Nat → Nat) (M B G cap VB VU n : Nat) (K : Nat → Prop) (th : Nat → Bool) (va : Nat → Int) (H : Int → Nat) (E : Nat → Addr) (w0 : World) (N2 : Nat) : Prop :=
  ∃ xs, NZs w (N + 1) (upd Nb N N2) xs M K E w0 ∧ NL (N + 1) xs H (thP n th) (vaV va) ∧ Blk w B 31 #[.slice (some ⟨G, 0, none⟩) N cap] ∧
    w.ownsRow w0.heap.size 25 1 (.slice (some ⟨G, 0, none⟩) N cap) N ((List.range N).map (fun i => Value.pointer (some ⟨Nb i, 0, none⟩))) ∧ TV w VB VU n th va ∧
    (K B ∧ K G ∧ K VB ∧ K VU) ∧ (w0.heap.size ≤ B ∧ w0.heap.size ≤ VB ∧ w0.heap.size ≤ VU ∧ B ≠ VB ∧ B ≠ VU ∧ B ≠ G ∧ G ≠ VB ∧ G ≠ VU)
section
variable {w w' w0 : World} {N i x M B G cap VB VU n k N2 : Nat} {Nb : Nat → Nat} {xs : Nat → NdS} {K K' : Nat → Prop} {th th' : Nat → Bool} {va va' : Nat → Int} {H : Int → Nat} {E : Nat → Addr}
theorem NFs.keepP (h : NFs w N Nb xs M B G cap VB VU n K th va E w0) (o : Obj) : NFs (w.alloc o) N Nb xs M B G cap VB VU n (KQ K w.heap.size) th va E w0 :=
  h.keep ((Below.refl _ _).alloc (Nat.le_refl _) o) (fun b e => by
    rcases e with e | e
    · exact .inl e
    · exact .inr ⟨by omega, by rw [e]; simp⟩) ⟨.inl h.k.1, .inl h.k.2.1, .inl h.k.2.2.1, .inl h.k.2.2.2⟩
theorem NFs.less {P : Nat} (h : NFs w N Nb xs M B G cap VB VU n (KQ K P) th va E w0) (hk : K B ∧ K G ∧ K VB ∧ K VU) : NFs w N Nb xs M B G cap VB VU n K th va E w0 :=
  h.keep (Below.refl _ _) (fun b e => .inl (.inl e)) hk
theorem NFs.lt (h : NFs w N Nb xs M B G cap VB VU n K th va E w0) : B < w.heap.size ∧ G < w.heap.size ∧ VB < w.heap.size ∧ VU < w.heap.size :=
  ⟨h.b.lt, by
    rcases h.g.2 with ⟨e, _⟩ | ⟨g, c, cur, e, _, hb, _⟩
    · cases e
    · cases e; exact (Array.getElem?_eq_some_iff.1 hb).1, h.v.b.lt, h.v.u.lt⟩
theorem F0.later (h : F0 w N Nb M B G cap VB VU n K th va H E w0) (hb : Below w.heap.size w w') : F0 w' N Nb M B G cap VB VU n K th va H E w0 := by
  obtain ⟨xs, h1, h2⟩ := h; exact ⟨xs, h1.later hb, h2⟩
theorem F0h.later {hh : Nat} (h : F0h w N Nb M B G cap VB VU n K th va H E w0 i hh) (hb : Below w.heap.size w w') : F0h w' N Nb M B G cap VB VU n K th va H E w0 i hh := by
  obtain ⟨xs, h1, h2⟩ := h; exact ⟨xs, h1.later hb, h2⟩
theorem F1.later (h : F1 w N Nb M B G cap VB VU n K th va th' va' H E w0 i) (hb : Below w.heap.size w w') : F1 w' N Nb M B G cap VB VU n K th va th' va' H E w0 i := by
  obtain ⟨xs, h1, h2⟩ := h; exact ⟨xs, h1.later hb, h2⟩
theorem F2.later (h : F2 w N Nb M B G cap VB VU n K th va H E w0 i k) (hb : Below w.heap.size w w') : F2 w' N Nb M B G cap VB VU n K th va H E w0 i k := by
  obtain ⟨xs, h1, h2⟩ := h; exact ⟨xs, h1.later hb, h2⟩
theorem F0.bel (h : F0 w N Nb M B G cap VB VU n K th va H E w0) : Below w0.heap.size w0 w := by obtain ⟨xs, h1, -⟩ := h; exact h1.z.bel
theorem F0h.bel {hh : Nat} (h : F0h w N Nb M B G cap VB VU n K th va H E w0 i hh) : Below w0.heap.size w0 w := by obtain ⟨xs, h1, -⟩ := h; exact h1.z.bel
theorem F1.bel (h : F1 w N Nb M B G cap VB VU n K th va th' va' H E w0 i) : Below w0.heap.size w0 w := by obtain ⟨xs, h1, -⟩ := h; exact h1.z.bel
theorem F2.bel (h : F2 w N Nb M B G cap VB VU n K th va H E w0 i k) : Below w0.heap.size w0 w := by obtain ⟨xs, h1, -⟩ := h; exact h1.z.bel
theorem F0.tv (h : F0 w N Nb M B G cap VB VU n K th va H E w0) : TV w VB VU n th va := by obtain ⟨xs, h1, -⟩ := h; exact h1.v
theorem F1.tv (h : F1 w N Nb M B G cap VB VU n K th va th' va' H E w0 i) : TV w VB VU n th va := by obtain ⟨xs, h1, -⟩ := h; exact h1.v
theorem F0.lo (h : F0 w N Nb M B G cap VB VU n K th va H E w0) : w0.heap.size ≤ VB ∧ w0.heap.size ≤ VU := by obtain ⟨xs, h1, -⟩ := h; exact ⟨h1.v0.2.1, h1.v0.2.2.1⟩
theorem F0h.ne {hh : Nat} (h : F0h w N Nb M B G cap VB VU n K th va H E w0 i hh) : VB ≠ VU := by obtain ⟨xs, h1, -⟩ := h; exact h1.v.ne
theorem F0h.kk {hh : Nat} (h : F0h w N Nb M B G cap VB VU n K th va H E w0 i hh) : K B ∧ K G ∧ K VB ∧ K VU := by obtain ⟨xs, h1, -⟩ := h; exact h1.k
theorem F0h.fresh {hh : Nat} (h : F0h w N Nb M B G cap VB VU n K th va H E w0 i hh) : w0.heap.size ≤ w.heap.size ∧ w.heap.size ≠ B ∧ w.heap.size ≠ G ∧ w.heap.size ≠ VB ∧ w.heap.size ≠ VU := by
  obtain ⟨xs, h1, -⟩ := h
  obtain ⟨a, b, c, d⟩ := h1.lt
  exact ⟨h1.z.bel.size, Nat.ne_of_gt a, Nat.ne_of_gt b, Nat.ne_of_gt c, Nat.ne_of_gt d⟩
theorem F0.blk (h : F0 w N Nb M B G cap VB VU n K th va H E w0) : Blk w B 31 #[.slice (some ⟨G, 0, none⟩) N cap] ∧ N ≤ 32 := by obtain ⟨xs, h1, h2⟩ := h; exact ⟨h1.b, h2.pd.le⟩
theorem F0.keepP (h : F0 w N Nb M B G cap VB VU n K th va H E w0) (o : Obj) : F0 (w.alloc o) N Nb M B G cap VB VU n (KQ K w.heap.size) th va H E w0 := by
  obtain ⟨xs, h1, h2⟩ := h; exact ⟨xs, h1.keepP o, h2⟩
theorem F0h.keepP {hh : Nat} (h : F0h w N Nb M B G cap VB VU n K th va H E w0 i hh) (o : Obj) : F0h (w.alloc o) N Nb M B G cap VB VU n (KQ K w.heap.size) th va H E w0 i hh := by
  obtain ⟨xs, h1, h2⟩ := h; exact ⟨xs, h1.keepP o, h2⟩
theorem F1.setP {P : Nat} (h : F1 w N Nb M B G cap VB VU n (KQ K P) th va th' va' H E w0 i) (hk : K B ∧ K G ∧ K VB ∧ K VU) (hP : w0.heap.size ≤ P ∧ P ≠ B ∧ P ≠ G ∧ P ≠ VB ∧ P ≠ VU) (hc : Chg (fun b => b = P) w w') : F1 w' N Nb M B G cap VB VU n K th va th' va' H E w0 i := by
  obtain ⟨xs, h1, h2⟩ := h
  exact ⟨xs, (h1.kept hc (fun b e => ⟨.inr e, by rw [e]; exact hP⟩)).less hk, h2⟩
theorem F0.of (h : F0 w N Nb M B G cap VB VU n K th va H E w0) (hh : Nat) (hlt : hh < 18446744073709551616) :
    Calls Tryz.prog 7 #[.int .u64 (hh : Int), .pointer (some ⟨B, 0, none⟩)] w fun e w' => ∃ i, e = .returned (.pointer (some ⟨Nb i, 0, none⟩)) ∧ F0h w' N Nb M B G cap VB VU n K th va H E w0 i hh ∧ Below w.heap.size w w' := by
  obtain ⟨xs, hS, hL⟩ := h
  obtain ⟨j, hj, -⟩ := hL.pd.one 0 (by decide)
  refine (hS.of (by omega) hL.pd hh hlt).mono ?_
  rintro e w' ⟨i, hi, hx, rfl, hS', hb⟩
  exact ⟨i, rfl, ⟨xs, hS', hL, hi, hx⟩, hb⟩
theorem F0h.del {hh : Nat} (h : F0h w N Nb M B G cap VB VU n K th va H E w0 i hh) (hHb : ∀ q, H q < 18446744073709551616) (hx : x < n) (hH : H (x : Int) = hh) (x1 y1 z1 : Int) :
    Calls Tryz.prog 10 #[.pointer (some ⟨Nb i, 0, none⟩), .agg #[.pointer (some ⟨M, 0, none⟩), .int .i64 x1, .int .i64 y1, .int .i64 z1], .int .u64 (x : Int), .int .u64 (hh : Int)] w fun e w' =>
      ∃ a b c : Int, e = .returned (.tuple #[.agg #[.int .u64 a, .int .u64 b, .int .u64 c], .bool (th x)]) ∧ F1 w' N Nb M B G cap VB VU n K th va (upd th x false) va H E w0 i ∧ Chg (KC K w0.heap.size) w w' := by
  obtain ⟨xs, hS, hL, hi, hq⟩ := h
  subst hH
  obtain ⟨e1, e2, e3⟩ := hL.del hi hHb hx hq
  refine (hS.z.del hi (x : Int) _ (hHb _) x1 y1 z1).mono ?_
  rintro e w' ⟨rfl, hz, hc⟩
  rw [e1]
  exact ⟨_, _, _, rfl, ⟨_, hS.turn hz hc, e3, by rw [upd_same]; exact e2, hi⟩, hc⟩
theorem F0h.put {hh : Nat} (h : F0h w N Nb M B G cap VB VU n K th va H E w0 i hh) (hHb : ∀ q, H q < 18446744073709551616) (hx : x < n) (hH : H (x : Int) = hh) (v : Int) (x1 y1 z1 : Int) :
    Calls Tryz.prog 12 #[.pointer (some ⟨Nb i, 0, none⟩), .agg #[.pointer (some ⟨M, 0, none⟩), .int .i64 x1, .int .i64 y1, .int .i64 z1], .agg #[.int .u64 (x : Int), .int .u64 v, .int .u64 (hh : Int)], .bool true] w fun e w' =>
      e = .returned (.tuple #[.bool (!th x), .nilIface]) ∧ F1 w' N Nb M B G cap VB VU n K th va (upd th x true) (upd va x v) H E w0 i ∧ Chg (KC K w0.heap.size) w w' := by
  obtain ⟨xs, hS, hL, hi, hq⟩ := h
  subst hH
  obtain ⟨e1, e2, e3, e4⟩ := hL.put hi hHb hx v hq
  refine (hS.z.put hi (x : Int) v _ (hHb _) true x1 y1 z1).mono ?_
  rintro e w' ⟨rfl, hz, hc⟩
  rw [e1, e2, errN_0]
  exact ⟨rfl, ⟨_, hS.turn hz hc, e4, by rw [upd_same]; exact e3, hi⟩, hc⟩
theorem F1.setB (h : F1 w N Nb M B G cap VB VU n K th va th' va' H E w0 i) (hx : x < n) (t : Bool) : F1 (w.setCell ⟨VB, x, none⟩ (.bool t)) N Nb M B G cap VB VU n K (upd th x t) va th' va' H E w0 i := by
  obtain ⟨xs, h1, h2⟩ := h; exact ⟨xs, h1.setB hx t, h2⟩
theorem F1.setU (h : F1 w N Nb M B G cap VB VU n K th va th' va' H E w0 i) (hx : x < n) (v : Int) : F1 (w.setCell ⟨VU, x, none⟩ (.int .u64 v)) N Nb M B G cap VB VU n K th (upd va x v) th' va' H E w0 i := by
  obtain ⟨xs, h1, h2⟩ := h; exact ⟨xs, h1.setU hx v, h2⟩
theorem F1.go (h : F1 w N Nb M B G cap VB VU n K th va th va H E w0 i) (g : Nat) (hg : g ≤ 5) (hn : n ≤ 128) : ∃ (k : Int) (b : Bool),
    Calls Tryz.prog 13 #[.pointer (some ⟨Nb i, 0, none⟩), .int .i64 (g : Int)] w (fun e w' => e = .returned (.tuple #[.int .i64 k, .bool b]) ∧ Below w.heap.size w w') ∧
    ((k = 0 ∧ ∀ w', Below w.heap.size w w' → F2 w' N Nb M B G cap VB VU n K th va H E w0 i 0) ∨
     (k ≠ 0 ∧ ∀ w', Below w.heap.size w w' → Calls Tryz.prog 14 #[.pointer (some ⟨Nb i, 0, none⟩), .int .i64 k] w' fun e w'' => e = .returned .nilIface ∧ F2 w'' N Nb M B G cap VB VU n K th va H E w0 i 0)) := by
  obtain ⟨xs, hS, ho, hO, hi⟩ := h
  refine ⟨_, _, hS.z.wantsC hi (g : Int), ?_⟩
  rcases hO.start g n hg hn (fun q hq => thP_keys q hq) with ⟨h0, hG⟩ | ⟨h0, hz, hbad, hd, hG⟩
  · exact .inl ⟨h0, fun w' hb => ⟨xs, hS.later hb, ho, hG, hi⟩⟩
  · refine .inr ⟨h0, fun w' hb => ((hS.later hb).z.startOk hi hz _ hbad hd).mono ?_⟩
    rintro e w'' ⟨rfl, hz2, hc⟩
    exact ⟨rfl, ⟨_, (hS.later hb).turn hz2 hc, ho.upd ⟨rfl, rfl⟩, by rw [upd_same]; exact hG, hi⟩⟩
theorem F2.step (h : F2 w N Nb M B G cap VB VU n K th va H E w0 i k) (hHb : ∀ q, H q < 18446744073709551616) :
    Calls Tryz.prog 15 #[.pointer (some ⟨Nb i, 0, none⟩), .pointer (some ⟨M, 0, none⟩)] w fun e w' => ∃ b : Bool, e = .returned (.bool b) ∧ F2 w' N Nb M B G cap VB VU n K th va H E w0 i (k + 1) := by
  obtain ⟨xs, hS, ho, hG, hi⟩ := h
  obtain ⟨hev, hG'⟩ := hG.stp hHb
  refine (hS.z.step hi hev).mono ?_
  rintro e w' ⟨rfl, hz, hc⟩
  exact ⟨_, rfl, ⟨_, hS.turn hz hc, ho.upd ⟨rfl, rfl⟩, by rw [upd_same]; exact hG', hi⟩⟩
theorem F2.fin (h : F2 w N Nb M B G cap VB VU n K th va H E w0 i 8) : ∃ b : Bool,
    Calls Tryz.prog 16 #[.pointer (some ⟨Nb i, 0, none⟩)] w (fun e w' => e = .returned (.bool b) ∧ Below w.heap.size w w') ∧
    ((b = false ∧ ∀ w', Below w.heap.size w w' → F0 w' N Nb M B G cap VB VU n K th va H E w0) ∨
     (b = true ∧ ((∀ w', Below w.heap.size w w' → Calls Tryz.prog 17 #[.pointer (some ⟨Nb i, 0, none⟩)] w' fun e w'' => e = .returned (.tuple #[.pointer none, .nilIface]) ∧ F0 w'' N Nb M B G cap VB VU n K th va H E w0) ∨
      (∀ w', Below w.heap.size w w' → Calls Tryz.prog 17 #[.pointer (some ⟨Nb i, 0, none⟩)] w' fun e w'' => ∃ N2, e = .returned (.tuple #[.pointer (some ⟨N2, 0, none⟩), .nilIface]) ∧ F3 w'' N Nb M B G cap VB VU n K th va H E w0 N2)))) := by
  obtain ⟨xs, hS, ho, hG, hi⟩ := h
  refine ⟨_, hS.z.doneC hi, ?_⟩
  by_cases hd : ((xs i).bz && decide ((xs i).s.left = 0)) = false
  · exact .inl ⟨hd, fun w' hb => ⟨xs, hS.later hb, ho.done (hG.notDone hd)⟩⟩
  · simp only [Bool.not_eq_false, Bool.and_eq_true, decide_eq_true_eq] at hd
    obtain ⟨hz, hn⟩ := hd
    refine .inr ⟨by rw [hz, hn]; rfl, ?_⟩
    rcases hG.k12 hz with hk | hk
    · refine .inl (fun w' hb => ((hS.later hb).z.endOne hi hz hn hk).mono ?_)
      rintro e w'' ⟨rfl, hz2, hc⟩
      exact ⟨rfl, ⟨_, (hS.later hb).turn hz2 hc, (NLo.upd (x1 := NdS.idle (xs i).p (xs i).d ((xs i).s.U 0)) ho ⟨rfl, rfl⟩).done (by rw [upd_same]; exact hG.endOne hz hn hk)⟩⟩
    · obtain ⟨h5, na1, na2⟩ := hG.endTwo hz hn hk
      refine .inr (fun w' hb => ((hS.later hb).z.endTwo hi hz hn hk h5).mono ?_)
      rintro e w'' ⟨N2, rfl, hz2, hc⟩
      have hL := hS.later hb
      exact ⟨N2, rfl, ⟨_, hz2, ho.two hi h5 ⟨rfl, rfl⟩ ⟨rfl, rfl⟩ na1 na2, hL.b.chg hc (fun e => e.2 hL.k.1), ownsRow_chgB hL.g hc (fun b e => by rw [row_own b e]; exact fun e => e.2 hL.k.2.1), hL.v.chg hc (fun e => e.2 hL.k.2.2.1) (fun e => e.2 hL.k.2.2.2), hL.k, hL.v0⟩⟩
theorem F3.own (h : F3 w N Nb M B G cap VB VU n K th va H E w0 N2) : Blk w B 31 #[.slice (some ⟨G, 0, none⟩) N cap] ∧ N ≤ 32 ∧ w0.heap.size ≤ w.heap.size ∧ w.ownsRow w0.heap.size 25 1 (.slice (some ⟨G, 0, none⟩) N cap) N ((List.range N).map (fun i => Value.pointer (some ⟨Nb i, 0, none⟩))) := by
  obtain ⟨xs, hz, hL, hB, hrow, -⟩ := h
  exact ⟨hB, by have := hL.pd.le; omega, hz.bel.size, hrow⟩
theorem infoPN : (Tryz.prog.info? 25).map (fun i => (i.zero, i.size, i.bytes)) = some (some (.pointer none), 1, 8) := by kernel_rfl
theorem F3.app {W w1 : World} {v' : Value} (h : F3 W N Nb M B G cap VB VU n K th va H E w0 N2) (o : Obj) (hown : w1.ownsRow w0.heap.size 25 1 v' (N + 1) ((List.range N).map (fun i => Value.pointer (some ⟨Nb i, 0, none⟩)) ++ [.pointer (some ⟨N2, 0, none⟩)]))
    (hg : (W.alloc o).grownBy w1 (Value.slice (some ⟨G, 0, none⟩) N cap).ownBlock) (hbl : v'.ownBlock = (Value.slice (some ⟨G, 0, none⟩) N cap).ownBlock ∨ v'.ownBlock = some (W.alloc o).heap.size) :
    (Blk w1 B 31 #[.slice (some ⟨G, 0, none⟩) N cap]) ∧ ∃ G' cap' K', F0 (w1.setCell ⟨B, 0, none⟩ v') (N + 1) (upd Nb N N2) M B G' cap' VB VU n K' th va H E w0 := by
  obtain ⟨xs, hz, hL, hB, hrow, hV, hk, hv0⟩ := h
  obtain ⟨G', cap', rfl⟩ := ownsRow_succ hown
  have hW : Below W.heap.size W (W.alloc o) := (Below.refl _ _).alloc (Nat.le_refl _) o
  have hcg : Chg (fun b => b = G) (W.alloc o) w1 := (Chg.of_grown hg).mono (fun b _ e => by cases e; rfl)
  have hcs : Chg (fun b => b = B) w1 (w1.setCell ⟨B, 0, none⟩ (.slice (some ⟨G', 0, none⟩) (N + 1) cap')) := (Chg.refl (fun b => b = B) w1).set1 0 _
  have hBG : Blk w1 B 31 #[.slice (some ⟨G, 0, none⟩) N cap] := (hB.below hW hB.lt).chg hcg hv0.2.2.2.2.2.1
  have hg0 : w0.heap.size ≤ G := by
    rcases hrow.2 with ⟨e, _⟩ | ⟨g, c, cur, e, hb, _⟩
    · cases e
    · cases e; exact hb
  have hGl : G < W.heap.size := by
    rcases hrow.2 with ⟨e, _⟩ | ⟨g, c, cur, e, _, hb, _⟩
    · cases e
    · cases e; exact (Array.getElem?_eq_some_iff.1 hb).1
  have hVV := hV.later hW
  have zVB := hVV.b.lt
  have zVU := hVV.u.lt
  have zB := (hB.below hW hB.lt).lt
  have hGG : G' = G ∨ G' = (W.alloc o).heap.size := by
    rcases hbl with e | e
    · have : some G' = some G := e
      cases this; exact .inl rfl
    · have : some G' = some (W.alloc o).heap.size := e
      cases this; exact .inr rfl
  have hGB : G' ≠ B ∧ G' ≠ VB ∧ G' ≠ VU := by
    rcases hGG with e | e
    · rw [e]; exact ⟨fun e => hv0.2.2.2.2.2.1 e.symm, hv0.2.2.2.2.2.2.1, hv0.2.2.2.2.2.2.2⟩
    · rw [e]; exact ⟨Nat.ne_of_gt zB, Nat.ne_of_gt zVB, Nat.ne_of_gt zVU⟩
  have hG1 : G' < w1.heap.size := by
    rcases hown.2 with ⟨e, _⟩ | ⟨g, c, cur, e, _, hb, _⟩
    · cases e
    · cases e; exact (Array.getElem?_eq_some_iff.1 hb).1
  have hz1 : NZs w1 (N + 1) (upd Nb N N2) xs M (KQ K G') E w0 := by
    obtain ⟨a, mt, h0⟩ := hz.later hW
    have h1 := h0.kept hcg (fun b e => by rw [e]; exact ⟨hk.2.1, hg0⟩)
    refine ⟨a, mt, h1.own (fun b e => ?_)⟩
    rcases e with e | e
    · exact ⟨h1.kz b e, .inl e⟩
    · rcases hGG with f | f
      · exact ⟨by omega, .inl (by rw [e, f]; exact hk.2.1)⟩
      · exact ⟨by omega, .inr ⟨fun e2 => by have := h0.m.lt; omega, fun j hj e2 => by have := ((h0.v j hj).bx e2).1; omega⟩⟩
  have hz2 : NZs (w1.setCell ⟨B, 0, none⟩ (.slice (some ⟨G', 0, none⟩) (N + 1) cap')) (N + 1) (upd Nb N N2) xs M (KQ K G') E w0 := hz1.kept hcs (fun b e => by rw [e]; exact ⟨.inl hk.1, hv0.1⟩)
  have hrow' : ((List.range (N + 1)).map (fun i => Value.pointer (some ⟨upd Nb N N2 i, 0, none⟩))) = ((List.range N).map (fun i => Value.pointer (some ⟨Nb i, 0, none⟩)) ++ [.pointer (some ⟨N2, 0, none⟩)]) := by
    rw [List.range_succ, List.map_append]
    congr 1
    · refine List.map_congr_left (fun j hj => ?_)
      rw [upd_other]
      have := List.mem_range.1 hj; omega
    · simp [upd_same]
  exact ⟨hBG, G', cap', KQ K G', xs, ⟨hz2, hBG.set 0 _, by rw [hrow']; exact ownsRow_chgB hown hcs (fun b e => by rw [row_own b e]; exact hGB.1), (hVV.chg hcg (fun e => hv0.2.2.2.2.2.2.1 e.symm) (fun e => hv0.2.2.2.2.2.2.2 e.symm)).chg hcs (fun e => hv0.2.2.2.1 e.symm) (fun e => hv0.2.2.2.2.1 e.symm), ⟨.inl hk.1, .inr rfl, .inl hk.2.2.1, .inl hk.2.2.2⟩, ⟨hv0.1, hv0.2.1, hv0.2.2.1, hv0.2.2.2.1, hv0.2.2.2.2.1, fun e => hGB.1 e.symm, hGB.2.1, hGB.2.2⟩⟩, hL⟩
theorem F0h.find {hh : Nat} (h : F0h w N Nb M B G cap VB VU n K th va H E w0 i hh) (hHb : ∀ q, H q < 18446744073709551616) (hx : x < n) (hH : H (x : Int) = hh) : ∃ a b c : Int, (th x = true → b = va x) ∧
    Calls Tryz.prog 18 #[.pointer (some ⟨Nb i, 0, none⟩), .agg #[.pointer none, .int .i64 0, .int .i64 0, .int .i64 0], .int .u64 (x : Int), .int .u64 (hh : Int)] w fun e w' =>
      e = .returned (.tuple #[.agg #[.int .u64 a, .int .u64 b, .int .u64 c], .bool (th x)]) ∧ F0 w' N Nb M B G cap VB VU n K th va H E w0 := by
  obtain ⟨xs, hS, hL, hi, hq⟩ := h
  subst hH
  obtain ⟨e1, e2⟩ := hL.find hi hx hq
  refine ⟨((xs i).s.ent (x : Int) (H (x : Int))).key, ((xs i).s.ent (x : Int) (H (x : Int))).val, ((xs i).s.ent (x : Int) (H (x : Int))).hash, e2, Calls.mono (hS.z.find hi (x : Int) (H (x : Int)) (hHb _)) ?_⟩
  rintro e w' ⟨rfl, hz, hc⟩
  rw [e1]
  exact ⟨rfl, ⟨xs, hS.turn hz (hc.mono (fun _ _ e => e.elim)), hL⟩⟩
end
end Go.Proofs.YtolhmibejhldkaaGreatDoor

namespace Go.Proofs.YtolhmibejhldkaaGreatDoor
open Go.RowKit Go.Proofs
attribute [local go_sem] neq_nilG eql_nilG
set_option maxRecDepth 100000 in
set_option maxHeartbeats 16000000 in
theorem nodeFunction_ok (glob : Int) (b1 o1 c1 : Nat) (a2 : Option Addr) (c2 n1 n2 : Nat) (G1 : Nat → Nat) (f2 : Nat → Nat → Int) (E : Nat → Addr) (w0 : World) (he : EC w0 E [1, 2, 4, 5, 14, 16]) (hT : Tab64 w0) (k1 : 1 ≤ n1 ∧ n1 ≤ 100) (k2 : n2 ≤ 250)
    (hG : ∀ i, i < n1 → G1 i < 18446744073709551616) (hc : ∀ w', Below w0.heap.size w0 w' → ∀ i, i < n1 → w'.cell? ⟨b1, o1 + i, none⟩ = some (.int .u64 (G1 i : Int))) (hb1z : b1 < w0.heap.size)
    (hA : n2 ≠ 0 → ∃ b off, a2 = some ⟨b, off, none⟩ ∧ b < w0.heap.size ∧ ∀ w', Below w0.heap.size w0 w' → ∀ i, i < n2 → ∀ j, j < 3 → w'.cell? ⟨b, off + (i * 3 + j), none⟩ = some (.int .i64 (f2 i j))) :
    Calls Tryz.prog 3 #[.slice (some ⟨b1, o1, none⟩) n1 c1, .slice a2 n2 c2, .int .i64 glob] w0 fun e w' => e = .returned (.bool true) ∧ Below w0.heap.size w0 w' := by
  have HHb := Lib.hid (show ∀ q, hashH n1 G1 q < 18446744073709551616 from hashH_lt k1.1 hG)
  obtain ⟨H, hH⟩ : ∃ H, H = hashH n1 G1 := ⟨_, rfl⟩
  have HH := Lib.hid (show ∀ x, x < n1 → H (x : Int) = G1 x from fun x hx => by rw [hH]; exact hashH_in hx)
  rw [← hH] at HHb
  clear hH
  have AL := Lib.hid (alive15_any E w0 he hT)
  have NW := Lib.hid (fun (W : World) (hb : Below w0.heap.size w0 W) => nodeNew_ok (w := W) (w0 := w0) 0 0 (by decide) (by decide) he hT hb)
  simp only [show ((0 : Nat) : Int) = 0 from rfl] at NW
  have d1 : decide ((n1 : Int) < 1) = false := by rw [decide_eq_false_iff_not]; omega
  have d1' : ¬ (n1 : Int) < 1 := by omega
  have d2 : decide ((n1 : Int) > 100) = false := by rw [decide_eq_false_iff_not]; omega
  have d2' : ¬ (100 : Int) < (n1 : Int) := by omega
  have d3 : decide ((n2 : Int) > 250) = false := by rw [decide_eq_false_iff_not]; omega
  have d3' : ¬ (250 : Int) < (n2 : Int) := by omega
  obtain ⟨iB, hiB, hzB0, hzB1, hzB2⟩ := info_parts infoB
  obtain ⟨iU, hiU, hzU0, hzU1, hzU2⟩ := info_parts infoU
  obtain ⟨g, hg5, hge⟩ : ∃ g : Nat, g ≤ 5 ∧ wrap64 ((IntKind.u64.wrap glob).tmod 6) = (g : Int) := by
    refine ⟨((IntKind.u64.wrap glob).tmod 6).toNat, ?_, ?_⟩
    · have h0 : 0 ≤ IntKind.u64.wrap glob := by rw [IntKind.wrap_u64]; omega
      rw [Int.tmod_eq_emod_of_nonneg h0]; omega
    · have h0 : 0 ≤ IntKind.u64.wrap glob := by rw [IntKind.wrap_u64]; omega
      rw [Int.tmod_eq_emod_of_nonneg h0]
      unfold wrap64
      omega
  have hmf : ∀ (fn : Fn) (first cap : Array Value) (w : World), (Instr.makeFunc fn first cap).run Tryz.prog w = .ok (.func fn first cap) w := fun _ _ _ _ => rfl
  have HG := Lib.hid hG
  have HC := Lib.hid hc
  have HA := Lib.hid hA
  clear he hT hG hc hA
  go_enter Tryz.func3, Tryz.ntmps3
  go_upto_region 10 with (first
    | (go_at_call 5; (with_reducible refine AL.out.mono ?_); rintro e w1 ⟨rfl, hb1⟩; have B1 := Lib.hid hb1)
    | (go_at_call 6; (with_reducible refine (NW.out _ B1.out).mono ?_); rintro e w2 ⟨D, a, rfl, hD, hv, hX, hb2⟩; have V2 := Lib.hid hv; have X2 := Lib.hid hX; have B2 := Lib.hid (B1.out.trans (hb2.mono B1.out.size)); clear hv hX hb2))
  refine wp_at (fun W3 hW3 => ?_)
  have HW3 := Lib.hid hW3
  clear hW3
  go_cut [11, 12] (fun v11 v12 wx => ∃ VB VU wy, wy = wx ∧ v11 = .slice (some ⟨VB, 0, none⟩) n1 n1 ∧ v12 = .slice (some ⟨VU, 0, none⟩) n1 n1 ∧ TV wx VB VU n1 (fun _ => false) (fun _ => 0) ∧ W3.heap.size ≤ VB ∧ W3.heap.size ≤ VU ∧ Below W3.heap.size W3 wx)
  case first =>
    refine wp_region_T (fun _ => False) #[⟨0, 0, 9223372036854775808, 1, 0⟩, ⟨1, 1, 18446744073709551616, 9223372036854775808, 0⟩, ⟨2, 3, 36893488147419103232, 18446744073709551616, 3⟩, ⟨0, 0, 73786976294838206464, 1, 0⟩, ⟨8, 8, 147573952589676412928, 73786976294838206464, 0⟩, ⟨16, 24, 295147905179352825856, 147573952589676412928, 3⟩, ⟨7, 7, 2048, 36893488147419103232, 0⟩, ⟨127, 127, 4096, 295147905179352825856, 0⟩] 0 (.step 0 0 (.step 1 0 (.step 3 0 (.step 4 0 (.fork (.alt 2 (.step 6 0 (.step 5 3 (.step 7 0 Plan.done))) (.alt 5 (.step 2 3 (.step 6 0 (.step 7 0 Plan.done))) Plan.none))))))) (by kernel_rfl) (by kernel_rfl) (by kernel_rfl) (by kernel_rfl) (by kernel_rfl) (by kernel_rfl) (fun c a d v w h => by cases d <;> exact h) ?_
    refine ztC ?_; refine ztC ?_; refine ztC ?_; refine ztC ?_
    refine zt2 (fun K hK => ?_) fun K hK => ?_
    ((first | (refine wp_make_full _ _ 32 rfl W3.heap.size 4 iB (.bool false) 1 Tryz.underlying32 hiB hzB0 hzB1 .i64 .i64 _ _ n1 rfl rfl rfl rfl (by rw [hzB2]; omega) (by unfold maxLen; omega) (by first | exact Nat.le_refl _ | assumption) ?_; intro wB hoB hgB; have hVB := Lib.hid (made_one hoB); have hVBz := (made_one hoB).lt; have hBB : Below _ _ wB := (Below.refl _ _).grown hgB (Nat.le_refl _) (fun k e => by cases e); have hzB := hBB.size; (try have hVU2 := Lib.hid (hVU.out.below hBB hVU.out.lt)); (try have hzB' := Nat.le_trans hzU hzB); clear hoB hgB) | (refine wp_make_full _ _ 22 rfl W3.heap.size 38 iU (.int .u64 0) 1 Tryz.underlying22 hiU hzU0 hzU1 .i64 .i64 _ _ n1 rfl rfl rfl rfl (by rw [hzU2]; omega) (by unfold maxLen; omega) (by first | exact Nat.le_refl _ | assumption) ?_; intro wU hoU hgU; have hVU := Lib.hid (made_one hoU); have hVUz := (made_one hoU).lt; have hBU : Below _ _ wU := (Below.refl _ _).grown hgU (Nat.le_refl _) (fun k e => by cases e); have hzU := hBU.size; (try have hVB2 := Lib.hid (hVB.out.below hBU hVB.out.lt)); (try have hzU' := Nat.le_trans hzB hzU); clear hoU hgU)); refine hkI hK (h := ?_); clear hK K)
    try refine ztP ?_; refine ztC ?_
    refine ztE fun K hK => ?_; (first | (refine wp_make_full _ _ 32 rfl W3.heap.size 4 iB (.bool false) 1 Tryz.underlying32 hiB hzB0 hzB1 .i64 .i64 _ _ n1 rfl rfl rfl rfl (by rw [hzB2]; omega) (by unfold maxLen; omega) (by first | exact Nat.le_refl _ | assumption) ?_; intro wB hoB hgB; have hVB := Lib.hid (made_one hoB); have hVBz := (made_one hoB).lt; have hBB : Below _ _ wB := (Below.refl _ _).grown hgB (Nat.le_refl _) (fun k e => by cases e); have hzB := hBB.size; (try have hVU2 := Lib.hid (hVU.out.below hBB hVU.out.lt)); (try have hzB' := Nat.le_trans hzU hzB); clear hoB hgB) | (refine wp_make_full _ _ 22 rfl W3.heap.size 38 iU (.int .u64 0) 1 Tryz.underlying22 hiU hzU0 hzU1 .i64 .i64 _ _ n1 rfl rfl rfl rfl (by rw [hzU2]; omega) (by unfold maxLen; omega) (by first | exact Nat.le_refl _ | assumption) ?_; intro wU hoU hgU; have hVU := Lib.hid (made_one hoU); have hVUz := (made_one hoU).lt; have hBU : Below _ _ wU := (Below.refl _ _).grown hgU (Nat.le_refl _) (fun k e => by cases e); have hzU := hBU.size; (try have hVB2 := Lib.hid (hVB.out.below hBU hVB.out.lt)); (try have hzU' := Nat.le_trans hzB hzU); clear hoU hgU)); refine hK.out _ _ ?_; clear hK K
    try refine ztP ?_; refine ztC ?_
    refine T_done ?_
    rotate_left 1
    ((first | (refine wp_make_full _ _ 32 rfl W3.heap.size 4 iB (.bool false) 1 Tryz.underlying32 hiB hzB0 hzB1 .i64 .i64 _ _ n1 rfl rfl rfl rfl (by rw [hzB2]; omega) (by unfold maxLen; omega) (by first | exact Nat.le_refl _ | assumption) ?_; intro wB hoB hgB; have hVB := Lib.hid (made_one hoB); have hVBz := (made_one hoB).lt; have hBB : Below _ _ wB := (Below.refl _ _).grown hgB (Nat.le_refl _) (fun k e => by cases e); have hzB := hBB.size; (try have hVU2 := Lib.hid (hVU.out.below hBB hVU.out.lt)); (try have hzB' := Nat.le_trans hzU hzB); clear hoB hgB) | (refine wp_make_full _ _ 22 rfl W3.heap.size 38 iU (.int .u64 0) 1 Tryz.underlying22 hiU hzU0 hzU1 .i64 .i64 _ _ n1 rfl rfl rfl rfl (by rw [hzU2]; omega) (by unfold maxLen; omega) (by first | exact Nat.le_refl _ | assumption) ?_; intro wU hoU hgU; have hVU := Lib.hid (made_one hoU); have hVUz := (made_one hoU).lt; have hBU : Below _ _ wU := (Below.refl _ _).grown hgU (Nat.le_refl _) (fun k e => by cases e); have hzU := hBU.size; (try have hVB2 := Lib.hid (hVB.out.below hBU hVB.out.lt)); (try have hzU' := Nat.le_trans hzB hzU); clear hoU hgU)); refine hkI hK (h := ?_); clear hK K)
    try refine ztP ?_
    refine ztE fun K hK => ?_; (first | (refine wp_make_full _ _ 32 rfl W3.heap.size 4 iB (.bool false) 1 Tryz.underlying32 hiB hzB0 hzB1 .i64 .i64 _ _ n1 rfl rfl rfl rfl (by rw [hzB2]; omega) (by unfold maxLen; omega) (by first | exact Nat.le_refl _ | assumption) ?_; intro wB hoB hgB; have hVB := Lib.hid (made_one hoB); have hVBz := (made_one hoB).lt; have hBB : Below _ _ wB := (Below.refl _ _).grown hgB (Nat.le_refl _) (fun k e => by cases e); have hzB := hBB.size; (try have hVU2 := Lib.hid (hVU.out.below hBB hVU.out.lt)); (try have hzB' := Nat.le_trans hzU hzB); clear hoB hgB) | (refine wp_make_full _ _ 22 rfl W3.heap.size 38 iU (.int .u64 0) 1 Tryz.underlying22 hiU hzU0 hzU1 .i64 .i64 _ _ n1 rfl rfl rfl rfl (by rw [hzU2]; omega) (by unfold maxLen; omega) (by first | exact Nat.le_refl _ | assumption) ?_; intro wU hoU hgU; have hVU := Lib.hid (made_one hoU); have hVUz := (made_one hoU).lt; have hBU : Below _ _ wU := (Below.refl _ _).grown hgU (Nat.le_refl _) (fun k e => by cases e); have hzU := hBU.size; (try have hVB2 := Lib.hid (hVB.out.below hBU hVB.out.lt)); (try have hzU' := Nat.le_trans hzB hzU); clear hoU hgU)); refine hK.out _ _ ?_; clear hK K
    try refine ztP ?_; refine ztC ?_; refine ztC ?_
    refine T_done ?_
    rotate_left 1
    rotate_right 2
    · go_wp2
      go_meet
      exact ⟨_, _, _, rfl, rfl, rfl, ⟨hVB2.out, hVU.out, Nat.ne_of_lt hVBz⟩, Nat.le_refl _, hzB, (Below.undrew hBB).trans (hBU.mono hzB)⟩
    · go_wp2
      go_meet
      exact ⟨_, _, _, rfl, rfl, rfl, ⟨hVB.out, hVU2.out, fun e => Nat.ne_of_lt hVUz e.symm⟩, hzU, Nat.le_refl _, (Below.undrew hBU).trans (hBB.mono hzU)⟩
  case rest =>
    obtain ⟨VB, VU, wy, rfl, rfl, rfl, hV, hVB, hVU, hbc⟩ := hcut
    go_wp2
    have S4 := Lib.hid (NFs.begin V2.out B2.out HW3.out hV hVB hVU hbc)
    have L4 := Lib.hid (show NL 1 (fun _ => NdS.idle 0 0 (TabS.new 1)) H (thP n1 (fun _ => false)) (vaV (fun _ => 0)) from ⟨PD.new, fun i _ => by rw [thP_none]; exact NA.new⟩)
    simp only [MeterS.cells, MeterS.zero] at S4
    obtain ⟨M, hM⟩ : ∃ M, M = wy.heap.size := ⟨_, rfl⟩
    obtain ⟨B, hB⟩ : ∃ B, B = w2.heap.size + 1 := ⟨_, rfl⟩
    simp only [← hM, ← hB, hge] at S4 ⊢
    clear hM hB hV hVB hVU hbc HW3
    go_loopg [74] n2 (fun gk v74 wr => ∃ (x N : Nat) (Nb : Nat → Nat) (G cap : Nat) (K : Nat → Prop) (th : Nat → Bool) (va : Nat → Int), x + gk = n2 ∧ v74 = .int .i64 (x : Int) ∧ F0 wr N Nb M B G cap VB VU n1 K th va H E w0)
    case atStart => exact ⟨0, 1, _, _, _, _, _, _, by omega, rfl, _, S4.out, L4.out⟩
    case round =>
      clear S4 L4
      obtain ⟨x, N, Nb, G, cap, K, th, va, hx, rfl, hF⟩ := hrel
      obtain ⟨ga, hga⟩ : ∃ ga, ga = gk := ⟨_, rfl⟩
      subst hga
      as_aux_lemma =>
        have FA := Lib.hid hF
        have BD := Lib.hid hF.bel
        clear hF
        by_cases hlt : x < n2
        · have hltI : (x : Int) < (n2 : Int) := by omega
          obtain ⟨ab, ao, rfl, haz, hac⟩ := HA.out (by omega)
          have t0 : wr.cell? ⟨ab, ao + x * 3, none⟩ = some (.int .i64 (f2 x 0)) := by simpa using hac wr BD.out x hlt 0 (by decide)
          have t1 : wr.cell? ⟨ab, ao + x * 3 + 1, none⟩ = some (.int .i64 (f2 x 1)) := by simpa [Nat.add_assoc] using hac wr BD.out x hlt 1 (by decide)
          have t2 : wr.cell? ⟨ab, ao + x * 3 + 2, none⟩ = some (.int .i64 (f2 x 2)) := by simpa [Nat.add_assoc] using hac wr BD.out x hlt 2 (by decide)
          have haz2 : ab < wr.heap.size := Nat.lt_of_lt_of_le haz BD.out.size
          generalize f2 x 0 = kd at t0
          generalize f2 x 1 = ky at t1
          generalize f2 x 2 = vN at t2
          have hqk := keyI_lt ky n1 k1.1
          have hkey : (IntKind.u64.wrap ky).tmod (n1 : Int) = (keyI ky n1 : Int) := by
            have hw := wrap_u64_bd ky
            unfold keyI
            rw [Int.tmod_eq_emod_of_nonneg hw.1]
            have h2 := Int.emod_nonneg (IntKind.u64.wrap ky) (show (n1 : Int) ≠ 0 by omega)
            omega
          have HK := Lib.hid hkey
          clear hkey
          obtain ⟨q, hq⟩ : ∃ q, q = keyI ky n1 := ⟨_, rfl⟩
          rw [← hq] at hqk HK
          have hGq := HG.out q hqk
          have hHq := HH.out q hqk
          have gq := HC.out wr BD.out q hqk
          obtain ⟨hh, hhe⟩ : ∃ hh, hh = G1 q := ⟨_, rfl⟩
          rw [← hhe] at hGq hHq gq
          have HHq := Lib.hid hHq
          have e0 : IntKind.u64.wrap (n1 : Int) = (n1 : Int) := by rw [IntKind.wrap_u64]; omega
          have e1 : IntKind.i64.wrap (q : Int) = (q : Int) := by rw [IntKind.wrap_i64]; omega
          have e2 : IntKind.u64.wrap (q : Int) = (q : Int) := by rw [IntKind.wrap_u64]; omega
          have hqI : (q : Int) < (n1 : Int) := by omega
          have hkey := HK.out
          have zb := Nat.lt_of_lt_of_le hb1z BD.out.size
          clear hac haz hq hhe hHq HK
          go_upto_region 16 with (fail)
          refine wp_at (fun w5 hw5 => ?_)
          obtain ⟨A, hAA⟩ : ∃ A, A = wr.heap.size := ⟨_, rfl⟩
          have F5 := Lib.hid (show F0 w5 N Nb M B G cap VB VU n1 (KQ K A) th va H E w0 by rw [hw5, hAA]; exact FA.out.keepP _)
          have A5 := Lib.hid (show Blk w5 A 44 #[.int .i64 kd, .int .i64 ky, .int .i64 vN] by rw [hw5, hAA]; exact Blk.new _ _ _)
          have B5 : Below wr.heap.size wr w5 := by rw [hw5]; go_grown
          replace gq := (B5.cell (p := ⟨b1, o1 + q, none⟩) zb).trans gq
          have zb5 : b1 < w5.heap.size := Nat.lt_of_lt_of_le zb B5.size
          have hkA : KQ K A A := .inr rfl
          rw [← hAA]
          obtain ⟨a50, a51, a52⟩ := cells3 A5.out
          have za5 := A5.out.lt
          obtain ⟨KA, hKA⟩ : ∃ KA, KA = KQ K A := ⟨_, rfl⟩
          rw [← hKA] at F5 hkA
          have HKA := Lib.hid hkA
          have hAVB : ¬ A = VB := by have := FA.out.tv.b.lt; omega
          have hAVU : ¬ A = VU := by have := FA.out.tv.u.lt; omega
          have hbVB : ¬ b1 = VB := by have := FA.out.lo; omega
          have hbVU : ¬ b1 = VU := by have := FA.out.lo; omega
          clear hw5 hAA B5 zb t0 t1 t2 haz2 BD FA hKA hkA
          have OF := Lib.hid (F5.out.of hh hGq)
          go_upto_if 96 with (go_at_call 7; (with_reducible refine OF.out.mono ?_); rintro e w6 ⟨i, rfl, hF6, hb6⟩; have F6 := Lib.hid hF6; have A6 := Lib.hid (A5.out.below hb6 A5.out.lt); have a6 := cells3 A6.out; have a60 := a6.1; have a61 := a6.2.1; have a62 := a6.2.2; have za6 := A6.out.lt; have gq6 := (hb6.cell (p := ⟨b1, o1 + q, none⟩) zb5).trans gq; have zb6 := Nat.lt_of_lt_of_le zb5 hb6.size; clear a6 hF6 hb6)
          clear a50 a51 a52 za5 gq zb5 A5 F5 OF
          go_cut [] (fun wx => ∃ th' va', F1 wx N Nb M B G cap VB VU n1 KA th' va' th' va' H E w0 i)
          case first =>
            by_cases q2 : kd = 2
            · subst q2
              as_aux_lemma =>
                have DE := Lib.hid (fun (K9 : Nat → Prop) (w' : World) (h' : F0h w' N Nb M B G cap VB VU n1 K9 th va H E w0 i hh) => h'.del HHb.out hqk HHq.out 1 0 0)
                have hbX : ¬ KC KA w0.heap.size b1 := fun e => absurd e.1 (by omega)
                go_upto_region 21 with (fail)
                go_cut [20] (fun v20 wx => v20 = .bool (th q) ∧ F1 wx N Nb M B G cap VB VU n1 KA th va (upd th q false) va H E w0 i)
                case first =>
                  have HKK := Lib.hid F6.out.kk
                  refine wp_region_T (KC KA w0.heap.size) #[⟨0, 0, 2^98, 262144, 0⟩, ⟨0, 0, 2^99, 8192, 0⟩, ⟨2, 2, 2^100, 2^99, 2⟩, ⟨0, 0, 2^101, 131072, 0⟩, ⟨8, 8, 2^102, 2^101, 0⟩, ⟨0, 0, 2^103, 1, 0⟩, ⟨0, 0, 2^104, 131072, 0⟩, ⟨96, 96, 2^105, (2^103+2^104), 0⟩, ⟨128, 224, 2^106, 2^105, 1⟩, ⟨277, 511, 2^107, 87784804065804886053646696972288, 3⟩, ⟨512, 1023, 2^97, 2^107, 0⟩, ⟨1024, 2047, 2^108, 2^97, 0⟩, ⟨1024, 2047, 2^109, 2^97, 0⟩, ⟨0, 0, 524288, 0, 2⟩, ⟨12287, 12287, 0, (2^19+2^108), 3⟩, ⟨32767, 32767, 1048576, 2^109, 0⟩] 256 (.step 0 0 (.step 1 0 (.step 3 0 (.step 4 0 (.step 5 0 (.step 6 0 (.step 7 0 (.step 8 1 (.fork (.alt 2 (.fork (.alt 9 (.step 10 0 (.step 11 0 (.step 12 0 (.step 13 2 (.step 14 3 (.step 15 0 Plan.done)))))) (.alt 13 (.step 9 3 (.step 10 0 (.step 11 0 (.step 12 0 (.step 14 3 (.step 15 0 Plan.done)))))) Plan.none))) (.alt 13 (.step 2 2 (.step 9 3 (.step 10 0 (.step 11 0 (.step 12 0 (.step 14 3 (.step 15 0 Plan.done))))))) Plan.none))))))))))) (by kernel_rfl) (by kernel_rfl) (by kernel_rfl) (by kernel_rfl) (by kernel_rfl) (by kernel_rfl) (fun c a d v w h => by cases d <;> exact h) ?_
                  refine ztC ?_; refine ztC ?_; refine ztC ?_; refine ztC ?_; refine ztC ?_; refine ztC ?_; refine ztC ?_
                  refine zt1 Tryz.underlying38 ?_
                  try refine ztP ?_
                  refine zt2 (fun K hK => ?_) fun K hK => ?_
                  (go_wp2_with (first | (go_at_call 11; (with_reducible refine (probing_any _ _).mono ?_); rintro e w7 ⟨rfl, hb7⟩; (first | (have F7 : Hid (F0h w7 N Nb M B G cap VB VU n1 KA th va H E w0 i hh) := Lib.hid ((F6.out.later (Below.refl _ _).drew).later hb7)) | (have F7 : Hid (F0h w7 N Nb M B G cap VB VU n1 (KQ KA w6.heap.size) th va H E w0 i hh) := Lib.hid (((F6.out.later (Below.refl _ _).drew).keepP _).later hb7); have P7 : Hid (Blk w7 w6.heap.size 46 #[.int .u64 0, .int .u64 0, .int .u64 0]) := Lib.hid (Blk.below (Blk.new w6.drew _ _) hb7 (by simp))))) | (go_at_call 10; ((with_reducible refine (DE.out _ _ (by first | exact F7.out | exact F7.out.keepP _)).mono ?_); rintro e w8 ⟨ea, eb, ec, rfl, hF8, hc8⟩; (first | (have F8 : Hid (F1 w8 N Nb M B G cap VB VU n1 KA th va (upd th q false) va H E w0 i) := Lib.hid hF8) | (have F8 : Hid (F1 w8 N Nb M B G cap VB VU n1 (KQ KA w7.heap.size) th va (upd th q false) va H E w0 i) := Lib.hid hF8; have hcX : Chg (KC KA w0.heap.size) _ w8 := hc8.mono (fun b _ e => ⟨e.1, fun e2 => e.2 (Or.inl e2)⟩); have P8 : Hid (Blk w8 w7.heap.size 46 #[.int .u64 0, .int .u64 0, .int .u64 0]) := Lib.hid ((Blk.new w7 _ _).chg hc8 (fun e => e.2 (Or.inr rfl))); have q8 := cells3 P8.out; have p80 := q8.1; have p81 := q8.2.1; have p82 := q8.2.2; clear q8; have pf8 := fun j => P8.out.frozen j; have zP8 := P8.out.lt; have HPz := Lib.hid F7.out.fresh) | (have F8 : Hid (F1 w8 N Nb M B G cap VB VU n1 (KQ KA w6.heap.size) th va (upd th q false) va H E w0 i) := Lib.hid hF8; have hcX : Chg (KC KA w0.heap.size) _ w8 := hc8.mono (fun b _ e => ⟨e.1, fun e2 => e.2 (Or.inl e2)⟩); have P8 : Hid (Blk w8 w6.heap.size 46 #[.int .u64 0, .int .u64 0, .int .u64 0]) := Lib.hid (P7.out.chg hc8 (fun e => e.2 (Or.inr rfl))); have q8 := cells3 P8.out; have p80 := q8.1; have p81 := q8.2.1; have p82 := q8.2.2; clear q8; have pf8 := fun j => P8.out.frozen j; have zP8 := P8.out.lt; have HPz := Lib.hid F6.out.fresh))))); refine hkI hK (h := ?_); clear hK K)
                  try refine ztP ?_
                  refine zt2 (fun K hK => ?_) fun K hK => ?_
                  (go_wp2_with (first | (go_at_call 11; (with_reducible refine (probing_any _ _).mono ?_); rintro e w7 ⟨rfl, hb7⟩; (first | (have F7 : Hid (F0h w7 N Nb M B G cap VB VU n1 KA th va H E w0 i hh) := Lib.hid ((F6.out.later (Below.refl _ _).drew).later hb7)) | (have F7 : Hid (F0h w7 N Nb M B G cap VB VU n1 (KQ KA w6.heap.size) th va H E w0 i hh) := Lib.hid (((F6.out.later (Below.refl _ _).drew).keepP _).later hb7); have P7 : Hid (Blk w7 w6.heap.size 46 #[.int .u64 0, .int .u64 0, .int .u64 0]) := Lib.hid (Blk.below (Blk.new w6.drew _ _) hb7 (by simp))))) | (go_at_call 10; ((with_reducible refine (DE.out _ _ (by first | exact F7.out | exact F7.out.keepP _)).mono ?_); rintro e w8 ⟨ea, eb, ec, rfl, hF8, hc8⟩; (first | (have F8 : Hid (F1 w8 N Nb M B G cap VB VU n1 KA th va (upd th q false) va H E w0 i) := Lib.hid hF8) | (have F8 : Hid (F1 w8 N Nb M B G cap VB VU n1 (KQ KA w7.heap.size) th va (upd th q false) va H E w0 i) := Lib.hid hF8; have hcX : Chg (KC KA w0.heap.size) _ w8 := hc8.mono (fun b _ e => ⟨e.1, fun e2 => e.2 (Or.inl e2)⟩); have P8 : Hid (Blk w8 w7.heap.size 46 #[.int .u64 0, .int .u64 0, .int .u64 0]) := Lib.hid ((Blk.new w7 _ _).chg hc8 (fun e => e.2 (Or.inr rfl))); have q8 := cells3 P8.out; have p80 := q8.1; have p81 := q8.2.1; have p82 := q8.2.2; clear q8; have pf8 := fun j => P8.out.frozen j; have zP8 := P8.out.lt; have HPz := Lib.hid F7.out.fresh) | (have F8 : Hid (F1 w8 N Nb M B G cap VB VU n1 (KQ KA w6.heap.size) th va (upd th q false) va H E w0 i) := Lib.hid hF8; have hcX : Chg (KC KA w0.heap.size) _ w8 := hc8.mono (fun b _ e => ⟨e.1, fun e2 => e.2 (Or.inl e2)⟩); have P8 : Hid (Blk w8 w6.heap.size 46 #[.int .u64 0, .int .u64 0, .int .u64 0]) := Lib.hid (P7.out.chg hc8 (fun e => e.2 (Or.inr rfl))); have q8 := cells3 P8.out; have p80 := q8.1; have p81 := q8.2.1; have p82 := q8.2.2; clear q8; have pf8 := fun j => P8.out.frozen j; have zP8 := P8.out.lt; have HPz := Lib.hid F6.out.fresh))))); refine hkI hK (h := ?_); clear hK K)
                  try refine ztP ?_; refine ztC ?_; refine ztC ?_; refine ztC ?_
                  refine ztD fun K hK => ?_; go_wp2_with (fail); refine hkI hK (h := ?_); clear hK K
                  try refine ztP ?_
                  refine ztE fun K hK => ?_; go_wp2_with (fail); refine hK.out _ _ ?_; clear hK K
                  try refine ztP ?_; refine ztC ?_
                  refine T_done ?_
                  rotate_left 1
                  (go_wp2_with (fail); refine hkI hK (h := ?_); clear hK K)
                  try refine ztP ?_
                  refine ztE fun K hK => ?_; go_wp2_with (first | (go_at_call 11; (with_reducible refine (probing_any _ _).mono ?_); rintro e w7 ⟨rfl, hb7⟩; (first | (have F7 : Hid (F0h w7 N Nb M B G cap VB VU n1 KA th va H E w0 i hh) := Lib.hid ((F6.out.later (Below.refl _ _).drew).later hb7)) | (have F7 : Hid (F0h w7 N Nb M B G cap VB VU n1 (KQ KA w6.heap.size) th va H E w0 i hh) := Lib.hid (((F6.out.later (Below.refl _ _).drew).keepP _).later hb7); have P7 : Hid (Blk w7 w6.heap.size 46 #[.int .u64 0, .int .u64 0, .int .u64 0]) := Lib.hid (Blk.below (Blk.new w6.drew _ _) hb7 (by simp))))) | (go_at_call 10; ((with_reducible refine (DE.out _ _ (by first | exact F7.out | exact F7.out.keepP _)).mono ?_); rintro e w8 ⟨ea, eb, ec, rfl, hF8, hc8⟩; (first | (have F8 : Hid (F1 w8 N Nb M B G cap VB VU n1 KA th va (upd th q false) va H E w0 i) := Lib.hid hF8) | (have F8 : Hid (F1 w8 N Nb M B G cap VB VU n1 (KQ KA w7.heap.size) th va (upd th q false) va H E w0 i) := Lib.hid hF8; have hcX : Chg (KC KA w0.heap.size) _ w8 := hc8.mono (fun b _ e => ⟨e.1, fun e2 => e.2 (Or.inl e2)⟩); have P8 : Hid (Blk w8 w7.heap.size 46 #[.int .u64 0, .int .u64 0, .int .u64 0]) := Lib.hid ((Blk.new w7 _ _).chg hc8 (fun e => e.2 (Or.inr rfl))); have q8 := cells3 P8.out; have p80 := q8.1; have p81 := q8.2.1; have p82 := q8.2.2; clear q8; have pf8 := fun j => P8.out.frozen j; have zP8 := P8.out.lt; have HPz := Lib.hid F7.out.fresh) | (have F8 : Hid (F1 w8 N Nb M B G cap VB VU n1 (KQ KA w6.heap.size) th va (upd th q false) va H E w0 i) := Lib.hid hF8; have hcX : Chg (KC KA w0.heap.size) _ w8 := hc8.mono (fun b _ e => ⟨e.1, fun e2 => e.2 (Or.inl e2)⟩); have P8 : Hid (Blk w8 w6.heap.size 46 #[.int .u64 0, .int .u64 0, .int .u64 0]) := Lib.hid (P7.out.chg hc8 (fun e => e.2 (Or.inr rfl))); have q8 := cells3 P8.out; have p80 := q8.1; have p81 := q8.2.1; have p82 := q8.2.2; clear q8; have pf8 := fun j => P8.out.frozen j; have zP8 := P8.out.lt; have HPz := Lib.hid F6.out.fresh))))); refine hK.out _ _ ?_; clear hK K
                  try refine ztP ?_; refine ztC ?_; refine ztC ?_; refine ztC ?_
                  refine ztE fun K hK => ?_; go_wp2_with (fail); refine hK.out _ _ ?_; clear hK K
                  try refine ztP ?_; refine ztC ?_
                  refine T_done ?_
                  rotate_left 1
                  rotate_right 2
                  rotate_left 2
                  (go_wp2_with (fail); refine hkI hK (h := ?_); clear hK K)
                  try refine ztP ?_
                  refine ztD fun K hK => ?_; go_wp2_with (first | (go_at_call 11; (with_reducible refine (probing_any _ _).mono ?_); rintro e w7 ⟨rfl, hb7⟩; (first | (have F7 : Hid (F0h w7 N Nb M B G cap VB VU n1 KA th va H E w0 i hh) := Lib.hid ((F6.out.later (Below.refl _ _).drew).later hb7)) | (have F7 : Hid (F0h w7 N Nb M B G cap VB VU n1 (KQ KA w6.heap.size) th va H E w0 i hh) := Lib.hid (((F6.out.later (Below.refl _ _).drew).keepP _).later hb7); have P7 : Hid (Blk w7 w6.heap.size 46 #[.int .u64 0, .int .u64 0, .int .u64 0]) := Lib.hid (Blk.below (Blk.new w6.drew _ _) hb7 (by simp))))) | (go_at_call 10; ((with_reducible refine (DE.out _ _ (by first | exact F7.out | exact F7.out.keepP _)).mono ?_); rintro e w8 ⟨ea, eb, ec, rfl, hF8, hc8⟩; (first | (have F8 : Hid (F1 w8 N Nb M B G cap VB VU n1 KA th va (upd th q false) va H E w0 i) := Lib.hid hF8) | (have F8 : Hid (F1 w8 N Nb M B G cap VB VU n1 (KQ KA w7.heap.size) th va (upd th q false) va H E w0 i) := Lib.hid hF8; have hcX : Chg (KC KA w0.heap.size) _ w8 := hc8.mono (fun b _ e => ⟨e.1, fun e2 => e.2 (Or.inl e2)⟩); have P8 : Hid (Blk w8 w7.heap.size 46 #[.int .u64 0, .int .u64 0, .int .u64 0]) := Lib.hid ((Blk.new w7 _ _).chg hc8 (fun e => e.2 (Or.inr rfl))); have q8 := cells3 P8.out; have p80 := q8.1; have p81 := q8.2.1; have p82 := q8.2.2; clear q8; have pf8 := fun j => P8.out.frozen j; have zP8 := P8.out.lt; have HPz := Lib.hid F7.out.fresh) | (have F8 : Hid (F1 w8 N Nb M B G cap VB VU n1 (KQ KA w6.heap.size) th va (upd th q false) va H E w0 i) := Lib.hid hF8; have hcX : Chg (KC KA w0.heap.size) _ w8 := hc8.mono (fun b _ e => ⟨e.1, fun e2 => e.2 (Or.inl e2)⟩); have P8 : Hid (Blk w8 w6.heap.size 46 #[.int .u64 0, .int .u64 0, .int .u64 0]) := Lib.hid (P7.out.chg hc8 (fun e => e.2 (Or.inr rfl))); have q8 := cells3 P8.out; have p80 := q8.1; have p81 := q8.2.1; have p82 := q8.2.2; clear q8; have pf8 := fun j => P8.out.frozen j; have zP8 := P8.out.lt; have HPz := Lib.hid F6.out.fresh))))); refine hkI hK (h := ?_); clear hK K
                  try refine ztP ?_
                  refine ztE fun K hK => ?_; go_wp2_with (first | (go_at_call 11; (with_reducible refine (probing_any _ _).mono ?_); rintro e w7 ⟨rfl, hb7⟩; (first | (have F7 : Hid (F0h w7 N Nb M B G cap VB VU n1 KA th va H E w0 i hh) := Lib.hid ((F6.out.later (Below.refl _ _).drew).later hb7)) | (have F7 : Hid (F0h w7 N Nb M B G cap VB VU n1 (KQ KA w6.heap.size) th va H E w0 i hh) := Lib.hid (((F6.out.later (Below.refl _ _).drew).keepP _).later hb7); have P7 : Hid (Blk w7 w6.heap.size 46 #[.int .u64 0, .int .u64 0, .int .u64 0]) := Lib.hid (Blk.below (Blk.new w6.drew _ _) hb7 (by simp))))) | (go_at_call 10; ((with_reducible refine (DE.out _ _ (by first | exact F7.out | exact F7.out.keepP _)).mono ?_); rintro e w8 ⟨ea, eb, ec, rfl, hF8, hc8⟩; (first | (have F8 : Hid (F1 w8 N Nb M B G cap VB VU n1 KA th va (upd th q false) va H E w0 i) := Lib.hid hF8) | (have F8 : Hid (F1 w8 N Nb M B G cap VB VU n1 (KQ KA w7.heap.size) th va (upd th q false) va H E w0 i) := Lib.hid hF8; have hcX : Chg (KC KA w0.heap.size) _ w8 := hc8.mono (fun b _ e => ⟨e.1, fun e2 => e.2 (Or.inl e2)⟩); have P8 : Hid (Blk w8 w7.heap.size 46 #[.int .u64 0, .int .u64 0, .int .u64 0]) := Lib.hid ((Blk.new w7 _ _).chg hc8 (fun e => e.2 (Or.inr rfl))); have q8 := cells3 P8.out; have p80 := q8.1; have p81 := q8.2.1; have p82 := q8.2.2; clear q8; have pf8 := fun j => P8.out.frozen j; have zP8 := P8.out.lt; have HPz := Lib.hid F7.out.fresh) | (have F8 : Hid (F1 w8 N Nb M B G cap VB VU n1 (KQ KA w6.heap.size) th va (upd th q false) va H E w0 i) := Lib.hid hF8; have hcX : Chg (KC KA w0.heap.size) _ w8 := hc8.mono (fun b _ e => ⟨e.1, fun e2 => e.2 (Or.inl e2)⟩); have P8 : Hid (Blk w8 w6.heap.size 46 #[.int .u64 0, .int .u64 0, .int .u64 0]) := Lib.hid (P7.out.chg hc8 (fun e => e.2 (Or.inr rfl))); have q8 := cells3 P8.out; have p80 := q8.1; have p81 := q8.2.1; have p82 := q8.2.2; clear q8; have pf8 := fun j => P8.out.frozen j; have zP8 := P8.out.lt; have HPz := Lib.hid F6.out.fresh))))); refine hK.out _ _ ?_; clear hK K
                  try refine ztP ?_; refine ztC ?_; refine ztC ?_; refine ztC ?_
                  refine ztE fun K hK => ?_; go_wp2_with (fail); refine hK.out _ _ ?_; clear hK K
                  try refine ztP ?_; refine ztC ?_
                  refine T_done ?_
                  rotate_left 1
                  rotate_right 3
                  all_goals (go_wp2; go_meet)
                  all_goals
                    first
                      | exact ⟨rfl, F8.out⟩
                      | exact ⟨rfl, F8.out.later ((Below.refl _ _).alloc (Nat.le_refl _) _)⟩
                      | exact ⟨rfl, F8.out.setP HKK.out HPz.out (((Chg.refl _ _).set1 _ _).set1 _ _ |>.set1 _ _)⟩
                case rest =>
                  obtain ⟨rfl, hF⟩ := hcut
                  have F8 := Lib.hid hF
                  have v8 := hF.tv.cells hqk
                  have v80 := v8.1
                  have zV8 := hF.tv.b.lt
                  have vf8 := hF.tv.b.frozen q
                  clear v8 hF DE
                  cases ht : th q with
                  | true =>
                    rw [ht] at v80
                    clear ht
                    go_wp2
                    go_meet
                    exact ⟨_, _, F8.out.setB hqk false⟩
                  | false =>
                    rw [ht] at v80
                    clear ht
                    go_wp2
                    go_meet
                    exact ⟨_, _, F8.out.setB hqk false⟩
            · have q2' : (kd == 2) = false := by simpa using q2
              as_aux_lemma =>
                obtain ⟨vv, hvv⟩ : ∃ vv, IntKind.u64.wrap vN = vv := ⟨_, rfl⟩
                have PU := Lib.hid (fun (w' : World) (h' : F0h w' N Nb M B G cap VB VU n1 KA th va H E w0 i hh) => h'.put HHb.out hqk HHq.out vv 1 0 0)
                have sVV : ¬ VB = VU := F6.out.ne
                have sVV' : ¬ VU = VB := fun e => sVV e.symm
                cases ht : th q with
                | true =>
                  rw [ht] at PU
                  simp only [Bool.not_true] at PU
                  go_upto_region 25 with (fail)
                  refine wp_region_seq (fun _ => False) #[⟨0, 0, 2^120, 262144, 0⟩, ⟨0, 0, 2^121, 8192, 0⟩, ⟨2, 2, 2^122, 2^121, 2⟩, ⟨0, 0, 2^123, 131072, 0⟩, ⟨8, 8, 2^124, 2^123, 0⟩, ⟨0, 0, 2^125, 65536, 0⟩, ⟨32, 32, 2^126, 2^125, 1⟩, ⟨64, 96, 2^127, 2^126, 0⟩, ⟨0, 0, 2^128, 1, 0⟩, ⟨0, 0, 2^129, 131072, 0⟩, ⟨768, 768, 2^130, (2^128+2^129), 0⟩, ⟨1024, 1792, 2^131, 2^130, 1⟩, ⟨2192, 4088, 2^132, (2^124+2^127+2^131), 0⟩, ⟨4101, 8191, 2^133, (2^120+2^122+2^132), 3⟩, ⟨8192, 16383, 2^119, 2^133, 0⟩, ⟨16384, 32767, 2^134, 2^119, 0⟩, ⟨16384, 32767, 2^135, 2^119, 0⟩, ⟨65535, 65535, 2097152, 2^134, 0⟩, ⟨262143, 262143, 4194304, 2^135, 0⟩] 2112 [(0, 0), (1, 0), (3, 0), (4, 0), (5, 0), (6, 1), (7, 0), (8, 0), (9, 0), (10, 0), (11, 1), (12, 0), (2, 2), (13, 3), (14, 0), (15, 0), (16, 0), (17, 0), (18, 0)] (by kernel_rfl) (by kernel_rfl) (by kernel_rfl) (by kernel_rfl) (by kernel_rfl) (by kernel_rfl) (fun c a d v w h => by cases d <;> exact h) ?_
                  refine zqC ?_; refine zqC ?_; refine zqC ?_; refine zqC ?_; refine zqC ?_
                  refine zq1 Tryz.underlying3 ?_
                  try refine zqP ?_; refine zqC ?_; refine zqC ?_; refine zqC ?_; refine zqC ?_
                  refine zq1 Tryz.underlying38 ?_
                  try refine zqP ?_; refine zqC ?_
                  refine zqD fun K hK => ?_; go_wp2_with (first | (go_at_call 11; (with_reducible refine (probing_any _ _).mono ?_); rintro e w7 ⟨rfl, hb7⟩; have F7 := Lib.hid ((F6.out.later (Below.refl _ _).drew).later hb7); have A7 := Lib.hid (A6.out.drew.below hb7 A6.out.drew.lt)) | (go_at_call 12; (with_reducible refine (PU.out _ F7.out).mono ?_); rintro e w8 ⟨rfl, hF8, hc8⟩; have F8 := Lib.hid hF8; have A8 := Lib.hid (A7.out.chg hc8 (fun e => e.2 HKA.out)); have a8 := cells3 A8.out; have a80 := a8.1; have a81 := a8.2.1; have a82 := a8.2.2; have za8 := A8.out.lt; have v8 := hF8.tv.cells hqk; have v80 := v8.1; have v81 := v8.2; have zV8 := hF8.tv.b.lt; have zU8 := hF8.tv.u.lt; have vf8 := hF8.tv.b.frozen q; have uf8 := hF8.tv.u.frozen q; clear a8 v8 hF8 a60 a61 a62)); refine hkA hK (h := ?_); clear hK K
                  try refine zqP ?_
                  refine zqE fun K hK => ?_; go_wp2_with (first | (go_at_call 11; (with_reducible refine (probing_any _ _).mono ?_); rintro e w7 ⟨rfl, hb7⟩; have F7 := Lib.hid ((F6.out.later (Below.refl _ _).drew).later hb7); have A7 := Lib.hid (A6.out.drew.below hb7 A6.out.drew.lt)) | (go_at_call 12; (with_reducible refine (PU.out _ F7.out).mono ?_); rintro e w8 ⟨rfl, hF8, hc8⟩; have F8 := Lib.hid hF8; have A8 := Lib.hid (A7.out.chg hc8 (fun e => e.2 HKA.out)); have a8 := cells3 A8.out; have a80 := a8.1; have a81 := a8.2.1; have a82 := a8.2.2; have za8 := A8.out.lt; have v8 := hF8.tv.cells hqk; have v80 := v8.1; have v81 := v8.2; have zV8 := hF8.tv.b.lt; have zU8 := hF8.tv.u.lt; have vf8 := hF8.tv.b.frozen q; have uf8 := hF8.tv.u.frozen q; clear a8 v8 hF8 a60 a61 a62)); refine hK.out _ _ ?_; clear hK K
                  try refine zqP ?_; refine zqC ?_; refine zqC ?_; refine zqC ?_; refine zqC ?_; refine zqC ?_
                  refine seq_nil ?_
                  rw [ht] at v80
                  clear ht
                  go_wp2
                  refine wp_region_seq (fun b => b = VB ∨ b = VU) #[⟨0, 0, 2^146, 2048, 0⟩, ⟨0, 0, 2^147, 131072, 0⟩, ⟨0, 0, 2^148, 4096, 0⟩, ⟨0, 0, 2^149, 131072, 0⟩, ⟨0, 0, 2^150, 65536, 0⟩, ⟨16, 16, 2^151, 2^150, 1⟩, ⟨32, 48, 2^152, 2^151, 0⟩, ⟨3, 3, 2^153, (2^146+2^147), 0⟩, ⟨131, 131, 0, 2^153, 2⟩, ⟨511, 511, 2^154, (2^148+2^149), 0⟩, ⟨1023, 1023, 0, (2^152+2^154), 3⟩] 32 [(0, 0), (1, 0), (2, 0), (3, 0), (4, 0), (5, 1), (6, 0), (7, 0), (8, 2), (9, 0), (10, 3)] (by kernel_rfl) (by kernel_rfl) (by kernel_rfl) (by kernel_rfl) (by kernel_rfl) (by kernel_rfl) (fun c a d v w h => by cases d <;> exact h) ?_
                  refine zqC ?_; refine zqC ?_; refine zqC ?_; refine zqC ?_; refine zqC ?_
                  refine zq1 Tryz.underlying3 ?_
                  try refine zqP ?_; refine zqC ?_; refine zqC ?_
                  refine zqD fun K hK => ?_; go_wp2_with (fail); refine hkA hK (h := ?_); clear hK K
                  try refine zqP ?_; refine zqC ?_
                  refine zqE fun K hK => ?_; go_wp2_with (fail); refine hK.out _ _ ?_; clear hK K
                  try refine zqP ?_
                  refine seq_nil ?_
                  go_wp2
                  go_meet
                  exact ⟨_, _, ((F8.out.setB hqk true).setU hqk vv).later (Below.refl _ _).drew⟩
                | false =>
                  rw [ht] at PU
                  simp only [Bool.not_false] at PU
                  go_upto_region 25 with (fail)
                  refine wp_region_seq (fun _ => False) #[⟨0, 0, 2^120, 262144, 0⟩, ⟨0, 0, 2^121, 8192, 0⟩, ⟨2, 2, 2^122, 2^121, 2⟩, ⟨0, 0, 2^123, 131072, 0⟩, ⟨8, 8, 2^124, 2^123, 0⟩, ⟨0, 0, 2^125, 65536, 0⟩, ⟨32, 32, 2^126, 2^125, 1⟩, ⟨64, 96, 2^127, 2^126, 0⟩, ⟨0, 0, 2^128, 1, 0⟩, ⟨0, 0, 2^129, 131072, 0⟩, ⟨768, 768, 2^130, (2^128+2^129), 0⟩, ⟨1024, 1792, 2^131, 2^130, 1⟩, ⟨2192, 4088, 2^132, (2^124+2^127+2^131), 0⟩, ⟨4101, 8191, 2^133, (2^120+2^122+2^132), 3⟩, ⟨8192, 16383, 2^119, 2^133, 0⟩, ⟨16384, 32767, 2^134, 2^119, 0⟩, ⟨16384, 32767, 2^135, 2^119, 0⟩, ⟨65535, 65535, 2097152, 2^134, 0⟩, ⟨262143, 262143, 4194304, 2^135, 0⟩] 2112 [(0, 0), (1, 0), (3, 0), (4, 0), (5, 0), (6, 1), (7, 0), (8, 0), (9, 0), (10, 0), (11, 1), (12, 0), (2, 2), (13, 3), (14, 0), (15, 0), (16, 0), (17, 0), (18, 0)] (by kernel_rfl) (by kernel_rfl) (by kernel_rfl) (by kernel_rfl) (by kernel_rfl) (by kernel_rfl) (fun c a d v w h => by cases d <;> exact h) ?_
                  refine zqC ?_; refine zqC ?_; refine zqC ?_; refine zqC ?_; refine zqC ?_
                  refine zq1 Tryz.underlying3 ?_
                  try refine zqP ?_; refine zqC ?_; refine zqC ?_; refine zqC ?_; refine zqC ?_
                  refine zq1 Tryz.underlying38 ?_
                  try refine zqP ?_; refine zqC ?_
                  refine zqD fun K hK => ?_; go_wp2_with (first | (go_at_call 11; (with_reducible refine (probing_any _ _).mono ?_); rintro e w7 ⟨rfl, hb7⟩; have F7 := Lib.hid ((F6.out.later (Below.refl _ _).drew).later hb7); have A7 := Lib.hid (A6.out.drew.below hb7 A6.out.drew.lt)) | (go_at_call 12; (with_reducible refine (PU.out _ F7.out).mono ?_); rintro e w8 ⟨rfl, hF8, hc8⟩; have F8 := Lib.hid hF8; have A8 := Lib.hid (A7.out.chg hc8 (fun e => e.2 HKA.out)); have a8 := cells3 A8.out; have a80 := a8.1; have a81 := a8.2.1; have a82 := a8.2.2; have za8 := A8.out.lt; have v8 := hF8.tv.cells hqk; have v80 := v8.1; have v81 := v8.2; have zV8 := hF8.tv.b.lt; have zU8 := hF8.tv.u.lt; have vf8 := hF8.tv.b.frozen q; have uf8 := hF8.tv.u.frozen q; clear a8 v8 hF8 a60 a61 a62)); refine hkA hK (h := ?_); clear hK K
                  try refine zqP ?_
                  refine zqE fun K hK => ?_; go_wp2_with (first | (go_at_call 11; (with_reducible refine (probing_any _ _).mono ?_); rintro e w7 ⟨rfl, hb7⟩; have F7 := Lib.hid ((F6.out.later (Below.refl _ _).drew).later hb7); have A7 := Lib.hid (A6.out.drew.below hb7 A6.out.drew.lt)) | (go_at_call 12; (with_reducible refine (PU.out _ F7.out).mono ?_); rintro e w8 ⟨rfl, hF8, hc8⟩; have F8 := Lib.hid hF8; have A8 := Lib.hid (A7.out.chg hc8 (fun e => e.2 HKA.out)); have a8 := cells3 A8.out; have a80 := a8.1; have a81 := a8.2.1; have a82 := a8.2.2; have za8 := A8.out.lt; have v8 := hF8.tv.cells hqk; have v80 := v8.1; have v81 := v8.2; have zV8 := hF8.tv.b.lt; have zU8 := hF8.tv.u.lt; have vf8 := hF8.tv.b.frozen q; have uf8 := hF8.tv.u.frozen q; clear a8 v8 hF8 a60 a61 a62)); refine hK.out _ _ ?_; clear hK K
                  try refine zqP ?_; refine zqC ?_; refine zqC ?_; refine zqC ?_; refine zqC ?_; refine zqC ?_
                  refine seq_nil ?_
                  rw [ht] at v80
                  clear ht
                  go_wp2
                  refine wp_region_seq (fun b => b = VB ∨ b = VU) #[⟨0, 0, 2^146, 2048, 0⟩, ⟨0, 0, 2^147, 131072, 0⟩, ⟨0, 0, 2^148, 4096, 0⟩, ⟨0, 0, 2^149, 131072, 0⟩, ⟨0, 0, 2^150, 65536, 0⟩, ⟨16, 16, 2^151, 2^150, 1⟩, ⟨32, 48, 2^152, 2^151, 0⟩, ⟨3, 3, 2^153, (2^146+2^147), 0⟩, ⟨131, 131, 0, 2^153, 2⟩, ⟨511, 511, 2^154, (2^148+2^149), 0⟩, ⟨1023, 1023, 0, (2^152+2^154), 3⟩] 32 [(0, 0), (1, 0), (2, 0), (3, 0), (4, 0), (5, 1), (6, 0), (7, 0), (8, 2), (9, 0), (10, 3)] (by kernel_rfl) (by kernel_rfl) (by kernel_rfl) (by kernel_rfl) (by kernel_rfl) (by kernel_rfl) (fun c a d v w h => by cases d <;> exact h) ?_
                  refine zqC ?_; refine zqC ?_; refine zqC ?_; refine zqC ?_; refine zqC ?_
                  refine zq1 Tryz.underlying3 ?_
                  try refine zqP ?_; refine zqC ?_; refine zqC ?_
                  refine zqD fun K hK => ?_; go_wp2_with (fail); refine hkA hK (h := ?_); clear hK K
                  try refine zqP ?_; refine zqC ?_
                  refine zqE fun K hK => ?_; go_wp2_with (fail); refine hK.out _ _ ?_; clear hK K
                  try refine zqP ?_
                  refine seq_nil ?_
                  go_wp2
                  go_meet
                  exact ⟨_, _, ((F8.out.setB hqk true).setU hqk vv).later (Below.refl _ _).drew⟩
          case rest =>
            obtain ⟨th', va', hF⟩ := hcut
            as_aux_lemma =>
              obtain ⟨k0, b0, hW, hk⟩ := hF.go g hg5 (by omega)
              have WA := Lib.hid hW
              have HK0 := Lib.hid hk
              clear hF hW hk hkey HKA a60 a61 a62 za6 gq6 zb6 A6 F6
              go_step
              go_step
              go_cut [] (fun wx => F2 wx N Nb M B G cap VB VU n1 KA th' va' H E w0 i 0)
              case first =>
                rcases HK0.out with ⟨h0, hf⟩ | ⟨h0, hs⟩
                · subst h0
                  have FF := Lib.hid hf
                  clear hf
                  go_wp2_with (go_at_call 13; (with_reducible refine WA.out.mono ?_); rintro e w9 ⟨rfl, hb9⟩; have F9 := Lib.hid (FF.out _ hb9))
                  go_meet
                  exact F9.out
                · have ST := Lib.hid hs
                  have h0B : (k0 == 0) = false := by simpa using h0
                  clear hs
                  go_wp2_with (first | (go_at_call 13; (with_reducible refine WA.out.mono ?_); rintro e w9 ⟨rfl, hb9⟩; have B9 := Lib.hid hb9) | (go_at_call 14; (with_reducible refine (ST.out _ B9.out).mono ?_); rintro e w10 ⟨rfl, hF10⟩; have F10 := Lib.hid hF10))
                  go_meet
                  exact F10.out
              case rest =>
                have F2a := Lib.hid hcut
                clear hcut WA HK0
                go_wp2
                go_loopg [169] 8 (fun gk v169 wr => ∃ k : Nat, k + gk = 8 ∧ v169 = .int .i64 (k : Int) ∧ F2 wr N Nb M B G cap VB VU n1 KA th' va' H E w0 i k)
                case atStart => exact ⟨0, by omega, rfl, F2a.out⟩
                case round =>
                  clear F2a
                  obtain ⟨k, hk, rfl, hF⟩ := hrel
                  obtain ⟨gb, hgb⟩ : ∃ gb, gb = gk := ⟨_, rfl⟩
                  subst hgb
                  by_cases hk8 : k < 8
                  · have hkI : (k : Int) < 8 := by omega
                    have FK := Lib.hid (hF.step HHb.out)
                    clear hF
                    go_wp2_with (go_at_call 15; (with_reducible refine FK.out.mono ?_); rintro e w9 ⟨b, rfl, hF9⟩; have F9 := Lib.hid hF9)
                    go_roundg (gb - 1)
                    case measure => omega
                    case rel => exact ⟨k + 1, by omega, by go_num, F9.out⟩
                  · obtain rfl : k = 8 := by omega
                    obtain ⟨b, hD, hE⟩ := hF.fin
                    have DN := Lib.hid hD
                    have HE := Lib.hid hE
                    clear hF hD hE
                    as_aux_lemma =>
                      go_upto_if 176 with (go_at_call 16; (with_reducible refine DN.out.mono ?_); rintro e w9 ⟨rfl, hb9⟩; have B9 := Lib.hid hb9)
                      go_cut [] (fun wx => ∃ N Nb G cap K, F0 wx N Nb M B G cap VB VU n1 K th' va' H E w0)
                      case first =>
                        rcases HE.out with ⟨rfl, hf⟩ | ⟨rfl, h1 | h2⟩
                        · have F9 := Lib.hid (hf _ B9.out)
                          clear hf
                          go_wp2
                          go_meet
                          exact ⟨_, _, _, _, _, F9.out⟩
                        · have EN := Lib.hid (h1 _ B9.out)
                          clear h1
                          go_wp2_with (go_at_call 17; (with_reducible refine EN.out.mono ?_); rintro e w10 ⟨rfl, hF10⟩; have F10 := Lib.hid hF10)
                          go_meet
                          exact ⟨_, _, _, _, _, F10.out⟩
                        · have EN := Lib.hid (h2 _ B9.out)
                          obtain ⟨iN, hiN, hzN0, hzN1, hzN2⟩ := info_parts infoPN
                          clear h2
                          go_wp2_with (first
                            | (go_at_call 17; (with_reducible refine EN.out.mono ?_); rintro e w10 ⟨N2, rfl, hF10⟩; have F10 := Lib.hid hF10; have o10 := hF10.own; have b10 := o10.1.cell 0; have zb10 := o10.1.lt; have n10 := o10.2.1; have s10 := o10.2.2.1; have R10 := Lib.hid o10.2.2.2; clear o10 hF10)
                            | (at_builtin; (refine wpList_append_own2' rfl _ _ 31 rfl w0.heap.size 25 iN (.pointer none) 1 8 Tryz.underlying31 hiN hzN0 hzN1 hzN2 rfl (by decide) _ _ _ rfl (ownsRow_later R10.out ((Below.refl _ _).alloc (Nat.le_refl _) _)) ⟨w10.heap.size, 0, none⟩ 1 1 [.pointer (some ⟨N2, 0, none⟩)] rfl rfl (cell1_new w10 _ _) (by simp [Value.oneCell']) (by unfold maxLen; omega) (by omega) (by simp; omega) (by decide) ?_; intro v11 w11 hown hgrow hfr; obtain ⟨gg, gcap, rfl⟩ := ownsRow_succ hown; have P11 := Lib.hid (F10.out.app _ hown hgrow hfr); have b11 := P11.out.1.cell 0; have zb11 := P11.out.1.lt; have bf11 := P11.out.1.frozen 0; clear hown hgrow hfr)))
                          go_meet
                          obtain ⟨-, G', cap', K', h⟩ := P11.out
                          exact ⟨_, _, _, _, _, h⟩
                      case rest =>
                        obtain ⟨N', Nb', G', cap', K', hF⟩ := hcut
                        as_aux_lemma =>
                          have FN := Lib.hid hF
                          clear hF
                          go_wp2
                          go_loopg [192] n1 (fun gk v192 wr => ∃ k : Nat, k + gk = n1 ∧ v192 = .int .i64 (k : Int) ∧ F0 wr N' Nb' M B G' cap' VB VU n1 K' th' va' H E w0)
                          case atStart => exact ⟨0, by omega, rfl, FN.out⟩
                          case round =>
                            clear FN
                            obtain ⟨k, hk, rfl, hF⟩ := hrel
                            obtain ⟨gc, hgc⟩ : ∃ gc, gc = gk := ⟨_, rfl⟩
                            subst hgc
                            by_cases hkn : k < n1
                            · have hkI : (k : Int) < (n1 : Int) := by omega
                              have hGk := HG.out k hkn
                              have hHk := HH.out k hkn
                              have gk' := HC.out wr hF.bel k hkn
                              obtain ⟨hv, hhv⟩ : ∃ hv, hv = G1 k := ⟨_, rfl⟩
                              rw [← hhv] at hGk hHk gk'
                              have HHk := Lib.hid hHk
                              have OF := Lib.hid (hF.of hv hGk)
                              have hws : IntKind.u64.wrap (k : Int) = (k : Int) := by rw [IntKind.wrap_u64]; omega
                              have zb := Nat.lt_of_lt_of_le hb1z hF.bel.size
                              clear hhv hHk hF
                              go_upto_region 49 with (first
                                | (go_at_call 7; (with_reducible refine OF.out.mono ?_); rintro e w12 ⟨i2, rfl, hF12, hb12⟩; obtain ⟨ea, eb, ec, hev, hFI⟩ := hF12.find HHb.out hkn HHk.out; have FI := Lib.hid hFI; have EV := Lib.hid hev; clear hF12 hb12 hFI hev)
                                | (go_at_call 18; (with_reducible refine FI.out.mono ?_); rintro e w13 ⟨rfl, hF13⟩; have F13 := Lib.hid hF13; clear hF13))
                              refine wp_at (fun w14 hw14 => ?_)
                              obtain ⟨P9, hP9⟩ : ∃ P9, P9 = w13.heap.size := ⟨_, rfl⟩
                              have P9b : Blk w14 P9 46 #[.int .u64 ea, .int .u64 eb, .int .u64 ec] := by rw [hw14, hP9]; exact Blk.new _ _ _
                              obtain ⟨p0, p1, p2⟩ := cells3 P9b
                              have zP := P9b.lt
                              have F14 := Lib.hid (F13.out.later (show Below w13.heap.size w13 w14 by rw [hw14]; go_grown))
                              obtain ⟨y0, y1⟩ := F14.out.tv.cells hkn
                              have zV0 := F14.out.tv.b.lt
                              have zV1 := F14.out.tv.u.lt
                              rw [← hP9]
                              clear hw14 hP9 P9b F13 FI OF gk' zb
                              cases ht : th' k with
                              | true =>
                                have hv2 := EV.out ht
                                rw [ht] at y0
                                rw [← hv2] at y1
                                clear hv2 ht
                                refine wp_region_seq (fun _ => False) #[⟨0, 0, 2^211, 2147483648, 0⟩, ⟨0, 0, 2^212, 2048, 0⟩, ⟨0, 0, 2^213, 134217728, 0⟩, ⟨6, 6, 2^214, (2^212+2^213), 0⟩, ⟨8, 14, 2^215, 2^214, 1⟩, ⟨17, 31, 2^216, (2^211+2^215), 0⟩, ⟨32, 63, 2^217, 2^216, 0⟩, ⟨64, 127, 2^218, (2^31+2^217), 0⟩, ⟨192, 255, 2^219, (2^217+2^218), 0⟩, ⟨256, 511, 2^220, (2^30+2^219), 0⟩, ⟨768, 1023, 2^221, (2^219+2^220), 1⟩, ⟨256, 511, 2^222, (2^12+2^219), 0⟩, ⟨256, 511, 2^223, (2^27+2^219), 0⟩, ⟨6400, 6655, 2^224, (2^219+2^222+2^223), 0⟩, ⟨8448, 14847, 2^225, (2^219+2^224), 1⟩, ⟨17664, 32767, 2^226, (2^219+2^221+2^225), 0⟩, ⟨33088, 65535, 2^227, (2^217+2^219+2^226), 0⟩, ⟨65600, 131071, 2^228, (2^217+2^227), 0⟩] 17424 [(0, 0), (1, 0), (2, 0), (3, 0), (4, 1), (5, 0), (6, 0), (7, 0), (8, 0), (9, 0), (10, 1), (11, 0), (12, 0), (13, 0), (14, 1), (15, 0), (16, 0), (17, 0)] (by kernel_rfl) (by decide +kernel) (by kernel_rfl) (by kernel_rfl) (by decide +kernel) (by decide +kernel) (fun c a d v w h => by cases d <;> exact h) ?_
                                refine zqC ?_; refine zqC ?_; refine zqC ?_; refine zqC ?_
                                refine zq1 Tryz.underlying4 ?_
                                try refine zqP ?_; refine zqC ?_; refine zqC ?_
                                first
                                  | (refine zqK ?_)
                                  | (refine zqA ?_)
                                try refine zqP ?_
                                first
                                  | (refine zqK ?_)
                                  | (refine zqA ?_)
                                try refine zqP ?_
                                first
                                  | (refine zqK ?_)
                                  | (refine zqA ?_)
                                try refine zqP ?_
                                first
                                  | (refine zqK ?_)
                                  | (refine zq1 Tryz.underlying38 ?_)
                                try refine zqP ?_
                                first
                                  | (refine zqK ?_)
                                  | (refine zqA ?_)
                                try refine zqP ?_
                                first
                                  | (refine zqK ?_)
                                  | (refine zqA ?_)
                                try refine zqP ?_
                                first
                                  | (refine zqK ?_)
                                  | (refine zqA ?_)
                                try refine zqP ?_
                                first
                                  | (refine zqK ?_)
                                  | (refine zq1 Tryz.underlying38 ?_)
                                try refine zqP ?_
                                first
                                  | (refine zqK ?_)
                                  | (refine zqA ?_)
                                try refine zqP ?_
                                first
                                  | (refine zqK ?_)
                                  | (refine zqA ?_)
                                try refine zqP ?_; refine zqC ?_
                                refine seq_nil ?_
                                go_wp2
                                go_roundg (gc - 1)
                                case measure => omega
                                case rel => exact ⟨k + 1, by omega, by go_num, F14.out.later (Below.refl _ _).drew⟩
                              | false =>
                                rw [ht] at y0
                                clear ht
                                refine wp_region_seq (fun _ => False) #[⟨0, 0, 2^211, 2147483648, 0⟩, ⟨0, 0, 2^212, 2048, 0⟩, ⟨0, 0, 2^213, 134217728, 0⟩, ⟨6, 6, 2^214, (2^212+2^213), 0⟩, ⟨8, 14, 2^215, 2^214, 1⟩, ⟨17, 31, 2^216, (2^211+2^215), 0⟩, ⟨32, 63, 2^217, 2^216, 0⟩, ⟨64, 127, 2^218, (2^31+2^217), 0⟩, ⟨192, 255, 2^219, (2^217+2^218), 0⟩, ⟨256, 511, 2^220, (2^30+2^219), 0⟩, ⟨768, 1023, 2^221, (2^219+2^220), 1⟩, ⟨256, 511, 2^222, (2^12+2^219), 0⟩, ⟨256, 511, 2^223, (2^27+2^219), 0⟩, ⟨6400, 6655, 2^224, (2^219+2^222+2^223), 0⟩, ⟨8448, 14847, 2^225, (2^219+2^224), 1⟩, ⟨17664, 32767, 2^226, (2^219+2^221+2^225), 0⟩, ⟨33088, 65535, 2^227, (2^217+2^219+2^226), 0⟩, ⟨65600, 131071, 2^228, (2^217+2^227), 0⟩] 17424 [(0, 0), (1, 0), (2, 0), (3, 0), (4, 1), (5, 0), (6, 0), (7, 0), (8, 0), (9, 0), (10, 1), (11, 0), (12, 0), (13, 0), (14, 1), (15, 0), (16, 0), (17, 0)] (by kernel_rfl) (by decide +kernel) (by kernel_rfl) (by kernel_rfl) (by decide +kernel) (by decide +kernel) (fun c a d v w h => by cases d <;> exact h) ?_
                                refine zqC ?_; refine zqC ?_; refine zqC ?_; refine zqC ?_
                                refine zq1 Tryz.underlying4 ?_
                                try refine zqP ?_; refine zqC ?_; refine zqC ?_
                                first
                                  | (refine zqK ?_)
                                  | (refine zqA ?_)
                                try refine zqP ?_
                                first
                                  | (refine zqK ?_)
                                  | (refine zqA ?_)
                                try refine zqP ?_
                                first
                                  | (refine zqK ?_)
                                  | (refine zqA ?_)
                                try refine zqP ?_
                                first
                                  | (refine zqK ?_)
                                  | (refine zq1 Tryz.underlying38 ?_)
                                try refine zqP ?_
                                first
                                  | (refine zqK ?_)
                                  | (refine zqA ?_)
                                try refine zqP ?_
                                first
                                  | (refine zqK ?_)
                                  | (refine zqA ?_)
                                try refine zqP ?_
                                first
                                  | (refine zqK ?_)
                                  | (refine zqA ?_)
                                try refine zqP ?_
                                first
                                  | (refine zqK ?_)
                                  | (refine zq1 Tryz.underlying38 ?_)
                                try refine zqP ?_
                                first
                                  | (refine zqK ?_)
                                  | (refine zqA ?_)
                                try refine zqP ?_
                                first
                                  | (refine zqK ?_)
                                  | (refine zqA ?_)
                                try refine zqP ?_; refine zqC ?_
                                refine seq_nil ?_
                                go_wp2
                                go_roundg (gc - 1)
                                case measure => omega
                                case rel => exact ⟨k + 1, by omega, by go_num, F14.out.later (Below.refl _ _).drew⟩
                            · go_wp2
                              go_roundg (ga - 1)
                              case measure => omega
                              case rel => exact ⟨x + 1, _, _, _, _, _, _, _, by omega, by go_num, hF⟩
        · obtain ⟨hB, hN⟩ := FA.out.blk
          have r0 := hB.cell 0
          have zB := hB.lt
          have hNI : (N : Int) ≤ 32 := by omega
          clear hB
          go_wp2
          go_ret
          exact ⟨rfl, BD.out⟩
end Go.Proofs.YtolhmibejhldkaaGreatDoor

namespace Go.Proofs.YtolhmibejhldkaaGreatDoor
open Go.RowKit Go.Proofs
theorem nodeFunction_any (glob : Int) (v1 v2 : Value) (n1 n2 : Nat) (f1 f2 : Nat → Nat → Int) (E : Nat → Addr) (w0 : World) (he : EC w0 E [1, 2, 4, 5, 14, 16]) (hT : Tab64 w0) (h1 : RowsAt w0 v1 n1 1 .u64 f1) (h2 : RowsAt w0 v2 n2 3 .i64 f2) :
    Calls Tryz.prog 3 #[v1, v2, .int .i64 glob] w0 fun e w' => e = .returned (.bool true) ∧ Below w0.heap.size w0 w' := by
  obtain ⟨a2, c2, rfl, hx2⟩ := h2.cellAt (by decide)
  by_cases hn : n1 < 1 ∨ 100 < n1 ∨ 250 < n2
  · obtain ⟨a1, c1, rfl, -⟩ := h1.cellAt (by decide)
    exact nodeFunction_no glob a1 a2 c1 c2 n1 n2 E w0 he hT hn
  · obtain ⟨b, off, cap, G, rfl, hz, hG, hc⟩ := hashes_of h1 (by omega)
    exact nodeFunction_ok glob b off cap a2 c2 n1 n2 G f2 E w0 he hT (by omega) (by omega) hG hc hz hx2
end Go.Proofs.YtolhmibejhldkaaGreatDoor
