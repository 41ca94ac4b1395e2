/- Texts joined: Ref09P Ref08c RefRight ProbeAt Ref09 Ref09w Ref09f. No condition but those that stand within. -/
import Derived.Test.YtcnkgiapidlbkaaGreatDoorProg
import Derived.Handy
import Derived.Lib.Hide
import Derived.WalkSmall
import Derived.Deep.DeepCutAuto
import Derived.Deep.CutBlock
import Derived.Test.YtcnkgiapidlbkaaGreatDoorPkSwar
import Derived.Test.YtcnkgiapidlbkaaGreatDoorPkMeter
import Derived.Test.YtcnkgiapidlbkaaGreatDoorPkErrs
import Derived.Test.YtcnkgiapidlbkaaGreatDoorPkGroup
import Derived.Test.YtcnkgiapidlbkaaGreatDoorPkTab
import Derived.Test.YtcnkgiapidlbkaaGreatDoorPkTab2
import Derived.Test.YtcnkgiapidlbkaaGreatDoorPkTab3
import Derived.Test.YtcnkgiapidlbkaaGreatDoorPkTab4
import Derived.Test.YtcnkgiapidlbkaaGreatDoorPkTake
import Derived.Test.YtcnkgiapidlbkaaGreatDoorPkTabM
import Derived.Test.YtcnkgiapidlbkaaGreatDoorPkBuild
import Derived.Test.YtcnkgiapidlbkaaGreatDoorPkEvac
import Derived.Test.YtcnkgiapidlbkaaGreatDoorPkSound
set_option linter.unusedVariables false
set_option linter.unusedSimpArgs false
namespace Go.Proofs.YtcnkgiapidlbkaaGreatDoor
open Go.RowKit Go.Proofs
def TabS.frG (T : TabS) (h : Nat) (o : Option Nat) : Int := match o with | none => -1 | some j => (T.wk h j : Int)
def TabS.frK (T : TabS) (h : Nat) (o : Option Nat) : Int := match o with | none => -1 | some j => freeZ (T.M (T.wk h j))
def TabS.fJ (T : TabS) (h i : Nat) : Option Nat := firstJ (fun j => freeZ (T.M (T.wk h j))) i
def TabS.atG (T : TabS) (key : Int) (h : Nat) : Int := if T.has key h = true then (T.lastG key h : Int) else -1
def TabS.atK (T : TabS) (key : Int) (h : Nat) : Int := if T.has key h = true then T.atZ key h else -1
theorem frK_is (T : TabS) (key : Int) (h : Nat) : T.frZ key h = T.frK h (T.freeJ key h) := rfl
theorem fJ_is (T : TabS) (key : Int) (h : Nat) : T.freeJ key h = T.fJ h (T.looks key h) := rfl
theorem fJ_step (T : TabS) (h i : Nat) : T.fJ h (i + 1) = match T.fJ h i with | some j => some j | none => if 0 ≤ freeZ (T.M (T.wk h i)) then some i else none := rfl
theorem fJ_some {T : TabS} {h i j : Nat} (e : T.fJ h i = some j) : T.fJ h (i + 1) = some j := by rw [fJ_step, e]
theorem fJ_new {T : TabS} {h i : Nat} (e : T.fJ h i = none) (hz : 0 ≤ freeZ (T.M (T.wk h i))) : T.fJ h (i + 1) = some i := by rw [fJ_step, e]; simp only; rw [if_pos hz]
theorem fJ_no {T : TabS} {h i : Nat} (hz : freeZ (T.M (T.wk h i)) < 0) : T.fJ h (i + 1) = T.fJ h i := by
  rw [fJ_step]
  cases e : T.fJ h i with
  | some j => rfl
  | none => simp only; rw [if_neg (by omega)]
theorem frG_none (T : TabS) (h : Nat) : T.frG h none = -1 ∧ T.frK h none = -1 := ⟨rfl, rfl⟩
theorem frG_some (T : TabS) (h j : Nat) : T.frG h (some j) = (T.wk h j : Int) ∧ T.frK h (some j) = freeZ (T.M (T.wk h j)) := ⟨rfl, rfl⟩
theorem looks_stop {T : TabS} {key : Int} {h i : Nat} (hi : i < T.n) (hm : ∀ j, j < i → T.stop key h (T.wk h j) = false) (hs : T.stop key h (T.wk h i) = true) : T.looks key h = i + 1 :=
  lookN_is (f := fun j => T.stop key h (T.wk h j)) (by omega) (by omega) (fun j hj => hm j (by omega)) (fun _ => by rw [Nat.add_sub_cancel]; exact hs)
theorem looks_end {T : TabS} {key : Int} {h : Nat} (hn : 1 ≤ T.n) (hm : ∀ j, j < T.n → T.stop key h (T.wk h j) = false) : T.looks key h = T.n :=
  lookN_is (f := fun j => T.stop key h (T.wk h j)) hn (Nat.le_refl _) (fun j hj => hm j (by omega)) (fun hlt => absurd hlt (Nat.lt_irrefl _))
theorem where_hit {T : TabS} {key : Int} {h i : Nat} {k : Int} (hi : i < T.n) (hm : ∀ j, j < i → T.stop key h (T.wk h j) = false) (hk : T.hit key h (T.wk h i) = k) (h0 : 0 ≤ k) :
    T.looks key h = i + 1 ∧ T.atG key h = (T.wk h i : Int) ∧ T.atK key h = k ∧ T.freeJ key h = T.fJ h (i + 1) := by
  have hl := looks_stop hi hm (by unfold TabS.stop; rw [hk]; simp [h0])
  have hlast : T.lastG key h = T.wk h i := by unfold TabS.lastG; rw [hl, Nat.add_sub_cancel]
  have haz : T.atZ key h = k := by unfold TabS.atZ; rw [hlast, hk]
  have hhas : T.has key h = true := by unfold TabS.has; rw [haz]; simpa using h0
  refine ⟨hl, ?_, ?_, by rw [fJ_is, hl]⟩
  · unfold TabS.atG; rw [if_pos hhas, hlast]
  · unfold TabS.atK; rw [if_pos hhas, haz]
theorem where_miss {T : TabS} {key : Int} {h i : Nat} (hi : i < T.n) (hm : ∀ j, j < i → T.stop key h (T.wk h j) = false) (hk : T.hit key h (T.wk h i) < 0) (ho : openB (T.M (T.wk h i)) = true) :
    T.looks key h = i + 1 ∧ T.atG key h = -1 ∧ T.atK key h = -1 ∧ T.freeJ key h = T.fJ h (i + 1) := by
  have hl := looks_stop hi hm (by unfold TabS.stop; rw [ho]; simp)
  have hlast : T.lastG key h = T.wk h i := by unfold TabS.lastG; rw [hl, Nat.add_sub_cancel]
  have hhas : T.has key h = false := by unfold TabS.has TabS.atZ; rw [hlast]; simp; omega
  refine ⟨hl, ?_, ?_, by rw [fJ_is, hl]⟩
  · unfold TabS.atG; rw [hhas]; rfl
  · unfold TabS.atK; rw [hhas]; rfl
theorem stop_no {T : TabS} {key : Int} {h g : Nat} (hk : T.hit key h g < 0) (ho : openB (T.M g) = false) : T.stop key h g = false := by
  unfold TabS.stop; rw [ho]; simp; omega
theorem where_end {T : TabS} {key : Int} {h : Nat} (hn : 1 ≤ T.n) (hm : ∀ j, j < T.n → T.stop key h (T.wk h j) = false) :
    T.looks key h = T.n ∧ T.atG key h = -1 ∧ T.atK key h = -1 ∧ T.freeJ key h = T.fJ h T.n := by
  have hl := looks_end hn hm
  have hs := hm (T.n - 1) (by omega)
  have hhas : T.has key h = false := by
    unfold TabS.has TabS.atZ TabS.lastG; rw [hl]
    unfold TabS.stop at hs
    simp only [Bool.or_eq_false_iff] at hs
    exact hs.1
  refine ⟨hl, ?_, ?_, by rw [fJ_is, hl]⟩
  · unfold TabS.atG; rw [hhas]; rfl
  · unfold TabS.atK; rw [hhas]; rfl
end Go.Proofs.YtcnkgiapidlbkaaGreatDoor

namespace Go.Proofs.YtcnkgiapidlbkaaGreatDoor
open Go.RowKit Go.Proofs
end Go.Proofs.YtcnkgiapidlbkaaGreatDoor

namespace Go.Proofs.YtcnkgiapidlbkaaGreatDoor
open Go.RowKit Go.Proofs
set_option maxHeartbeats 1600000 in
theorem refRight_any (g : Int) (w : World) :
    Calls Tryz.prog 44 #[.int .i64 g] w fun e w' => e = .returned (.bool (rightB g)) ∧ w = w' := by
  have HR := Lib.hid (rightB_iff g)
  go_enter Tryz.func44, Tryz.ntmps44
  go_wp2
  go_loop [3] (fun v => (v = .int .i64 1) ∨ (v = .int .i64 2 ∧ g ≠ 1) ∨ (v = .int .i64 4 ∧ g ≠ 1 ∧ g ≠ 2) ∨ (v = .int .i64 8 ∧ g ≠ 1 ∧ g ≠ 2 ∧ g ≠ 4) ∨ (v = .int .i64 16 ∧ g ≠ 1 ∧ g ≠ 2 ∧ g ≠ 4 ∧ g ≠ 8) ∨ (v = .int .i64 32 ∧ g ≠ 1 ∧ g ≠ 2 ∧ g ≠ 4 ∧ g ≠ 8 ∧ g ≠ 16) ∨ (v = .int .i64 64 ∧ g ≠ 1 ∧ g ≠ 2 ∧ g ≠ 4 ∧ g ≠ 8 ∧ g ≠ 16 ∧ g ≠ 32) ∨ (v = .int .i64 128 ∧ g ≠ 1 ∧ g ≠ 2 ∧ g ≠ 4 ∧ g ≠ 8 ∧ g ≠ 16 ∧ g ≠ 32 ∧ g ≠ 64)) (fun v => 128 - (intOf v).toNat)
  case atStart => exact .inl rfl
  case round =>
    rcases hrel with rfl | ⟨rfl, h1⟩ | ⟨rfl, h1, h2⟩ | ⟨rfl, h1, h2, h4⟩ | ⟨rfl, h1, h2, h4, h8⟩ | ⟨rfl, h1, h2, h4, h8, h16⟩ | ⟨rfl, h1, h2, h4, h8, h16, h32⟩ | ⟨rfl, h1, h2, h4, h8, h16, h32, h64⟩
    · by_cases h : g = 1
      · have hb : rightB g = true := HR.out.2 (by omega)
        replace hb := Lib.hid hb
        subst h
        go_wp2
        go_ret
        exact ⟨by rw [hb.out]; rfl, rfl⟩
      · go_wp2
        go_round
        case rel => first | (refine .inr ?_; simp; omega) | (simp; omega)
        case measure => simp [intOf]
    · by_cases h : g = 2
      · have hb : rightB g = true := HR.out.2 (by omega)
        replace hb := Lib.hid hb
        subst h
        go_wp2
        go_ret
        exact ⟨by rw [hb.out]; rfl, rfl⟩
      · go_wp2
        go_round
        case rel => first | (refine .inr ?_; simp; omega) | (simp; omega)
        case measure => simp [intOf]
    · by_cases h : g = 4
      · have hb : rightB g = true := HR.out.2 (by omega)
        replace hb := Lib.hid hb
        subst h
        go_wp2
        go_ret
        exact ⟨by rw [hb.out]; rfl, rfl⟩
      · go_wp2
        go_round
        case rel => first | (refine .inr ?_; simp; omega) | (simp; omega)
        case measure => simp [intOf]
    · by_cases h : g = 8
      · have hb : rightB g = true := HR.out.2 (by omega)
        replace hb := Lib.hid hb
        subst h
        go_wp2
        go_ret
        exact ⟨by rw [hb.out]; rfl, rfl⟩
      · go_wp2
        go_round
        case rel => first | (refine .inr ?_; simp; omega) | (simp; omega)
        case measure => simp [intOf]
    · by_cases h : g = 16
      · have hb : rightB g = true := HR.out.2 (by omega)
        replace hb := Lib.hid hb
        subst h
        go_wp2
        go_ret
        exact ⟨by rw [hb.out]; rfl, rfl⟩
      · go_wp2
        go_round
        case rel => first | (refine .inr ?_; simp; omega) | (simp; omega)
        case measure => simp [intOf]
    · by_cases h : g = 32
      · have hb : rightB g = true := HR.out.2 (by omega)
        replace hb := Lib.hid hb
        subst h
        go_wp2
        go_ret
        exact ⟨by rw [hb.out]; rfl, rfl⟩
      · go_wp2
        go_round
        case rel => first | (refine .inr ?_; simp; omega) | (simp; omega)
        case measure => simp [intOf]
    · by_cases h : g = 64
      · have hb : rightB g = true := HR.out.2 (by omega)
        replace hb := Lib.hid hb
        subst h
        go_wp2
        go_ret
        exact ⟨by rw [hb.out]; rfl, rfl⟩
      · go_wp2
        go_round
        case rel => first | (refine .inr ?_; simp; omega) | (simp; omega)
        case measure => simp [intOf]
    · have hb : rightB g = false := by rw [Bool.eq_false_iff, ne_eq, HR.out]; omega
      replace hb := Lib.hid hb
      go_wp2
      go_ret
      exact ⟨by rw [hb.out]; rfl, rfl⟩
end Go.Proofs.YtcnkgiapidlbkaaGreatDoor

namespace Go.Proofs.YtcnkgiapidlbkaaGreatDoor
open Go.RowKit Go.Proofs
def triT : Nat → Nat
  | 0 => 0
  | k + 1 => triT k + k
theorem triT_two (k : Nat) : 2 * triT k = k * (k - 1) := by
  induction k with
  | zero => rfl
  | succ k ih =>
    have h : triT (k + 1) = triT k + k := rfl
    rw [h, Nat.mul_add, ih]
    cases k with
    | zero => rfl
    | succ j => simp only [Nat.add_sub_cancel, Nat.add_mul, Nat.mul_add]; omega
theorem triT_half (i : Nat) : triT (i + 1) = i * (i + 1) / 2 := by
  have h := triT_two (i + 1)
  rw [Nat.add_sub_cancel, Nat.mul_comm (i + 1) i] at h
  omega
theorem triT_le (k : Nat) (h : k ≤ 65) : triT k ≤ 65 * k := by
  induction k with
  | zero => exact Nat.le_refl _
  | succ k ih => have := ih (by omega); show triT k + k ≤ 65 * (k + 1); omega
set_option maxHeartbeats 1000000 in
theorem refAt_ok (h g i : Nat) (hr : rightB (g : Int) = true) (hh : h < 18446744073709551616) (hi : i < g) (w : World) :
    Calls Tryz.prog 163 #[.int .u64 (h : Int), .int .i64 (g : Int), .int .i64 (i : Int)] w fun e w' => e = .returned (.tuple #[.int .i64 ((walkAt h g i : Nat) : Int), .int .i64 0]) ∧ w = w' := by
  have hgb := right_bd hr
  have hX : h % g < g := Nat.mod_lt _ (by omega)
  have hval : (h % g + triT (i + 1)) % g = walkAt h g i := by unfold walkAt; rw [triT_half, Nat.mod_add_mod]
  have hmod : (h : Int) % (g : Int) = ((h % g : Nat) : Int) := by omega
  generalize walkAt h g i = y at *
  generalize h % g = X at *
  have HV := Lib.hid hval
  have RT := fun w => refRight_any (g : Int) w
  rw [hr] at RT
  replace RT := Lib.hid RT
  clear hr hval
  have T0 : (X : Int) = ((X + triT 0 : Nat) : Int) := by simp [triT]
  replace T0 := Lib.hid T0
  go_enter Tryz.func163, Tryz.ntmps163
  go_wp2_with (first | (go_at_call 44; refine (RT.out _).mono ?_; rintro e w' ⟨rfl, rfl⟩))
  go_loop [8, 9] (fun v8 v9 => ∃ k : Nat, k ≤ i + 1 ∧ v9 = .int .i64 (k : Int) ∧ v8 = .int .u64 ((X + triT k : Nat) : Int)) (fun _ v9 => i + 1 - (intOf v9).toNat)
  case atStart => exact ⟨0, by omega, rfl, by rw [← T0.out, hmod]⟩
  case round =>
    obtain ⟨k, hk, rfl, rfl⟩ := hrel
    by_cases hlt : k < i + 1
    · have hle : (k : Int) ≤ (i : Int) := by omega
      have ht := triT_le k (by omega)
      have hs : ((X + triT k : Nat) : Int) + (k : Int) = ((X + triT (k + 1) : Nat) : Int) := by show _ = ((X + (triT k + k) : Nat) : Int); omega
      have HS := Lib.hid hs
      clear hs
      have hS : X + triT k ≤ 65 * 65 + 64 := by omega
      generalize X + triT k = S at *
      go_wp2
      go_round
      case rel => exact ⟨k + 1, by omega, by go_num, by rw [← HS.out]⟩
      case measure => simp [intOf]; omega
    · obtain rfl : k = i + 1 := by omega
      have ht := triT_le (i + 1) (by omega)
      have hv : ((X + triT (i + 1) : Nat) : Int) % (g : Int) = (y : Int) := by rw [← HV.out]; omega
      have hy : y < g := by rw [← HV.out]; exact Nat.mod_lt _ (by omega)
      generalize X + triT (i + 1) = S at *
      go_wp2
      go_ret2
      exact ⟨rfl, rfl⟩
set_option maxRecDepth 100000 in
set_option maxHeartbeats 2000000 in
theorem refOrder_any (h : Nat) (n : Int) (hh : h < 18446744073709551616) (w : World) :
    Calls Tryz.prog 130 #[.int .u64 (h : Int), .int .i64 n] w fun e w' => ∃ v, e = .returned v ∧ w'.ownsRow w.heap.size 3 1 v (ordN n) ((ordL h n).map (Value.int .i64)) ∧ Below w.heap.size w w' := by
  obtain ⟨i0, hi, hz0, hz1, hz2⟩ := info_parts infoInt
  have RT := fun w => refRight_any n w
  rw [ordL_map]
  by_cases hr : rightB n = true
  · obtain ⟨g, rfl⟩ := Int.eq_ofNat_of_zero_le (show 0 ≤ n by rw [rightB_iff] at hr; omega)
    have hgb := right_bd hr
    have hN : ordN (g : Int) = g := by unfold ordN; rw [if_pos hr]; simp
    rw [hN, Int.toNat_natCast]
    have AT := Lib.hid (fun (i : Nat) (hi : i < g) (w : World) => refAt_ok h g i hr hh hi w)
    rw [hr] at RT
    replace RT := Lib.hid RT
    clear hr hN
    go_enter Tryz.func130, Tryz.ntmps130
    go_wp2
    have hb0 : Below w.heap.size w (w.alloc (.cells #[] 3)) := (Below.refl _ _).alloc (Nat.le_refl _) _
    go_loopw [5, 6, 7, 8] (fun v5 v6 _ _ wr => ∃ (k : Nat), k ≤ g ∧ v6 = .int .i64 (k : Int) ∧ wr.ownsRow w.heap.size 3 1 v5 k ((List.range k).map (encI (fun i => ((walkAt h g i : Nat) : Int)))) ∧ Below w.heap.size w wr) (fun _ v6 _ _ _ => g - (intOf v6).toNat)
    case atStart => exact ⟨0, Nat.zero_le _, rfl, by simpa using ownsRow_empty (Blk.new w _ _), hb0⟩
    case round =>
      obtain ⟨k, hk, rfl, hrow2, hbo⟩ := hrel
      clear hb0
      have HR2 := Lib.hid hrow2
      obtain ⟨a2', c2', rfl⟩ := ownsRow_slice hrow2
      have hzo := hbo.size
      have hsn := Lib.hid (encI_snoc (fun i => ((walkAt h g i : Nat) : Int)) k)
      clear hrow2
      by_cases hlt : k < g
      · have AK := Lib.hid (AT.out k hlt)
        generalize walkAt h g k = y at *
        go_wp2_with (first
          | (go_at_call 44; refine (RT.out _).mono ?_; rintro e w' ⟨rfl, rfl⟩)
          | (go_at_call 163; refine (AK.out _).mono ?_; rintro e w' ⟨rfl, rfl⟩)
          | (at_builtin; refine wpList_append_own _ rfl _ _ 23 rfl w.heap.size 3 i0 (.int .i64 0) 1 8 Tryz.underlying23 hi hz0 hz1 hz2 rfl (by decide) _ _ _ rfl (HR2.out.alloc _) ⟨wr.heap.size, 0, none⟩ 1 1 [.int .i64 (y : Int)] rfl rfl (cell_one_new _ _ _) (by simp [Value.oneCell']) (by unfold maxLen; omega) (by omega) (by simp; omega) ?_; intro v' w4 hown4 hgrow4 _; have hb4 := below_append HR2.out hzo hgrow4; clear hgrow4; replace hown4 := Lib.hid hown4))
        go_roundw
        case rel => exact ⟨k + 1, by omega, by go_num, by rw [hsn.out]; simpa using hown4.out, hbo.trans hb4⟩
        case measure => simp [intOf]; omega
      · obtain rfl : k = g := by omega
        go_wp2_with (first
          | (go_at_call 44; refine (RT.out _).mono ?_; rintro e w' ⟨rfl, rfl⟩))
        go_ret
        exact ⟨_, rfl, HR2.out, hbo⟩
  · have hN : ordN n = 0 := by unfold ordN; rw [if_neg hr]
    rw [hN]
    rw [show rightB n = false by simpa using hr] at RT
    replace RT := Lib.hid RT
    clear hr hN
    go_enter Tryz.func130, Tryz.ntmps130
    go_wp2
    refine wp_loop_rounds 1 ?_
    rw [rounds_succ]
    go_wp2_with (first
      | (go_at_call 44; refine (RT.out _).mono ?_; rintro e w' ⟨rfl, rfl⟩))
    go_ret
    exact ⟨_, rfl, by simpa using ownsRow_empty (Blk.new w _ _), (Below.refl _ _).alloc (Nat.le_refl _) _⟩
end Go.Proofs.YtcnkgiapidlbkaaGreatDoor

namespace Go.Proofs.YtcnkgiapidlbkaaGreatDoor
open Go.RowKit Go.Proofs
theorem Blk.grown {w w' : World} {B : Nat} {T : TypeId} {c : Array Value} {row : Option Nat} (h : Blk w B T c) (hg : w.grownBy w' row) (hne : row ≠ some B) : Blk w' B T c := (hg.block B h.lt (fun e => hne e.symm)).trans h
structure DT (w : World) (lo hi D P cap : Nat) (GB : Nat → Nat) (T : TabS) (L : Int) : Prop where
  head : Blk w D 98 #[.slice (some ⟨P, 0, none⟩) T.n cap, .int .i64 L]
  ptr : ∀ i, i < T.n → w.cell? ⟨P, i, none⟩ = some (.pointer (some ⟨GB i, 0, none⟩))
  pz : P < w.heap.size
  g : ∀ i, i < T.n → DW w (GB i) (T.M i) (T.S i)
  dp : D ≠ P
  gd : ∀ i, i < T.n → GB i ≠ D ∧ GB i ≠ P
  gg : ∀ i j, i < T.n → j < T.n → i ≠ j → GB i ≠ GB j
  id : lo ≤ D ∧ D < hi
  ip : lo ≤ P ∧ P < hi
  ig : ∀ i, i < T.n → lo ≤ GB i ∧ GB i < hi
  hz : hi ≤ w.heap.size
  good : TGood T
theorem DT.later {w w' : World} {lo hi D P cap : Nat} {GB : Nat → Nat} {T : TabS} {L : Int} (h : DT w lo hi D P cap GB T L) (hb : Below w.heap.size w w') : DT w' lo hi D P cap GB T L :=
  ⟨h.head.below hb h.head.lt, fun i hi => (hb.cell (p := ⟨P, i, none⟩) h.pz).trans (h.ptr i hi), Nat.lt_of_lt_of_le h.pz hb.size, fun i hi => (h.g i hi).below hb (h.g i hi).lt, h.dp, h.gd, h.gg, h.id, h.ip, h.ig, Nat.le_trans h.hz hb.size, h.good⟩
theorem DT.chg {X : Nat → Prop} {w w' : World} {lo hi D P cap : Nat} {GB : Nat → Nat} {T : TabS} {L : Int} (h : DT w lo hi D P cap GB T L) (hc : Chg X w w') (hX : ∀ b, lo ≤ b → b < hi → ¬ X b) : DT w' lo hi D P cap GB T L :=
  ⟨h.head.chg hc (hX _ h.id.1 h.id.2), fun i hi => (hc.cell (p := ⟨P, i, none⟩) h.pz (hX _ h.ip.1 h.ip.2)).trans (h.ptr i hi), Nat.lt_of_lt_of_le h.pz hc.size, fun i hi => (h.g i hi).chg hc (hX _ (h.ig i hi).1 (h.ig i hi).2), h.dp, h.gd, h.gg, h.id, h.ip, h.ig, Nat.le_trans h.hz hc.size, h.good⟩
theorem DT.alloc {w : World} {lo hi D P cap : Nat} {GB : Nat → Nat} {T : TabS} {L : Int} (h : DT w lo hi D P cap GB T L) (o : Obj) : DT (w.alloc o) lo hi D P cap GB T L := h.later ((Below.refl _ _).alloc (Nat.le_refl _) o)
theorem DT.drew {w : World} {lo hi D P cap : Nat} {GB : Nat → Nat} {T : TabS} {L : Int} (h : DT w lo hi D P cap GB T L) : DT w.drew lo hi D P cap GB T L := h.later (Below.refl _ _).drew
theorem DT.looks {w : World} {lo hi D P cap : Nat} {GB : Nat → Nat} {T : TabS} {L : Int} (h : DT w lo hi D P cap GB T L) (L' : Int) : DT (w.setCell ⟨D, 1, none⟩ (.int .i64 L')) lo hi D P cap GB T L' := by
  have hC : Chg (fun b => b = D) w (w.setCell ⟨D, 1, none⟩ (.int .i64 L')) := (Chg.refl _ _).set1 _ _
  exact ⟨h.head.set 1 _, fun i hi => (hC.cell (p := ⟨P, i, none⟩) h.pz (fun e => h.dp e.symm)).trans (h.ptr i hi), Nat.lt_of_lt_of_le h.pz hC.size, fun i hi => (h.g i hi).chg hC (h.gd i hi).1, h.dp, h.gd, h.gg, h.id, h.ip, h.ig, Nat.le_trans h.hz hC.size, h.good⟩
theorem DT.group {w w' : World} {lo hi D P cap : Nat} {GB : Nat → Nat} {T T' : TabS} {L : Int} (h : DT w lo hi D P cap GB T L) {i : Nat} (hi' : i < T.n) (hn : T'.n = T.n) (hg : DW w' (GB i) (T'.M i) (T'.S i)) (hc : Chg (fun b => b = GB i) w w')
    (ho : ∀ j, j ≠ i → T'.M j = T.M j ∧ T'.S j = T.S j) (hgood : TGood T') : DT w' lo hi D P cap GB T' L := by
  have hd := h.gd i hi'
  refine ⟨by rw [hn]; exact h.head.chg hc (fun e => hd.1 e.symm), fun j hj => ?_, Nat.lt_of_lt_of_le h.pz hc.size, fun j hj => ?_, h.dp, fun j hj => h.gd j (by omega), fun j k hj hk => h.gg j k (by omega) (by omega), h.id, h.ip, fun j hj => h.ig j (by omega), Nat.le_trans h.hz hc.size, hgood⟩
  · exact (hc.cell (p := ⟨P, j, none⟩) h.pz (fun e => hd.2 e.symm)).trans (h.ptr j (by omega))
  · by_cases e : j = i
    · subst e; exact hg
    · rw [(ho j e).1, (ho j e).2]
      exact (h.g j (by omega)).chg hc (h.gg j i (by omega) hi' e)
theorem dcells {w : World} {lo hi D P cap : Nat} {GB : Nat → Nat} {T : TabS} {L : Int} (h : DT w lo hi D P cap GB T L) : w.cell? ⟨D, 0, none⟩ = some (.slice (some ⟨P, 0, none⟩) T.n cap) ∧ w.cell? ⟨D, 1, none⟩ = some (.int .i64 L) ∧ D < w.heap.size ∧ (∀ j, w.frozen? ⟨D, j, none⟩ = false) := ⟨h.head.cell 0, h.head.cell 1, h.head.lt, fun j => h.head.frozen j⟩
theorem row_ptrs {w : World} {base k : Nat} {v : Value} {F : Nat → Nat} {e : TypeId} (h : w.ownsRow base e 1 v k ((List.range k).map (fun i => Value.pointer (some ⟨F i, 0, none⟩)))) (hk : 1 ≤ k) :
    ∃ g cap cur, v = .slice (some ⟨g, 0, none⟩) k cap ∧ base ≤ g ∧ Blk w g e cur ∧ ∀ i, i < k → w.cell? ⟨g, i, none⟩ = some (.pointer (some ⟨F i, 0, none⟩)) := by
  rcases h.2 with ⟨rfl, rfl⟩ | ⟨g, cap, cur, rfl, hb, hg, h1, h2, h3, h4⟩
  · omega
  · refine ⟨g, cap, cur, rfl, hb, hg, fun i hi => ?_⟩
    have h5 := h.cells (g := g) rfl i
    have h6 : (⟨g, 0, none⟩ : Addr).add i = ⟨g, i, none⟩ := by
      simp only [Addr.add]; split
      · rename_i e; rw [e]
      · simp
    rw [h6] at h5
    exact h5 _ (by simp [hi])
set_option maxRecDepth 100000 in
set_option maxHeartbeats 2000000 in
theorem dtcount_any {w : World} {lo hi D P cap : Nat} {GB : Nat → Nat} {T : TabS} {L : Int} (h : DT w lo hi D P cap GB T L) (kd : Nat) :
    Calls Tryz.prog 134 #[.pointer (some ⟨D, 0, none⟩), .int .i64 (kd : Int)] w fun e w' => e = .returned (.int .i64 ((T.cnt kd : Nat) : Int)) ∧ Below w.heap.size w w' := by
  obtain ⟨c0, -, zD, -⟩ := dcells h
  have hn := h.good.bounds
  have HS := Lib.hid (show ∀ k, sumN (fun i => countK (T.M i) kd) k ≤ 8 * k from fun k => sumN_le fun i _ => countK_le _ _)
  have HD := Lib.hid h
  unfold TabS.cnt
  clear h
  go_enter Tryz.func134, Tryz.ntmps134
  go_wp2
  go_loopw [13, 5] (fun v13 v5 wr => ∃ k : Nat, k ≤ T.n ∧ v13 = .int .i64 (k : Int) ∧ v5 = .int .i64 ((sumN (fun i => countK (T.M i) kd) k : Nat) : Int) ∧ Below w.heap.size w wr) (fun v13 _ _ => T.n - (intOf v13).toNat)
  case atStart => exact ⟨0, Nat.zero_le _, rfl, rfl, Below.refl _ _⟩
  case round =>
    clear c0
    obtain ⟨k, hk, rfl, rfl, hB⟩ := hrel
    have KD := Lib.hid (HD.out.later hB)
    have hb8 := HS.out k
    by_cases hlt : k < T.n
    · have hltI : (k : Int) < (T.n : Int) := by omega
      have p0 := KD.out.ptr k hlt
      have zP := KD.out.pz
      have CN := Lib.hid (fun (w' : World) (h : DW w' (GB k) (T.M k) (T.S k)) => dcount_any (GB k) (T.M k) kd (T.S k) w' h)
      have hc8 := countK_le (T.M k) kd
      have hstep : sumN (fun i => countK (T.M i) kd) (k + 1) = sumN (fun i => countK (T.M i) kd) k + countK (T.M k) kd := rfl
      have HST := Lib.hid hstep
      clear hstep
      generalize sumN (fun i => countK (T.M i) kd) k = s at *
      generalize countK (T.M k) kd = c at *
      go_wp2_with (go_at_call 133; (with_reducible refine (CN.out _ (KD.out.g k hlt)).mono ?_); rintro e w2 ⟨rfl, hb2⟩)
      go_roundw
      case rel => exact ⟨k + 1, by omega, by go_num, by rw [HST.out]; go_num, hB.trans (hb2.mono hB.size)⟩
      case measure => simp [intOf]; omega
    · obtain rfl : k = T.n := by omega
      go_wp2
      go_ret
      exact ⟨rfl, hB⟩
set_option maxRecDepth 100000 in
theorem dtleft_any {w : World} {lo hi D P cap : Nat} {GB : Nat → Nat} {T : TabS} {L : Int} (h : DT w lo hi D P cap GB T L) :
    Calls Tryz.prog 91 #[.pointer (some ⟨D, 0, none⟩)] w fun e w' => e = .returned (.int .i64 T.left) ∧ Below w.heap.size w w' := by
  obtain ⟨c0, -, zD, -⟩ := dcells h
  have hn := h.good.bounds
  have C2 := Lib.hid (fun (w' : World) (h : DT w' lo hi D P cap GB T L) => dtcount_any h 2)
  have C3 := Lib.hid (fun (w' : World) (h : DT w' lo hi D P cap GB T L) => dtcount_any h 3)
  rw [← h.good.tb] at C2
  rw [← h.good.lv] at C3
  simp only [show ((2 : Nat) : Int) = 2 from rfl] at C2
  simp only [show ((3 : Nat) : Int) = 3 from rfl] at C3
  have HD := Lib.hid h
  unfold TabS.left
  generalize T.lv = lv at *
  generalize T.tb = tb at *
  have e1 : 7 * (T.n : Int) - tb - lv = 7 * (T.n : Int) - lv - tb := by omega
  have e2 : IntKind.i64.wrap (7 * (T.n : Int)) = 7 * (T.n : Int) := by rw [IntKind.wrap_i64]; omega
  have e3 : IntKind.i64.wrap (7 * (T.n : Int) - tb) = 7 * (T.n : Int) - tb := by rw [IntKind.wrap_i64]; omega
  have e4 : IntKind.i64.wrap (7 * (T.n : Int) - tb - lv) = 7 * (T.n : Int) - tb - lv := by rw [IntKind.wrap_i64]; omega
  rw [← e1]
  clear h e1
  go_enter Tryz.func91, Tryz.ntmps91
  go_wp2
  refine wp_region_seq (fun _ => False) #[⟨0, 0, 8, 1, 0⟩, ⟨1, 1, 16, 8, 0⟩, ⟨2, 3, 32, 16, 0⟩, ⟨4, 7, 64, 32, 1⟩, ⟨8, 15, 128, 64, 0⟩, ⟨16, 31, 256, 128, 0⟩, ⟨0, 0, 512, 1, 0⟩, ⟨64, 64, 1024, 512, 2⟩, ⟨160, 255, 2048, 1280, 0⟩, ⟨0, 0, 4096, 1, 0⟩, ⟨640, 704, 8192, 4096, 2⟩, ⟨1280, 2047, 16384, 10240, 0⟩, ⟨4095, 4095, 4, 16384, 0⟩] 8 [(0, 0), (1, 0), (2, 0), (3, 1), (4, 0), (5, 0), (6, 0), (9, 0), (7, 2), (8, 0), (10, 2), (11, 0), (12, 0)] (by kernel_rfl) (by kernel_rfl) (by kernel_rfl) (by kernel_rfl) (by kernel_rfl) (by kernel_rfl) (fun c a d v w h => by cases d <;> exact h) ?_
  refine seq_calcA (h := ?_)
  try simp only [Act.put, List.setIfInBounds_toArray, List.set_cons_zero, List.set_cons_succ]
  refine seq_calcA (h := ?_)
  try simp only [Act.put, List.setIfInBounds_toArray, List.set_cons_zero, List.set_cons_succ]
  refine seq_calcA (h := ?_)
  try simp only [Act.put, List.setIfInBounds_toArray, List.set_cons_zero, List.set_cons_succ]
  refine seq_load1A (hu := Tryz.underlying96) (h := ?_)
  try simp only [Act.put, List.setIfInBounds_toArray, List.set_cons_zero, List.set_cons_succ]
  refine seq_calcA (h := ?_)
  try simp only [Act.put, List.setIfInBounds_toArray, List.set_cons_zero, List.set_cons_succ]
  refine seq_calcA (h := ?_)
  try simp only [Act.put, List.setIfInBounds_toArray, List.set_cons_zero, List.set_cons_succ]
  refine seq_calcA (h := ?_)
  try simp only [Act.put, List.setIfInBounds_toArray, List.set_cons_zero, List.set_cons_succ]
  refine seq_calcA (h := ?_)
  try simp only [Act.put, List.setIfInBounds_toArray, List.set_cons_zero, List.set_cons_succ]
  refine seq_doA (h := fun K hK => ?_); go_wp2_with (first | (go_at_call 134; (with_reducible refine (C2.out _ HD.out.drew).mono ?_); rintro e w2 ⟨rfl, hb2⟩) | (go_at_call 134; (with_reducible refine (C3.out _ (HD.out.drew.later hb2)).mono ?_); rintro e w3 ⟨rfl, hb3⟩)); refine hkA hK (h := ?_); clear hK K
  try simp only [Act.put, List.setIfInBounds_toArray, List.set_cons_zero, List.set_cons_succ]
  refine seq_calcA (h := ?_)
  try simp only [Act.put, List.setIfInBounds_toArray, List.set_cons_zero, List.set_cons_succ]
  refine seq_doA (h := fun K hK => ?_); go_wp2_with (first | (go_at_call 134; (with_reducible refine (C2.out _ HD.out.drew).mono ?_); rintro e w2 ⟨rfl, hb2⟩) | (go_at_call 134; (with_reducible refine (C3.out _ (HD.out.drew.later hb2)).mono ?_); rintro e w3 ⟨rfl, hb3⟩)); refine hkA hK (h := ?_); clear hK K
  try simp only [Act.put, List.setIfInBounds_toArray, List.set_cons_zero, List.set_cons_succ]
  refine seq_calcA (h := ?_)
  try simp only [Act.put, List.setIfInBounds_toArray, List.set_cons_zero, List.set_cons_succ]
  refine seq_calcA (h := ?_)
  try simp only [Act.put, List.setIfInBounds_toArray, List.set_cons_zero, List.set_cons_succ]
  refine seq_nil ?_
  go_wp2
  go_ret
  exact ⟨rfl, (Below.undrew hb2).trans (hb3.mono hb2.size)⟩
end Go.Proofs.YtcnkgiapidlbkaaGreatDoor

namespace Go.Proofs.YtcnkgiapidlbkaaGreatDoor
open Go.RowKit Go.Proofs
structure DWh (wr : World) (lo hi D P cap : Nat) (GB : Nat → Nat) (T : TabS) (L : Int) (b0 h i : Nat) (o : Option Nat) (av : Value) (ords : List Int) (w : World) : Prop where
  t : DT wr lo hi D P cap GB T L
  r0 : Blk wr b0 153 #[.int .i64 0, .int .i64 0]
  r1 : Blk wr (b0 + 1) 153 #[.int .i64 0, .int .i64 0]
  a : Blk wr (b0 + 1 + 1) 153 #[.int .i64 (-1), .int .i64 (-1)]
  f : Blk wr (b0 + 1 + 1 + 1) 153 #[.int .i64 (T.frG h o), .int .i64 (T.frK h o)]
  l : wr.ownsRow (b0 + 1 + 1 + 1 + 1) 3 1 av ords.length (ords.map (Value.int .i64))
  c : Chg (fun b => b = D) w wr
section
variable {wr w' w : World} {lo hi D P cap : Nat} {GB : Nat → Nat} {T : TabS} {L : Int} {b0 h i : Nat} {o : Option Nat} {av : Value} {ords : List Int}
theorem DWh.later (hS : DWh wr lo hi D P cap GB T L b0 h i o av ords w) (hb : Below wr.heap.size wr w') : DWh w' lo hi D P cap GB T L b0 h i o av ords w :=
  ⟨hS.t.later hb, hS.r0.below hb hS.r0.lt, hS.r1.below hb hS.r1.lt, hS.a.below hb hS.a.lt, hS.f.below hb hS.f.lt, ownsRow_later hS.l hb, hS.c.thenBelow hb⟩
theorem cells2 {w : World} {C : Nat} {T : TypeId} {a b : Value} (h : Blk w C T #[a, b]) : w.cell? ⟨C, 0, none⟩ = some a ∧ w.cell? ⟨C, 1, none⟩ = some b := ⟨h.cell 0, h.cell 1⟩
end
set_option maxRecDepth 100000 in
set_option maxHeartbeats 8000000 in
theorem dtwhere_any {w : World} {lo hi D P cap : Nat} {GB : Nat → Nat} {T : TabS} {L : Int} (hd : DT w lo hi D P cap GB T L) (hL : 0 ≤ L ∧ L ≤ 1000000000) (key : Int) (h : Nat) (hh : h < 18446744073709551616) :
    Calls Tryz.prog 89 #[.pointer (some ⟨D, 0, none⟩), .int .u64 key, .int .u64 (h : Int)] w fun e w' =>
      e = .returned (.tuple #[.agg #[.int .i64 (T.atG key h), .int .i64 (T.atK key h)], .agg #[.int .i64 (T.frG h (T.freeJ key h)), .int .i64 (T.frK h (T.freeJ key h))]]) ∧
      DT w' lo hi D P cap GB T (L + T.looks key h) ∧ Chg (fun b => b = D) w w' := by
  have hn := hd.good.bounds
  have hr := hd.good.right
  have hDz := hd.head.lt
  have hiz := hd.hz
  have HGD := Lib.hid hd.good.good
  have HD := Lib.hid hd
  obtain ⟨c0, c1, -, -⟩ := dcells hd
  have e128 : (h : Int) / 128 = ((h / 128 : Nat) : Int) := by omega
  have h128 : h / 128 < 18446744073709551616 := by omega
  have hoN : ordN (T.n : Int) = T.n := by unfold ordN; rw [if_pos hr]; simp
  obtain ⟨ords, hoL, hoG, hO⟩ : ∃ ords : List Int, ords.length = T.n ∧ (∀ i (hi : i < ords.length), ords[i] = ((T.wk h i : Nat) : Int)) ∧ (∀ w', Calls Tryz.prog 130 #[.int .u64 ((h / 128 : Nat) : Int), .int .i64 (T.n : Int)] w' fun e w'' => ∃ v, e = .returned v ∧ w''.ownsRow w'.heap.size 3 1 v T.n (ords.map (Value.int .i64)) ∧ Below w'.heap.size w' w'') :=
    ⟨ordL (h / 128) (T.n : Int), (ordL_length _ _).trans hoN, fun i hi => by rw [ordL_get]; unfold TabS.wk; rw [Int.toNat_natCast], fun w' => by have := refOrder_any (h / 128) (T.n : Int) h128 w'; rw [hoN] at this; exact this⟩
  have OR := Lib.hid hO
  obtain ⟨u, hu⟩ : ∃ u, u = h / 128 := ⟨_, rfl⟩
  rw [← hu] at e128 OR
  have HWK := Lib.hid (show ∀ i, T.wk h i < T.n from fun i => walkAt_lt (h / 128) T.n i (by omega))
  have HOG := Lib.hid hoG
  clear hd hu h128 hoN hoG hO
  go_enter Tryz.func89, Tryz.ntmps89
  have zD1 : D < w.heap.size + 1 := by omega
  have zD2 : D < w.heap.size + 1 + 1 := by omega
  have zD3 : D < w.heap.size + 1 + 1 + 1 := by omega
  go_wp2_with (go_at_call 130; (with_reducible refine (OR.out _).mono ?_); rintro e w1 ⟨av, rfl, hr1, hb1⟩; obtain ⟨oa, ocap, rfl⟩ := ownsRow_slice hr1; have R1 := Lib.hid hr1; have B1 := Lib.hid hb1; have hz1 := hb1.size; clear hr1 hb1)
  refine wp_at (fun wL hwL => ?_)
  obtain ⟨b0, hb0⟩ : ∃ b0, b0 = w.heap.size := ⟨_, rfl⟩
  have D0 := Lib.hid (show DWh wL lo hi D P cap GB T (L + (0 : Nat)) b0 h 0 (T.fJ h 0) (.slice oa T.n ocap) ords w by
    rw [hwL, hb0, show L + ((0 : Nat) : Int) = L by simp]
    refine ⟨HD.out.later ?_, ?_, ?_, ?_, ?_, ?_, ?_⟩
    · exact Below.trans (show Below w.heap.size w _ by go_grown) (B1.out.mono (by simp; omega))
    · exact ((((Blk.new w _ _).alloc _).alloc _).alloc _).below B1.out (by simp; omega)
    · exact (((Blk.new_at (by simp)).alloc _).alloc _).below B1.out (by simp)
    · exact ((Blk.new_at (by simp)).alloc _).below B1.out (by simp)
    · exact Blk.below (Blk.new_at (by simp)) B1.out (by simp)
    · rw [hoL]; have := R1.out; simpa using this
    · exact Chg.of_below (Below.trans (show Below w.heap.size w _ by go_grown) (B1.out.mono (by simp; omega))))
  have hbD : D < b0 := by omega
  have hib : hi ≤ b0 := by omega
  rw [← hb0]
  have HB0 := Lib.hid hb0
  replace hwL := Lib.hid hwL
  clear hb0
  clear c0 c1 zD1 zD2 zD3 hz1 R1 B1 OR
  go_loopw [26] (fun v26 wr => ∃ i : Nat, i ≤ T.n ∧ v26 = .int .i64 (i : Int) ∧ DWh wr lo hi D P cap GB T (L + (i : Nat)) b0 h i (T.fJ h i) (.slice oa T.n ocap) ords w ∧ ∀ j, j < i → T.stop key h (T.wk h j) = false) (fun v26 _ => T.n - (intOf v26).toNat)
  case atStart => exact ⟨0, Nat.zero_le _, rfl, D0.out, fun j hj => by omega⟩
  case round =>
    clear D0
    obtain ⟨i, hile, rfl, hS, hm⟩ := hrel
    have KS := Lib.hid hS
    have KM := Lib.hid hm
    clear hS hm
    by_cases hlt : i < T.n
    · have hiI : (i : Int) < (T.n : Int) := by omega
      obtain ⟨oa', ocap', e, hcs⟩ := (readsInts_own KS.out.l).cellsOf
      obtain ⟨e1, -, -⟩ := Value.slice.inj e
      obtain ⟨b, off, rfl, hcell⟩ := hcs i (by omega)
      subst e1
      have g0 := hcell wr (Below.refl _ _)
      rw [HOG.out i (by omega)] at g0
      have hbz := World.block_lt_of_cell? _ _ g0
      have hx := HWK.out i
      obtain ⟨d0, d1, zD, df⟩ := dcells KS.out.t
      have hdp : D ≠ P := KS.out.t.dp
      have hpd : P ≠ D := Ne.symm hdp
      have e1 : IntKind.i64.wrap (L + (i : Int) + 1) = L + ((i + 1 : Nat) : Int) := by rw [IntKind.wrap_i64]; omega
      have HXE : Hid (T.wk h i = T.wk h i) := Lib.hid rfl
      obtain ⟨x, hxe⟩ : ∃ x, x = T.wk h i := ⟨_, rfl⟩
      rw [← hxe] at g0 hx
      have HX := Lib.hid hxe
      have p0 := KS.out.t.ptr x hx
      have zP := KS.out.t.pz
      have zG := (KS.out.t.g x hx).lt
      have hxI : (x : Int) < (T.n : Int) := by omega
      clear hxe HXE hcs hcell e
      go_upto_region 6 with (fail)
      refine wp_at (fun w2 hw2 => ?_)
      have hC2 : Chg (fun b => b = D) wr (wr.setCell ⟨D, 1, none⟩ (.int .i64 (L + ((i + 1 : Nat) : Int)))) := (Chg.refl _ _).set1 _ _
      have S2 := Lib.hid (show DWh w2 lo hi D P cap GB T (L + ((i + 1 : Nat) : Int)) b0 h i (T.fJ h i) (.slice (some ⟨b, off, none⟩) T.n ocap) ords w by
        rw [hw2]
        exact ⟨KS.out.t.looks _, KS.out.r0.chg hC2 (by omega), KS.out.r1.chg hC2 (by omega), KS.out.a.chg hC2 (by omega), KS.out.f.chg hC2 (by omega), ownsRow_chg KS.out.l hC2 (fun b hb e => by omega), KS.out.c.trans hC2⟩)
      obtain ⟨d20, d21, zD2, df2⟩ := dcells S2.out.t
      have p20 := S2.out.t.ptr x hx
      have zP2 := S2.out.t.pz
      have LE := Lib.hid (fun (w' : World) (hd : DW w' (GB x) (T.M x) (T.S x)) => dleast_any (GB x) (T.M x) (T.S x) w' hd)
      rw [← free_scan] at LE
      replace hw2 := Lib.hid hw2
      clear KS g0 d0 d1 zD df p0 zP zG hbz hC2
      go_upto_region 8 with (go_at_call 131; (with_reducible refine (LE.out _ (S2.out.t.g x hx)).mono ?_); rintro e w3 ⟨rfl, hb3⟩; have S3 := Lib.hid (S2.out.later hb3))
      obtain ⟨f0, f1⟩ := cells2 S3.out.f
      have zf := S3.out.f.lt
      have ff := fun j => S3.out.f.frozen j
      clear d20 d21 zD2 df2 p20 zP2
      obtain ⟨z, hz⟩ : ∃ z, z = freeZ (T.M x) := ⟨_, rfl⟩
      have HZ : Hid (z = freeZ (T.M (T.wk h i))) := Lib.hid (by rw [hz, HX.out])
      rw [← hz]
      clear hz
      by_cases hz0 : 0 ≤ z
      · cases ho : T.fJ h i with
        | none =>
          have hnew := fJ_new ho (by rw [← HZ.out]; exact hz0)
          rw [ho] at f0 f1 S3
          rw [(frG_none T h).1] at f0
          have HN := Lib.hid hnew
          have hC3 : Chg (fun b => b = b0 + 1 + 1 + 1) w3 ((w3.setCell ⟨b0 + 1 + 1 + 1, 0, none⟩ (.int .i64 (x : Int))).setCell ⟨b0 + 1 + 1 + 1, 1, none⟩ (.int .i64 z)) := ((Chg.refl _ _).set1 _ _).set1 _ _
          have HC3 := Lib.hid hC3
          clear ho hnew hC3
          go_upto_region 10 with (fail)
          refine wp_at (fun w4 hw4 => ?_)
          have KC := Lib.hid (show DWh w4 lo hi D P cap GB T (L + ((i + 1 : Nat) : Int)) b0 h (i + 1) (T.fJ h (i + 1)) (.slice (some ⟨b, off, none⟩) T.n ocap) ords w by
            rw [hw4, HN.out]
            refine ⟨S3.out.t.chg HC3.out (fun b hb1 hb2 e => by omega), S3.out.r0.chg HC3.out (by omega), S3.out.r1.chg HC3.out (by omega), S3.out.a.chg HC3.out (by omega), ?_, ownsRow_chg S3.out.l HC3.out (fun b hb e => by omega), S3.out.c.trans' HC3.out (fun b hb e => ?_)⟩
            · have := (S3.out.f.set 0 (.int .i64 (x : Int))).set 1 (.int .i64 z)
              rw [(frG_some T h i).1, (frG_some T h i).2, ← HZ.out, ← HX.out]
              exact this
            · have := HB0.out; omega)
          replace hw4 := Lib.hid hw4
          clear S3 HN HC3 f0 f1 zf ff hz0
          have zG4 := (KC.out.t.g x hx).lt
          have FI := Lib.hid (fun (w' : World) (hd : DW w' (GB x) (T.M x) (T.S x)) => dfind_any (GB x) (T.M x) h (T.S x) key (HGD.out x hx) hh w' hd)
          rw [← find_doc (HGD.out x hx)] at FI
          have HHT : Hid (T.hit key h (T.wk h i) = findZ (T.S x) key (lanesL (equalB (T.M x) (h % 128)))) := Lib.hid (by rw [← HX.out]; rfl)
          generalize findZ (T.S x) key (lanesL (equalB (T.M x) (h % 128))) = zf at *
          by_cases hzf : 0 ≤ zf
          · go_upto_region 12 with (go_at_call 132; (with_reducible refine (FI.out _ (KC.out.t.g x hx)).mono ?_); rintro e w5 ⟨rfl, hb5⟩; have S5 := Lib.hid (KC.out.later hb5))
            have HWH := Lib.hid (where_hit hlt KM.out HHT.out hzf)
            obtain ⟨f0, f1⟩ := cells2 S5.out.f
            obtain ⟨a0, a1⟩ := cells2 S5.out.a
            have z0 := S5.out.r0.lt
            have z1 := S5.out.r1.lt
            have z2 := S5.out.a.lt
            have z3 := S5.out.f.lt
            have n0 := fun j => S5.out.r0.frozen j
            have n1' := fun j => S5.out.r1.frozen j
            obtain ⟨q0, q1⟩ := cells2 S5.out.r0
            obtain ⟨q2, q3⟩ := cells2 S5.out.r1
            refine wp_region_seq (fun b => b = b0 ∨ b = b0 + 1) #[⟨0, 0, 4611686018427387904, 2048, 0⟩, ⟨0, 0, 9223372036854775808, 16384, 0⟩, ⟨3, 3, 18446744073709551616, 13835058055282163712, 0⟩, ⟨0, 0, 36893488147419103232, 512, 1⟩, ⟨7, 7, 0, 18446744073709551680, 2⟩, ⟨31, 31, 0, 36893488147419103360, 3⟩] 8 [(0, 0), (1, 0), (2, 0), (3, 1), (4, 2), (5, 3)] (by kernel_rfl) (by kernel_rfl) (by kernel_rfl) (by kernel_rfl) (by kernel_rfl) (by kernel_rfl) (fun c a d v w h => by cases d <;> exact h) ?_
            refine seq_calcA (h := ?_)
            try simp only [Act.put, List.setIfInBounds_toArray, List.set_cons_zero, List.set_cons_succ]
            refine seq_calcA (h := ?_)
            try simp only [Act.put, List.setIfInBounds_toArray, List.set_cons_zero, List.set_cons_succ]
            refine seq_calcA (h := ?_)
            try simp only [Act.put, List.setIfInBounds_toArray, List.set_cons_zero, List.set_cons_succ]
            refine seq_loadsA [_, _] (hu := Tryz.underlying153) (h := ?_)
            try simp only [Act.put, List.setIfInBounds_toArray, List.set_cons_zero, List.set_cons_succ]
            refine seq_doA (h := fun K hK => ?_); go_wp2_with (fail); refine hkA hK (h := ?_); clear hK K
            try simp only [Act.put, List.setIfInBounds_toArray, List.set_cons_zero, List.set_cons_succ]
            refine seq_lastA (h := fun K hK => ?_); go_wp2_with (fail); refine hK.out _ _ ?_; clear hK K
            try simp only [Act.put, List.setIfInBounds_toArray, List.set_cons_zero, List.set_cons_succ]
            refine seq_nil ?_
            go_wp2
            refine wp_end_at (fun Wf hWf => ?_)
            have hR0 : Blk Wf b0 153 #[.int .i64 ((x : Int)), .int .i64 (zf)] := by rw [hWf]; exact Blk.drew ((((S5.out.r0.set 0 _).set 1 _).other (by omega) _ _).other (by omega) _ _)
            have hR1 : Blk Wf (b0 + 1) 153 #[.int .i64 (T.frG h (T.fJ h (i + 1))), .int .i64 (T.frK h (T.fJ h (i + 1)))] := by rw [hWf]; exact Blk.drew ((((S5.out.r1.other (by omega) _ _).other (by omega) _ _).set 0 _).set 1 _)
            have hC : Chg (fun b => b = b0 ∨ b = b0 + 1) w5 Wf := by rw [hWf]; exact (((((Chg.refl _ _).setCell (.inl (.inl rfl)) _).setCell (.inl (.inl rfl)) _).setCell (.inl (.inr rfl)) _).setCell (.inl (.inr rfl)) _).drew
            obtain ⟨x0, x1⟩ := cells2 hR0
            obtain ⟨y0, y1⟩ := cells2 hR1
            obtain ⟨hl1, hl2, hl3, hl4⟩ := HWH.out
            rw [hl1, hl2, hl3, hl4]
            exact bodyPost_ret (v := .tuple #[.agg #[.int .i64 ((x : Int)), .int .i64 (zf)], .agg #[.int .i64 (T.frG h (T.fJ h (i + 1))), .int .i64 (T.frK h (T.fJ h (i + 1)))]]) (by simp [results, Tryz.results89, go_sem, x0, x1, y0, y1]) rfl
              ⟨by first | rfl | rw [← HX.out] | rw [HX.out], S5.out.t.chg hC (fun b h1 h2 => by rintro (e | e) <;> omega), S5.out.c.trans' hC (fun b hb e => by have := HB0.out; rcases e with e | e <;> omega)⟩
          · have hzf1 : zf < 0 := by omega
            have CN := Lib.hid (fun (w' : World) (h : DW w' (GB x) (T.M x) (T.S x)) => dcount_any (GB x) (T.M x) 1 (T.S x) w' h)
            simp only [show ((1 : Nat) : Int) = 1 from rfl] at CN
            have o1 : decide (((countK (T.M x) 1 : Nat) : Int) > 0) = openB (T.M x) := by rw [open_count, Bool.eq_iff_iff]; simp
            generalize ((countK (T.M x) 1 : Nat) : Int) = n1 at CN o1
            cases hop : openB (T.M x) with
            | true =>
              rw [hop] at o1
              have HWH := Lib.hid (where_miss hlt KM.out (by rw [HHT.out]; exact hzf1) (by rw [← HX.out]; exact hop))
              clear hop
              go_upto_region 15 with (first
                | (go_at_call 132; (with_reducible refine (FI.out _ (KC.out.t.g x hx)).mono ?_); rintro e w5 ⟨rfl, hb5⟩; have S5 := Lib.hid (KC.out.later hb5))
                | (go_at_call 133; (with_reducible refine (CN.out _ (S5.out.t.g x hx)).mono ?_); rintro e w6 ⟨rfl, hb6⟩; have S6 := Lib.hid (S5.out.later hb6)))
              obtain ⟨f0, f1⟩ := cells2 S6.out.f
              obtain ⟨a0, a1⟩ := cells2 S6.out.a
              have z0 := S6.out.r0.lt
              have z1 := S6.out.r1.lt
              have z2 := S6.out.a.lt
              have z3 := S6.out.f.lt
              have n0 := fun j => S6.out.r0.frozen j
              have n1' := fun j => S6.out.r1.frozen j
              obtain ⟨q0, q1⟩ := cells2 S6.out.r0
              obtain ⟨q2, q3⟩ := cells2 S6.out.r1
              refine wp_region_seq (fun b => b = b0 ∨ b = b0 + 1) #[⟨0, 0, 1180591620717411303424, 256, 1⟩, ⟨0, 0, 2361183241434822606848, 512, 1⟩, ⟨1, 1, 0, 1180591620717411303488, 2⟩, ⟨7, 7, 0, 2361183241434822606976, 3⟩] 3 [(0, 1), (1, 1), (2, 2), (3, 3)] (by kernel_rfl) (by kernel_rfl) (by kernel_rfl) (by kernel_rfl) (by kernel_rfl) (by kernel_rfl) (fun c a d v w h => by cases d <;> exact h) ?_
              refine seq_loadsA [_, _] (hu := Tryz.underlying153) (h := ?_)
              try simp only [Act.put, List.setIfInBounds_toArray, List.set_cons_zero, List.set_cons_succ]
              refine seq_loadsA [_, _] (hu := Tryz.underlying153) (h := ?_)
              try simp only [Act.put, List.setIfInBounds_toArray, List.set_cons_zero, List.set_cons_succ]
              refine seq_doA (h := fun K hK => ?_); go_wp2_with (fail); refine hkA hK (h := ?_); clear hK K
              try simp only [Act.put, List.setIfInBounds_toArray, List.set_cons_zero, List.set_cons_succ]
              refine seq_lastA (h := fun K hK => ?_); go_wp2_with (fail); refine hK.out _ _ ?_; clear hK K
              try simp only [Act.put, List.setIfInBounds_toArray, List.set_cons_zero, List.set_cons_succ]
              refine seq_nil ?_
              go_wp2
              refine wp_end_at (fun Wf hWf => ?_)
              have hR0 : Blk Wf b0 153 #[.int .i64 (-1), .int .i64 (-1)] := by rw [hWf]; exact Blk.drew ((((S6.out.r0.set 0 _).set 1 _).other (by omega) _ _).other (by omega) _ _)
              have hR1 : Blk Wf (b0 + 1) 153 #[.int .i64 (T.frG h (T.fJ h (i + 1))), .int .i64 (T.frK h (T.fJ h (i + 1)))] := by rw [hWf]; exact Blk.drew ((((S6.out.r1.other (by omega) _ _).other (by omega) _ _).set 0 _).set 1 _)
              have hC : Chg (fun b => b = b0 ∨ b = b0 + 1) w6 Wf := by rw [hWf]; exact (((((Chg.refl _ _).setCell (.inl (.inl rfl)) _).setCell (.inl (.inl rfl)) _).setCell (.inl (.inr rfl)) _).setCell (.inl (.inr rfl)) _).drew
              obtain ⟨x0, x1⟩ := cells2 hR0
              obtain ⟨y0, y1⟩ := cells2 hR1
              obtain ⟨hl1, hl2, hl3, hl4⟩ := HWH.out
              rw [hl1, hl2, hl3, hl4]
              exact bodyPost_ret (v := .tuple #[.agg #[.int .i64 (-1), .int .i64 (-1)], .agg #[.int .i64 (T.frG h (T.fJ h (i + 1))), .int .i64 (T.frK h (T.fJ h (i + 1)))]]) (by simp [results, Tryz.results89, go_sem, x0, x1, y0, y1]) rfl
                ⟨by first | rfl | rw [← HX.out] | rw [HX.out], S6.out.t.chg hC (fun b h1 h2 => by rintro (e | e) <;> omega), S6.out.c.trans' hC (fun b hb e => by have := HB0.out; rcases e with e | e <;> omega)⟩
            | false =>
              rw [hop] at o1
              have HST := Lib.hid (stop_no (T := T) (key := key) (h := h) (g := T.wk h i) (by rw [HHT.out]; exact hzf1) (by rw [← HX.out]; exact hop))
              clear hop
              go_wp2_with (first
                | (go_at_call 132; (with_reducible refine (FI.out _ (KC.out.t.g x hx)).mono ?_); rintro e w5 ⟨rfl, hb5⟩; have S5 := Lib.hid (KC.out.later hb5))
                | (go_at_call 133; (with_reducible refine (CN.out _ (S5.out.t.g x hx)).mono ?_); rintro e w6 ⟨rfl, hb6⟩; have S6 := Lib.hid (S5.out.later hb6)))
              go_roundw
              case rel => exact ⟨i + 1, by omega, by go_num, S6.out, fun j hj => by
                by_cases e : j = i
                · subst e; exact HST.out
                · exact KM.out j (by omega)⟩
              case measure => simp [intOf]; omega
        | some j =>
          have hnew := fJ_some ho
          rw [ho] at f0 f1 S3
          rw [(frG_some T h j).1] at f0
          have HN := Lib.hid hnew
          have e2 : decide (((T.wk h j : Nat) : Int) < 0) = false := by simp
          clear ho hnew
          go_upto_region 10 with (fail)
          refine wp_at (fun w4 hw4 => ?_)
          have KC := Lib.hid (show DWh w4 lo hi D P cap GB T (L + ((i + 1 : Nat) : Int)) b0 h (i + 1) (T.fJ h (i + 1)) (.slice (some ⟨b, off, none⟩) T.n ocap) ords w by
            rw [hw4, HN.out]
            exact ⟨S3.out.t, S3.out.r0, S3.out.r1, S3.out.a, S3.out.f, S3.out.l, S3.out.c⟩)
          replace hw4 := Lib.hid hw4
          clear S3 HN f0 f1 zf ff hz0 e2
          have zG4 := (KC.out.t.g x hx).lt
          have FI := Lib.hid (fun (w' : World) (hd : DW w' (GB x) (T.M x) (T.S x)) => dfind_any (GB x) (T.M x) h (T.S x) key (HGD.out x hx) hh w' hd)
          rw [← find_doc (HGD.out x hx)] at FI
          have HHT : Hid (T.hit key h (T.wk h i) = findZ (T.S x) key (lanesL (equalB (T.M x) (h % 128)))) := Lib.hid (by rw [← HX.out]; rfl)
          generalize findZ (T.S x) key (lanesL (equalB (T.M x) (h % 128))) = zf at *
          by_cases hzf : 0 ≤ zf
          · go_upto_region 12 with (go_at_call 132; (with_reducible refine (FI.out _ (KC.out.t.g x hx)).mono ?_); rintro e w5 ⟨rfl, hb5⟩; have S5 := Lib.hid (KC.out.later hb5))
            have HWH := Lib.hid (where_hit hlt KM.out HHT.out hzf)
            obtain ⟨f0, f1⟩ := cells2 S5.out.f
            obtain ⟨a0, a1⟩ := cells2 S5.out.a
            have z0 := S5.out.r0.lt
            have z1 := S5.out.r1.lt
            have z2 := S5.out.a.lt
            have z3 := S5.out.f.lt
            have n0 := fun j => S5.out.r0.frozen j
            have n1' := fun j => S5.out.r1.frozen j
            obtain ⟨q0, q1⟩ := cells2 S5.out.r0
            obtain ⟨q2, q3⟩ := cells2 S5.out.r1
            refine wp_region_seq (fun b => b = b0 ∨ b = b0 + 1) #[⟨0, 0, 4611686018427387904, 2048, 0⟩, ⟨0, 0, 9223372036854775808, 16384, 0⟩, ⟨3, 3, 18446744073709551616, 13835058055282163712, 0⟩, ⟨0, 0, 36893488147419103232, 512, 1⟩, ⟨7, 7, 0, 18446744073709551680, 2⟩, ⟨31, 31, 0, 36893488147419103360, 3⟩] 8 [(0, 0), (1, 0), (2, 0), (3, 1), (4, 2), (5, 3)] (by kernel_rfl) (by kernel_rfl) (by kernel_rfl) (by kernel_rfl) (by kernel_rfl) (by kernel_rfl) (fun c a d v w h => by cases d <;> exact h) ?_
            refine seq_calcA (h := ?_)
            try simp only [Act.put, List.setIfInBounds_toArray, List.set_cons_zero, List.set_cons_succ]
            refine seq_calcA (h := ?_)
            try simp only [Act.put, List.setIfInBounds_toArray, List.set_cons_zero, List.set_cons_succ]
            refine seq_calcA (h := ?_)
            try simp only [Act.put, List.setIfInBounds_toArray, List.set_cons_zero, List.set_cons_succ]
            refine seq_loadsA [_, _] (hu := Tryz.underlying153) (h := ?_)
            try simp only [Act.put, List.setIfInBounds_toArray, List.set_cons_zero, List.set_cons_succ]
            refine seq_doA (h := fun K hK => ?_); go_wp2_with (fail); refine hkA hK (h := ?_); clear hK K
            try simp only [Act.put, List.setIfInBounds_toArray, List.set_cons_zero, List.set_cons_succ]
            refine seq_lastA (h := fun K hK => ?_); go_wp2_with (fail); refine hK.out _ _ ?_; clear hK K
            try simp only [Act.put, List.setIfInBounds_toArray, List.set_cons_zero, List.set_cons_succ]
            refine seq_nil ?_
            go_wp2
            refine wp_end_at (fun Wf hWf => ?_)
            have hR0 : Blk Wf b0 153 #[.int .i64 ((x : Int)), .int .i64 (zf)] := by rw [hWf]; exact Blk.drew ((((S5.out.r0.set 0 _).set 1 _).other (by omega) _ _).other (by omega) _ _)
            have hR1 : Blk Wf (b0 + 1) 153 #[.int .i64 (T.frG h (T.fJ h (i + 1))), .int .i64 (T.frK h (T.fJ h (i + 1)))] := by rw [hWf]; exact Blk.drew ((((S5.out.r1.other (by omega) _ _).other (by omega) _ _).set 0 _).set 1 _)
            have hC : Chg (fun b => b = b0 ∨ b = b0 + 1) w5 Wf := by rw [hWf]; exact (((((Chg.refl _ _).setCell (.inl (.inl rfl)) _).setCell (.inl (.inl rfl)) _).setCell (.inl (.inr rfl)) _).setCell (.inl (.inr rfl)) _).drew
            obtain ⟨x0, x1⟩ := cells2 hR0
            obtain ⟨y0, y1⟩ := cells2 hR1
            obtain ⟨hl1, hl2, hl3, hl4⟩ := HWH.out
            rw [hl1, hl2, hl3, hl4]
            exact bodyPost_ret (v := .tuple #[.agg #[.int .i64 ((x : Int)), .int .i64 (zf)], .agg #[.int .i64 (T.frG h (T.fJ h (i + 1))), .int .i64 (T.frK h (T.fJ h (i + 1)))]]) (by simp [results, Tryz.results89, go_sem, x0, x1, y0, y1]) rfl
              ⟨by first | rfl | rw [← HX.out] | rw [HX.out], S5.out.t.chg hC (fun b h1 h2 => by rintro (e | e) <;> omega), S5.out.c.trans' hC (fun b hb e => by have := HB0.out; rcases e with e | e <;> omega)⟩
          · have hzf1 : zf < 0 := by omega
            have CN := Lib.hid (fun (w' : World) (h : DW w' (GB x) (T.M x) (T.S x)) => dcount_any (GB x) (T.M x) 1 (T.S x) w' h)
            simp only [show ((1 : Nat) : Int) = 1 from rfl] at CN
            have o1 : decide (((countK (T.M x) 1 : Nat) : Int) > 0) = openB (T.M x) := by rw [open_count, Bool.eq_iff_iff]; simp
            generalize ((countK (T.M x) 1 : Nat) : Int) = n1 at CN o1
            cases hop : openB (T.M x) with
            | true =>
              rw [hop] at o1
              have HWH := Lib.hid (where_miss hlt KM.out (by rw [HHT.out]; exact hzf1) (by rw [← HX.out]; exact hop))
              clear hop
              go_upto_region 15 with (first
                | (go_at_call 132; (with_reducible refine (FI.out _ (KC.out.t.g x hx)).mono ?_); rintro e w5 ⟨rfl, hb5⟩; have S5 := Lib.hid (KC.out.later hb5))
                | (go_at_call 133; (with_reducible refine (CN.out _ (S5.out.t.g x hx)).mono ?_); rintro e w6 ⟨rfl, hb6⟩; have S6 := Lib.hid (S5.out.later hb6)))
              obtain ⟨f0, f1⟩ := cells2 S6.out.f
              obtain ⟨a0, a1⟩ := cells2 S6.out.a
              have z0 := S6.out.r0.lt
              have z1 := S6.out.r1.lt
              have z2 := S6.out.a.lt
              have z3 := S6.out.f.lt
              have n0 := fun j => S6.out.r0.frozen j
              have n1' := fun j => S6.out.r1.frozen j
              obtain ⟨q0, q1⟩ := cells2 S6.out.r0
              obtain ⟨q2, q3⟩ := cells2 S6.out.r1
              refine wp_region_seq (fun b => b = b0 ∨ b = b0 + 1) #[⟨0, 0, 1180591620717411303424, 256, 1⟩, ⟨0, 0, 2361183241434822606848, 512, 1⟩, ⟨1, 1, 0, 1180591620717411303488, 2⟩, ⟨7, 7, 0, 2361183241434822606976, 3⟩] 3 [(0, 1), (1, 1), (2, 2), (3, 3)] (by kernel_rfl) (by kernel_rfl) (by kernel_rfl) (by kernel_rfl) (by kernel_rfl) (by kernel_rfl) (fun c a d v w h => by cases d <;> exact h) ?_
              refine seq_loadsA [_, _] (hu := Tryz.underlying153) (h := ?_)
              try simp only [Act.put, List.setIfInBounds_toArray, List.set_cons_zero, List.set_cons_succ]
              refine seq_loadsA [_, _] (hu := Tryz.underlying153) (h := ?_)
              try simp only [Act.put, List.setIfInBounds_toArray, List.set_cons_zero, List.set_cons_succ]
              refine seq_doA (h := fun K hK => ?_); go_wp2_with (fail); refine hkA hK (h := ?_); clear hK K
              try simp only [Act.put, List.setIfInBounds_toArray, List.set_cons_zero, List.set_cons_succ]
              refine seq_lastA (h := fun K hK => ?_); go_wp2_with (fail); refine hK.out _ _ ?_; clear hK K
              try simp only [Act.put, List.setIfInBounds_toArray, List.set_cons_zero, List.set_cons_succ]
              refine seq_nil ?_
              go_wp2
              refine wp_end_at (fun Wf hWf => ?_)
              have hR0 : Blk Wf b0 153 #[.int .i64 (-1), .int .i64 (-1)] := by rw [hWf]; exact Blk.drew ((((S6.out.r0.set 0 _).set 1 _).other (by omega) _ _).other (by omega) _ _)
              have hR1 : Blk Wf (b0 + 1) 153 #[.int .i64 (T.frG h (T.fJ h (i + 1))), .int .i64 (T.frK h (T.fJ h (i + 1)))] := by rw [hWf]; exact Blk.drew ((((S6.out.r1.other (by omega) _ _).other (by omega) _ _).set 0 _).set 1 _)
              have hC : Chg (fun b => b = b0 ∨ b = b0 + 1) w6 Wf := by rw [hWf]; exact (((((Chg.refl _ _).setCell (.inl (.inl rfl)) _).setCell (.inl (.inl rfl)) _).setCell (.inl (.inr rfl)) _).setCell (.inl (.inr rfl)) _).drew
              obtain ⟨x0, x1⟩ := cells2 hR0
              obtain ⟨y0, y1⟩ := cells2 hR1
              obtain ⟨hl1, hl2, hl3, hl4⟩ := HWH.out
              rw [hl1, hl2, hl3, hl4]
              exact bodyPost_ret (v := .tuple #[.agg #[.int .i64 (-1), .int .i64 (-1)], .agg #[.int .i64 (T.frG h (T.fJ h (i + 1))), .int .i64 (T.frK h (T.fJ h (i + 1)))]]) (by simp [results, Tryz.results89, go_sem, x0, x1, y0, y1]) rfl
                ⟨by first | rfl | rw [← HX.out] | rw [HX.out], S6.out.t.chg hC (fun b h1 h2 => by rintro (e | e) <;> omega), S6.out.c.trans' hC (fun b hb e => by have := HB0.out; rcases e with e | e <;> omega)⟩
            | false =>
              rw [hop] at o1
              have HST := Lib.hid (stop_no (T := T) (key := key) (h := h) (g := T.wk h i) (by rw [HHT.out]; exact hzf1) (by rw [← HX.out]; exact hop))
              clear hop
              go_wp2_with (first
                | (go_at_call 132; (with_reducible refine (FI.out _ (KC.out.t.g x hx)).mono ?_); rintro e w5 ⟨rfl, hb5⟩; have S5 := Lib.hid (KC.out.later hb5))
                | (go_at_call 133; (with_reducible refine (CN.out _ (S5.out.t.g x hx)).mono ?_); rintro e w6 ⟨rfl, hb6⟩; have S6 := Lib.hid (S5.out.later hb6)))
              go_roundw
              case rel => exact ⟨i + 1, by omega, by go_num, S6.out, fun j hj => by
                by_cases e : j = i
                · subst e; exact HST.out
                · exact KM.out j (by omega)⟩
              case measure => simp [intOf]; omega
      · have hnew := fJ_no (T := T) (h := h) (i := i) (by rw [← HZ.out]; omega)
        have HN := Lib.hid hnew
        have hz1 : z < 0 := by omega
        clear hnew f0 f1
        go_upto_region 10 with (fail)
        refine wp_at (fun w4 hw4 => ?_)
        have KC := Lib.hid (show DWh w4 lo hi D P cap GB T (L + ((i + 1 : Nat) : Int)) b0 h (i + 1) (T.fJ h (i + 1)) (.slice (some ⟨b, off, none⟩) T.n ocap) ords w by
          rw [hw4, HN.out]
          exact ⟨S3.out.t, S3.out.r0, S3.out.r1, S3.out.a, S3.out.f, S3.out.l, S3.out.c⟩)
        replace hw4 := Lib.hid hw4
        clear S3 HN zf ff hz0 hz1
        have zG4 := (KC.out.t.g x hx).lt
        have FI := Lib.hid (fun (w' : World) (hd : DW w' (GB x) (T.M x) (T.S x)) => dfind_any (GB x) (T.M x) h (T.S x) key (HGD.out x hx) hh w' hd)
        rw [← find_doc (HGD.out x hx)] at FI
        have HHT : Hid (T.hit key h (T.wk h i) = findZ (T.S x) key (lanesL (equalB (T.M x) (h % 128)))) := Lib.hid (by rw [← HX.out]; rfl)
        generalize findZ (T.S x) key (lanesL (equalB (T.M x) (h % 128))) = zf at *
        by_cases hzf : 0 ≤ zf
        · go_upto_region 12 with (go_at_call 132; (with_reducible refine (FI.out _ (KC.out.t.g x hx)).mono ?_); rintro e w5 ⟨rfl, hb5⟩; have S5 := Lib.hid (KC.out.later hb5))
          have HWH := Lib.hid (where_hit hlt KM.out HHT.out hzf)
          obtain ⟨f0, f1⟩ := cells2 S5.out.f
          obtain ⟨a0, a1⟩ := cells2 S5.out.a
          have z0 := S5.out.r0.lt
          have z1 := S5.out.r1.lt
          have z2 := S5.out.a.lt
          have z3 := S5.out.f.lt
          have n0 := fun j => S5.out.r0.frozen j
          have n1' := fun j => S5.out.r1.frozen j
          obtain ⟨q0, q1⟩ := cells2 S5.out.r0
          obtain ⟨q2, q3⟩ := cells2 S5.out.r1
          refine wp_region_seq (fun b => b = b0 ∨ b = b0 + 1) #[⟨0, 0, 4611686018427387904, 2048, 0⟩, ⟨0, 0, 9223372036854775808, 16384, 0⟩, ⟨3, 3, 18446744073709551616, 13835058055282163712, 0⟩, ⟨0, 0, 36893488147419103232, 512, 1⟩, ⟨7, 7, 0, 18446744073709551680, 2⟩, ⟨31, 31, 0, 36893488147419103360, 3⟩] 8 [(0, 0), (1, 0), (2, 0), (3, 1), (4, 2), (5, 3)] (by kernel_rfl) (by kernel_rfl) (by kernel_rfl) (by kernel_rfl) (by kernel_rfl) (by kernel_rfl) (fun c a d v w h => by cases d <;> exact h) ?_
          refine seq_calcA (h := ?_)
          try simp only [Act.put, List.setIfInBounds_toArray, List.set_cons_zero, List.set_cons_succ]
          refine seq_calcA (h := ?_)
          try simp only [Act.put, List.setIfInBounds_toArray, List.set_cons_zero, List.set_cons_succ]
          refine seq_calcA (h := ?_)
          try simp only [Act.put, List.setIfInBounds_toArray, List.set_cons_zero, List.set_cons_succ]
          refine seq_loadsA [_, _] (hu := Tryz.underlying153) (h := ?_)
          try simp only [Act.put, List.setIfInBounds_toArray, List.set_cons_zero, List.set_cons_succ]
          refine seq_doA (h := fun K hK => ?_); go_wp2_with (fail); refine hkA hK (h := ?_); clear hK K
          try simp only [Act.put, List.setIfInBounds_toArray, List.set_cons_zero, List.set_cons_succ]
          refine seq_lastA (h := fun K hK => ?_); go_wp2_with (fail); refine hK.out _ _ ?_; clear hK K
          try simp only [Act.put, List.setIfInBounds_toArray, List.set_cons_zero, List.set_cons_succ]
          refine seq_nil ?_
          go_wp2
          refine wp_end_at (fun Wf hWf => ?_)
          have hR0 : Blk Wf b0 153 #[.int .i64 ((x : Int)), .int .i64 (zf)] := by rw [hWf]; exact Blk.drew ((((S5.out.r0.set 0 _).set 1 _).other (by omega) _ _).other (by omega) _ _)
          have hR1 : Blk Wf (b0 + 1) 153 #[.int .i64 (T.frG h (T.fJ h (i + 1))), .int .i64 (T.frK h (T.fJ h (i + 1)))] := by rw [hWf]; exact Blk.drew ((((S5.out.r1.other (by omega) _ _).other (by omega) _ _).set 0 _).set 1 _)
          have hC : Chg (fun b => b = b0 ∨ b = b0 + 1) w5 Wf := by rw [hWf]; exact (((((Chg.refl _ _).setCell (.inl (.inl rfl)) _).setCell (.inl (.inl rfl)) _).setCell (.inl (.inr rfl)) _).setCell (.inl (.inr rfl)) _).drew
          obtain ⟨x0, x1⟩ := cells2 hR0
          obtain ⟨y0, y1⟩ := cells2 hR1
          obtain ⟨hl1, hl2, hl3, hl4⟩ := HWH.out
          rw [hl1, hl2, hl3, hl4]
          exact bodyPost_ret (v := .tuple #[.agg #[.int .i64 ((x : Int)), .int .i64 (zf)], .agg #[.int .i64 (T.frG h (T.fJ h (i + 1))), .int .i64 (T.frK h (T.fJ h (i + 1)))]]) (by simp [results, Tryz.results89, go_sem, x0, x1, y0, y1]) rfl
            ⟨by first | rfl | rw [← HX.out] | rw [HX.out], S5.out.t.chg hC (fun b h1 h2 => by rintro (e | e) <;> omega), S5.out.c.trans' hC (fun b hb e => by have := HB0.out; rcases e with e | e <;> omega)⟩
        · have hzf1 : zf < 0 := by omega
          have CN := Lib.hid (fun (w' : World) (h : DW w' (GB x) (T.M x) (T.S x)) => dcount_any (GB x) (T.M x) 1 (T.S x) w' h)
          simp only [show ((1 : Nat) : Int) = 1 from rfl] at CN
          have o1 : decide (((countK (T.M x) 1 : Nat) : Int) > 0) = openB (T.M x) := by rw [open_count, Bool.eq_iff_iff]; simp
          generalize ((countK (T.M x) 1 : Nat) : Int) = n1 at CN o1
          cases hop : openB (T.M x) with
          | true =>
            rw [hop] at o1
            have HWH := Lib.hid (where_miss hlt KM.out (by rw [HHT.out]; exact hzf1) (by rw [← HX.out]; exact hop))
            clear hop
            go_upto_region 15 with (first
              | (go_at_call 132; (with_reducible refine (FI.out _ (KC.out.t.g x hx)).mono ?_); rintro e w5 ⟨rfl, hb5⟩; have S5 := Lib.hid (KC.out.later hb5))
              | (go_at_call 133; (with_reducible refine (CN.out _ (S5.out.t.g x hx)).mono ?_); rintro e w6 ⟨rfl, hb6⟩; have S6 := Lib.hid (S5.out.later hb6)))
            obtain ⟨f0, f1⟩ := cells2 S6.out.f
            obtain ⟨a0, a1⟩ := cells2 S6.out.a
            have z0 := S6.out.r0.lt
            have z1 := S6.out.r1.lt
            have z2 := S6.out.a.lt
            have z3 := S6.out.f.lt
            have n0 := fun j => S6.out.r0.frozen j
            have n1' := fun j => S6.out.r1.frozen j
            obtain ⟨q0, q1⟩ := cells2 S6.out.r0
            obtain ⟨q2, q3⟩ := cells2 S6.out.r1
            refine wp_region_seq (fun b => b = b0 ∨ b = b0 + 1) #[⟨0, 0, 1180591620717411303424, 256, 1⟩, ⟨0, 0, 2361183241434822606848, 512, 1⟩, ⟨1, 1, 0, 1180591620717411303488, 2⟩, ⟨7, 7, 0, 2361183241434822606976, 3⟩] 3 [(0, 1), (1, 1), (2, 2), (3, 3)] (by kernel_rfl) (by kernel_rfl) (by kernel_rfl) (by kernel_rfl) (by kernel_rfl) (by kernel_rfl) (fun c a d v w h => by cases d <;> exact h) ?_
            refine seq_loadsA [_, _] (hu := Tryz.underlying153) (h := ?_)
            try simp only [Act.put, List.setIfInBounds_toArray, List.set_cons_zero, List.set_cons_succ]
            refine seq_loadsA [_, _] (hu := Tryz.underlying153) (h := ?_)
            try simp only [Act.put, List.setIfInBounds_toArray, List.set_cons_zero, List.set_cons_succ]
            refine seq_doA (h := fun K hK => ?_); go_wp2_with (fail); refine hkA hK (h := ?_); clear hK K
            try simp only [Act.put, List.setIfInBounds_toArray, List.set_cons_zero, List.set_cons_succ]
            refine seq_lastA (h := fun K hK => ?_); go_wp2_with (fail); refine hK.out _ _ ?_; clear hK K
            try simp only [Act.put, List.setIfInBounds_toArray, List.set_cons_zero, List.set_cons_succ]
            refine seq_nil ?_
            go_wp2
            refine wp_end_at (fun Wf hWf => ?_)
            have hR0 : Blk Wf b0 153 #[.int .i64 (-1), .int .i64 (-1)] := by rw [hWf]; exact Blk.drew ((((S6.out.r0.set 0 _).set 1 _).other (by omega) _ _).other (by omega) _ _)
            have hR1 : Blk Wf (b0 + 1) 153 #[.int .i64 (T.frG h (T.fJ h (i + 1))), .int .i64 (T.frK h (T.fJ h (i + 1)))] := by rw [hWf]; exact Blk.drew ((((S6.out.r1.other (by omega) _ _).other (by omega) _ _).set 0 _).set 1 _)
            have hC : Chg (fun b => b = b0 ∨ b = b0 + 1) w6 Wf := by rw [hWf]; exact (((((Chg.refl _ _).setCell (.inl (.inl rfl)) _).setCell (.inl (.inl rfl)) _).setCell (.inl (.inr rfl)) _).setCell (.inl (.inr rfl)) _).drew
            obtain ⟨x0, x1⟩ := cells2 hR0
            obtain ⟨y0, y1⟩ := cells2 hR1
            obtain ⟨hl1, hl2, hl3, hl4⟩ := HWH.out
            rw [hl1, hl2, hl3, hl4]
            exact bodyPost_ret (v := .tuple #[.agg #[.int .i64 (-1), .int .i64 (-1)], .agg #[.int .i64 (T.frG h (T.fJ h (i + 1))), .int .i64 (T.frK h (T.fJ h (i + 1)))]]) (by simp [results, Tryz.results89, go_sem, x0, x1, y0, y1]) rfl
              ⟨by first | rfl | rw [← HX.out] | rw [HX.out], S6.out.t.chg hC (fun b h1 h2 => by rintro (e | e) <;> omega), S6.out.c.trans' hC (fun b hb e => by have := HB0.out; rcases e with e | e <;> omega)⟩
          | false =>
            rw [hop] at o1
            have HST := Lib.hid (stop_no (T := T) (key := key) (h := h) (g := T.wk h i) (by rw [HHT.out]; exact hzf1) (by rw [← HX.out]; exact hop))
            clear hop
            go_wp2_with (first
              | (go_at_call 132; (with_reducible refine (FI.out _ (KC.out.t.g x hx)).mono ?_); rintro e w5 ⟨rfl, hb5⟩; have S5 := Lib.hid (KC.out.later hb5))
              | (go_at_call 133; (with_reducible refine (CN.out _ (S5.out.t.g x hx)).mono ?_); rintro e w6 ⟨rfl, hb6⟩; have S6 := Lib.hid (S5.out.later hb6)))
            go_roundw
            case rel => exact ⟨i + 1, by omega, by go_num, S6.out, fun j hj => by
              by_cases e : j = i
              · subst e; exact HST.out
              · exact KM.out j (by omega)⟩
            case measure => simp [intOf]; omega
    · obtain rfl : i = T.n := by omega
      have HWH := Lib.hid (where_end (by omega) KM.out)
      have HX := Lib.hid (rfl : T.wk h 0 = T.wk h 0)
      go_upto_region 15 with (fail)
      obtain ⟨f0, f1⟩ := cells2 KS.out.f
      obtain ⟨a0, a1⟩ := cells2 KS.out.a
      have z0 := KS.out.r0.lt
      have z1 := KS.out.r1.lt
      have z2 := KS.out.a.lt
      have z3 := KS.out.f.lt
      have n0 := fun j => KS.out.r0.frozen j
      have n1' := fun j => KS.out.r1.frozen j
      obtain ⟨q0, q1⟩ := cells2 KS.out.r0
      obtain ⟨q2, q3⟩ := cells2 KS.out.r1
      refine wp_region_seq (fun b => b = b0 ∨ b = b0 + 1) #[⟨0, 0, 1180591620717411303424, 256, 1⟩, ⟨0, 0, 2361183241434822606848, 512, 1⟩, ⟨1, 1, 0, 1180591620717411303488, 2⟩, ⟨7, 7, 0, 2361183241434822606976, 3⟩] 3 [(0, 1), (1, 1), (2, 2), (3, 3)] (by kernel_rfl) (by kernel_rfl) (by kernel_rfl) (by kernel_rfl) (by kernel_rfl) (by kernel_rfl) (fun c a d v w h => by cases d <;> exact h) ?_
      refine seq_loadsA [_, _] (hu := Tryz.underlying153) (h := ?_)
      try simp only [Act.put, List.setIfInBounds_toArray, List.set_cons_zero, List.set_cons_succ]
      refine seq_loadsA [_, _] (hu := Tryz.underlying153) (h := ?_)
      try simp only [Act.put, List.setIfInBounds_toArray, List.set_cons_zero, List.set_cons_succ]
      refine seq_doA (h := fun K hK => ?_); go_wp2_with (fail); refine hkA hK (h := ?_); clear hK K
      try simp only [Act.put, List.setIfInBounds_toArray, List.set_cons_zero, List.set_cons_succ]
      refine seq_lastA (h := fun K hK => ?_); go_wp2_with (fail); refine hK.out _ _ ?_; clear hK K
      try simp only [Act.put, List.setIfInBounds_toArray, List.set_cons_zero, List.set_cons_succ]
      refine seq_nil ?_
      go_wp2
      refine wp_end_at (fun Wf hWf => ?_)
      have hR0 : Blk Wf b0 153 #[.int .i64 (-1), .int .i64 (-1)] := by rw [hWf]; exact Blk.drew ((((KS.out.r0.set 0 _).set 1 _).other (by omega) _ _).other (by omega) _ _)
      have hR1 : Blk Wf (b0 + 1) 153 #[.int .i64 (T.frG h (T.fJ h T.n)), .int .i64 (T.frK h (T.fJ h T.n))] := by rw [hWf]; exact Blk.drew ((((KS.out.r1.other (by omega) _ _).other (by omega) _ _).set 0 _).set 1 _)
      have hC : Chg (fun b => b = b0 ∨ b = b0 + 1) wr Wf := by rw [hWf]; exact (((((Chg.refl _ _).setCell (.inl (.inl rfl)) _).setCell (.inl (.inl rfl)) _).setCell (.inl (.inr rfl)) _).setCell (.inl (.inr rfl)) _).drew
      obtain ⟨x0, x1⟩ := cells2 hR0
      obtain ⟨y0, y1⟩ := cells2 hR1
      obtain ⟨hl1, hl2, hl3, hl4⟩ := HWH.out
      rw [hl1, hl2, hl3, hl4]
      exact bodyPost_ret (v := .tuple #[.agg #[.int .i64 (-1), .int .i64 (-1)], .agg #[.int .i64 (T.frG h (T.fJ h T.n)), .int .i64 (T.frK h (T.fJ h T.n))]]) (by simp [results, Tryz.results89, go_sem, x0, x1, y0, y1]) rfl
        ⟨by first | rfl | rw [← HX.out] | rw [HX.out], KS.out.t.chg hC (fun b h1 h2 => by rintro (e | e) <;> omega), KS.out.c.trans' hC (fun b hb e => by have := HB0.out; rcases e with e | e <;> omega)⟩
end Go.Proofs.YtcnkgiapidlbkaaGreatDoor

namespace Go.Proofs.YtcnkgiapidlbkaaGreatDoor
open Go.RowKit Go.Proofs
section
variable {w : World} {lo hi D P cap : Nat} {GB : Nat → Nat} {T : TabS} {L : Int}
set_option maxRecDepth 100000 in
set_option maxHeartbeats 4000000 in
theorem dtfind_any (hd : DT w lo hi D P cap GB T L) (hL : 0 ≤ L ∧ L ≤ 1000000000) (key : Int) (h : Nat) (hh : h < 18446744073709551616) :
    Calls Tryz.prog 59 #[.pointer (some ⟨D, 0, none⟩), .int .u64 key, .int .u64 (h : Int)] w fun e w' =>
      e = .returned (.tuple #[.agg #[.int .u64 (T.ent key h).key, .int .u64 (T.ent key h).val, .int .u64 (T.ent key h).hash], .bool (T.has key h)]) ∧ DT w' lo hi D P cap GB T (L + T.looks key h) ∧ Chg (fun b => b = D) w w' := by
  have WH := Lib.hid (fun (w' : World) (h' : DT w' lo hi D P cap GB T L) => dtwhere_any h' hL key h hh)
  have HD := Lib.hid hd
  have hhi := hd.hz
  obtain ⟨b0, hb0⟩ : ∃ b0, b0 = w.heap.size := ⟨_, rfl⟩
  cases hhas : T.has key h with
  | false =>
    have e1 : T.atG key h = -1 := by unfold TabS.atG; rw [hhas]; rfl
    have e2 : T.ent key h = EntS.zero := TFun.ent_not hhas
    rw [e1] at WH
    rw [e2]
    simp only [EntS.zero]
    generalize T.atK key h = ak at *
    generalize T.frG h (T.freeJ key h) = fg at *
    generalize T.frK h (T.freeJ key h) = fk at *
    have zD := hd.head.lt
    clear hd hhas e1 e2 hb0
    go_enter Tryz.func59, Tryz.ntmps59
    go_wp2_with (go_at_call 89; (with_reducible refine (WH.out _ (HD.out.alloc _)).mono ?_); rintro e w1 ⟨rfl, hd1, hc1⟩; have D1 := Lib.hid hd1; have C1 := Lib.hid hc1; have E1 := Lib.hid ((Blk.new w 41 #[.int .u64 0, .int .u64 0, .int .u64 0]).chg hc1 (by omega)); obtain ⟨e0, e1, e2⟩ := cells3 E1.out; have zE := E1.out.lt; have fE := fun j => E1.out.frozen j; clear hd1 hc1)
    refine wp_end_at (fun Wf hWf => ?_)
    have hC : Chg (fun b => b = w.heap.size) w1 Wf := by rw [hWf]; exact (((((Chg.refl _ _).set1 _ _).set1 _ _).set1 _ _).alloc _).alloc _
    have hR : Blk Wf w.heap.size 41 #[.int .u64 0, .int .u64 0, .int .u64 0] := by rw [hWf]; exact ((((E1.out.set 0 _).set 1 _).set 2 _).alloc _).alloc _
    obtain ⟨r0, r1, r2⟩ := cells3 hR
    exact bodyPost_ret (v := .tuple #[.agg #[.int .u64 0, .int .u64 0, .int .u64 0], .bool false]) (by simp [results, Tryz.results59, go_sem, r0, r1, r2]) rfl
      ⟨rfl, D1.out.chg hC (fun b h1 h2 => by omega), ((Chg.of_below (show Below w.heap.size w _ by go_grown)).trans C1.out).trans' hC (fun b hb e => by omega)⟩
  | true =>
    obtain ⟨k, hz, hk, hg, -⟩ := hd.good.at' hhas
    have e1 : T.atG key h = ((T.lastG key h : Nat) : Int) := by unfold TabS.atG; rw [if_pos hhas]
    have e2 : T.atK key h = (k : Int) := by unfold TabS.atK; rw [if_pos hhas, hz]
    have e3 : T.ent key h = T.S (T.lastG key h) k := by unfold TabS.ent; rw [hz, if_pos (by omega), Int.toNat_natCast]
    rw [e1, e2] at WH
    rw [e3]
    generalize T.lastG key h = x at *
    generalize T.frG h (T.freeJ key h) = fg at *
    generalize T.frK h (T.freeJ key h) = fk at *
    have zD := hd.head.lt
    have hkI : (k : Int) < 8 := by omega
    have hxI : (x : Int) < (T.n : Int) := by omega
    clear hd hhas e1 e2 e3 hz hb0
    go_enter Tryz.func59, Tryz.ntmps59
    go_upto_region 4 with (go_at_call 89; (with_reducible refine (WH.out _ (HD.out.alloc _)).mono ?_); rintro e w1 ⟨rfl, hd1, hc1⟩; have D1 := Lib.hid hd1; have C1 := Lib.hid hc1; have E1 := Lib.hid ((Blk.new w 41 #[.int .u64 0, .int .u64 0, .int .u64 0]).chg hc1 (by omega)); clear hd1 hc1)
    refine wp_at (fun w2 hw2 => ?_)
    have hB2 : Below w1.heap.size w1 w2 := by rw [hw2]; go_grown
    have D2 := Lib.hid (D1.out.later hB2)
    have E2 := Lib.hid (E1.out.below hB2 E1.out.lt)
    have C2 := Lib.hid (((Chg.of_below (show Below w.heap.size w _ by go_grown)).trans C1.out).thenBelow hB2)
    have A2 := Lib.hid (show Blk w2 w1.heap.size 153 #[.int .i64 (x : Int), .int .i64 (k : Int)] by rw [hw2]; exact (Blk.new _ _ _).alloc _)
    obtain ⟨e0, e1, e2⟩ := cells3 E2.out
    have zE := E2.out.lt
    have fE := fun j => E2.out.frozen j
    obtain ⟨a0, a1⟩ := cells2 A2.out
    have zA := A2.out.lt
    obtain ⟨d0, -, zD2, -⟩ := dcells D2.out
    have p0 := D2.out.ptr x hg
    have zP := D2.out.pz
    obtain ⟨-, g1, g2, g3⟩ := (D2.out.g x hg).cells k hk
    have zG := (D2.out.g x hg).lt
    have hzw : w.heap.size ≤ w1.heap.size := by have := C1.out.size; simp at this; omega
    have hGE : GB x ≠ w.heap.size := by have := (D2.out.ig x hg).2; omega
    have hPE : P ≠ w.heap.size := by have := D2.out.ip.2; omega
    have hAE : w1.heap.size ≠ w.heap.size := by have := E1.out.lt; omega
    have hDE : D ≠ w.heap.size := by omega
    replace hw2 := Lib.hid hw2
    clear hB2 E1 C1 D1
    refine wp_region_seq (fun b => b = w.heap.size) #[⟨0, 0, 2097152, 1, 0⟩, ⟨1, 1, 4194304, 2097152, 0⟩, ⟨2, 3, 8388608, 4194304, 0⟩, ⟨4, 7, 16777216, 8388608, 1⟩, ⟨0, 0, 33554432, 256, 0⟩, ⟨16, 16, 67108864, 33554432, 1⟩, ⟨40, 63, 134217728, 83886080, 0⟩, ⟨64, 127, 268435456, 134217728, 1⟩, ⟨0, 0, 536870912, 256, 0⟩, ⟨256, 256, 1073741824, 536870912, 1⟩, ⟨128, 255, 2147483648, 268435456, 0⟩, ⟨1024, 1279, 4294967296, 2147483648, 0⟩, ⟨2560, 4095, 8589934592, 5368709120, 0⟩, ⟨4096, 8191, 17179869184, 8589934592, 0⟩, ⟨8192, 16383, 34359738368, 17179869184, 1⟩, ⟨32767, 32767, 0, 34359738432, 3⟩, ⟨65535, 65535, 128, 0, 0⟩] 17064 [(0, 0), (1, 0), (2, 0), (3, 1), (4, 0), (5, 1), (6, 0), (7, 1), (8, 0), (9, 1), (10, 0), (11, 0), (12, 0), (13, 0), (14, 1), (15, 3), (16, 0)] (by kernel_rfl) (by kernel_rfl) (by kernel_rfl) (by kernel_rfl) (by kernel_rfl) (by kernel_rfl) (fun c a d v w h => by cases d <;> exact h) ?_
    refine seq_calcA (h := ?_)
    try simp only [Act.put, List.setIfInBounds_toArray, List.set_cons_zero, List.set_cons_succ]
    refine seq_calcA (h := ?_)
    try simp only [Act.put, List.setIfInBounds_toArray, List.set_cons_zero, List.set_cons_succ]
    refine seq_calcA (h := ?_)
    try simp only [Act.put, List.setIfInBounds_toArray, List.set_cons_zero, List.set_cons_succ]
    refine seq_load1A (hu := Tryz.underlying96) (h := ?_)
    try simp only [Act.put, List.setIfInBounds_toArray, List.set_cons_zero, List.set_cons_succ]
    refine seq_calcA (h := ?_)
    try simp only [Act.put, List.setIfInBounds_toArray, List.set_cons_zero, List.set_cons_succ]
    refine seq_load1A (hu := Tryz.underlying3) (h := ?_)
    try simp only [Act.put, List.setIfInBounds_toArray, List.set_cons_zero, List.set_cons_succ]
    refine seq_calcA (h := ?_)
    try simp only [Act.put, List.setIfInBounds_toArray, List.set_cons_zero, List.set_cons_succ]
    refine seq_load1A (hu := Tryz.underlying137) (h := ?_)
    try simp only [Act.put, List.setIfInBounds_toArray, List.set_cons_zero, List.set_cons_succ]
    refine seq_calcA (h := ?_)
    try simp only [Act.put, List.setIfInBounds_toArray, List.set_cons_zero, List.set_cons_succ]
    refine seq_load1A (hu := Tryz.underlying3) (h := ?_)
    try simp only [Act.put, List.setIfInBounds_toArray, List.set_cons_zero, List.set_cons_succ]
    refine seq_calcA (h := ?_)
    try simp only [Act.put, List.setIfInBounds_toArray, List.set_cons_zero, List.set_cons_succ]
    refine seq_calcA (h := ?_)
    try simp only [Act.put, List.setIfInBounds_toArray, List.set_cons_zero, List.set_cons_succ]
    refine seq_calcA (h := ?_)
    try simp only [Act.put, List.setIfInBounds_toArray, List.set_cons_zero, List.set_cons_succ]
    refine seq_calcA (h := ?_)
    try simp only [Act.put, List.setIfInBounds_toArray, List.set_cons_zero, List.set_cons_succ]
    refine seq_loadsA [_, _, _] (hu := Tryz.underlying41) (h := ?_)
    try simp only [Act.put, List.setIfInBounds_toArray, List.set_cons_zero, List.set_cons_succ]
    refine seq_lastA (h := fun K hK => ?_); go_wp2_with (fail); refine hK.out _ _ ?_; clear hK K
    try simp only [Act.put, List.setIfInBounds_toArray, List.set_cons_zero, List.set_cons_succ]
    refine seq_calcA (h := ?_)
    try simp only [Act.put, List.setIfInBounds_toArray, List.set_cons_zero, List.set_cons_succ]
    refine seq_nil ?_
    go_wp2
    refine wp_end_at (fun Wf hWf => ?_)
    have hC : Chg (fun b => b = w.heap.size) w2 Wf := by rw [hWf]; exact ((((Chg.refl _ _).set1 _ _).set1 _ _).set1 _ _).drew
    have hR : Blk Wf w.heap.size 41 #[.int .u64 (T.S x k).key, .int .u64 (T.S x k).val, .int .u64 (T.S x k).hash] := by rw [hWf]; exact Blk.drew (((E2.out.set 0 _).set 1 _).set 2 _)
    obtain ⟨r0, r1, r2⟩ := cells3 hR
    exact bodyPost_ret (v := .tuple #[.agg #[.int .u64 (T.S x k).key, .int .u64 (T.S x k).val, .int .u64 (T.S x k).hash], .bool true]) (by simp [results, Tryz.results59, go_sem, r0, r1, r2]) rfl
      ⟨rfl, D2.out.chg hC (fun b h1 h2 => by omega), C2.out.trans' hC (fun b hb e => by omega)⟩
set_option maxRecDepth 100000 in
set_option maxHeartbeats 4000000 in
theorem dtput_any (hd : DT w lo hi D P cap GB T L) (hL : 0 ≤ L ∧ L ≤ 1000000000) (key v : Int) (h : Nat) (hh : h < 18446744073709551616) :
    Calls Tryz.prog 46 #[.pointer (some ⟨D, 0, none⟩), .agg #[.int .u64 key, .int .u64 v, .int .u64 (h : Int)]] w fun e w' =>
      e = .returned (.tuple #[.bool (T.putB key h), .int .i64 ((T.putN key h : Nat) : Int)]) ∧ DT w' lo hi D P cap GB (T.putT key v h) (L + T.looks key h) ∧ Chg (fun b => lo ≤ b ∧ b < hi) w w' := by
  have WH := Lib.hid (fun (w' : World) (h' : DT w' lo hi D P cap GB T L) => dtwhere_any h' hL key h hh)
  have HD := Lib.hid hd
  have hhi := hd.hz
  have zD := hd.head.lt
  have HGD := Lib.hid hd.good
  cases hhas : T.has key h with
  | true =>
    obtain ⟨k, hz, hk, hg, hfl, -⟩ := hd.good.at' hhas
    have e1 : T.atG key h = ((T.lastG key h : Nat) : Int) := by unfold TabS.atG; rw [if_pos hhas]
    have e2 : T.atK key h = (k : Int) := by unfold TabS.atK; rw [if_pos hhas, hz]
    have e3 : T.putT key v h = T.setV (T.lastG key h) k v := by unfold TabS.putT; rw [if_pos hhas, hz, Int.toNat_natCast]
    have e4 : T.putB key h = false := by unfold TabS.putB; rw [hhas]; rfl
    have e5 : T.putN key h = 0 := by unfold TabS.putN; rw [if_pos (.inl hhas)]
    rw [e1, e2] at WH
    rw [e3, e4, e5]
    have ST := Lib.hid (fun (w' : World) (h' : DW w' (GB (T.lastG key h)) (T.M (T.lastG key h)) (T.S (T.lastG key h))) => dset_ok (GB (T.lastG key h)) (T.M (T.lastG key h)) k (T.S (T.lastG key h)) v hk hfl w' h')
    generalize T.lastG key h = x at *
    generalize T.frG h (T.freeJ key h) = fg at *
    generalize T.frK h (T.freeJ key h) = fk at *
    have hxI : (x : Int) < (T.n : Int) := by omega
    have hkI : (k : Int) < 8 := by omega
    clear hd hhas e1 e2 e3 e4 e5 hz hfl
    go_enter Tryz.func46, Tryz.ntmps46
    go_upto_region 3 with (go_at_call 89; (with_reducible refine (WH.out _ (HD.out.alloc _)).mono ?_); rintro e w1 ⟨rfl, hd1, hc1⟩; have D1 := Lib.hid hd1; have C1 := Lib.hid hc1; have E1 := Lib.hid ((Blk.new w 41 #[.int .u64 key, .int .u64 v, .int .u64 (h : Int)]).chg hc1 (by omega)); have q1 := cells3 E1.out; have q10 := q1.1; have q11 := q1.2.1; have q12 := q1.2.2; clear q1; have zE1 := E1.out.lt; clear hd1 hc1)
    refine wp_at (fun w2 hw2 => ?_)
    have hB2 : Below w1.heap.size w1 w2 := by rw [hw2]; go_grown
    have D2 := Lib.hid (D1.out.later hB2)
    have E2 := Lib.hid (E1.out.below hB2 E1.out.lt)
    have C2 := Lib.hid (((Chg.of_below (show Below w.heap.size w _ by go_grown)).trans C1.out).thenBelow hB2)
    have A2 := Lib.hid (show Blk w2 w1.heap.size 153 #[.int .i64 ((x : Int)), .int .i64 ((k : Int))] by rw [hw2]; exact (Blk.new _ _ _).alloc _)
    have F2 := Lib.hid (show Blk w2 (w1.heap.size + 1) 153 #[.int .i64 (fg), .int .i64 (fk)] by rw [hw2]; exact Blk.new_at (by simp))
    obtain ⟨e0, e1, e2⟩ := cells3 E2.out
    have zE := E2.out.lt
    obtain ⟨a0, a1⟩ := cells2 A2.out
    have zA := A2.out.lt
    obtain ⟨b0, b1⟩ := cells2 F2.out
    have zF := F2.out.lt
    obtain ⟨d0, -, zD2, -⟩ := dcells D2.out
    have zP := D2.out.pz
    have hiD := D2.out.id
    replace hw2 := Lib.hid hw2
    clear hB2 E1 C1 D1
    have p0 := D2.out.ptr x hg
    have hGx := (D2.out.ig x hg)
    refine wp_region_seq (fun _ => False) #[⟨0, 0, 1048576, 1, 0⟩, ⟨1, 1, 2097152, 1048576, 0⟩, ⟨2, 3, 4194304, 2097152, 0⟩, ⟨4, 7, 8388608, 4194304, 1⟩, ⟨0, 0, 16777216, 64, 0⟩, ⟨16, 16, 33554432, 16777216, 1⟩, ⟨40, 63, 67108864, 41943040, 0⟩, ⟨64, 127, 134217728, 67108864, 1⟩, ⟨0, 0, 268435456, 64, 0⟩, ⟨256, 256, 536870912, 268435456, 1⟩, ⟨0, 0, 1073741824, 8, 0⟩, ⟨1024, 1024, 2147483648, 1073741824, 1⟩, ⟨2688, 4095, 4294967296, 2818572288, 3⟩] 2728 [(0, 0), (1, 0), (2, 0), (3, 1), (4, 0), (5, 1), (6, 0), (7, 1), (8, 0), (9, 1), (10, 0), (11, 1), (12, 3)] (by kernel_rfl) (by kernel_rfl) (by kernel_rfl) (by kernel_rfl) (by kernel_rfl) (by kernel_rfl) (fun c a d v w h => by cases d <;> exact h) ?_
    refine seq_calcA (h := ?_)
    try simp only [Act.put, List.setIfInBounds_toArray, List.set_cons_zero, List.set_cons_succ]
    refine seq_calcA (h := ?_)
    try simp only [Act.put, List.setIfInBounds_toArray, List.set_cons_zero, List.set_cons_succ]
    refine seq_calcA (h := ?_)
    try simp only [Act.put, List.setIfInBounds_toArray, List.set_cons_zero, List.set_cons_succ]
    refine seq_load1A (hu := Tryz.underlying96) (h := ?_)
    try simp only [Act.put, List.setIfInBounds_toArray, List.set_cons_zero, List.set_cons_succ]
    refine seq_calcA (h := ?_)
    try simp only [Act.put, List.setIfInBounds_toArray, List.set_cons_zero, List.set_cons_succ]
    refine seq_load1A (hu := Tryz.underlying3) (h := ?_)
    try simp only [Act.put, List.setIfInBounds_toArray, List.set_cons_zero, List.set_cons_succ]
    refine seq_calcA (h := ?_)
    try simp only [Act.put, List.setIfInBounds_toArray, List.set_cons_zero, List.set_cons_succ]
    refine seq_load1A (hu := Tryz.underlying137) (h := ?_)
    try simp only [Act.put, List.setIfInBounds_toArray, List.set_cons_zero, List.set_cons_succ]
    refine seq_calcA (h := ?_)
    try simp only [Act.put, List.setIfInBounds_toArray, List.set_cons_zero, List.set_cons_succ]
    refine seq_load1A (hu := Tryz.underlying3) (h := ?_)
    try simp only [Act.put, List.setIfInBounds_toArray, List.set_cons_zero, List.set_cons_succ]
    refine seq_calcA (h := ?_)
    try simp only [Act.put, List.setIfInBounds_toArray, List.set_cons_zero, List.set_cons_succ]
    refine seq_load1A (hu := Tryz.underlying39) (h := ?_)
    try simp only [Act.put, List.setIfInBounds_toArray, List.set_cons_zero, List.set_cons_succ]
    refine seq_lastA (h := fun K hK => ?_); go_wp2_with (go_at_call 90; ((with_reducible refine (ST.out _ (D2.out.drew.g x hg)).mono ?_); rintro e w3 ⟨rfl, hg3, hc3⟩; have D3 := Lib.hid (D2.out.drew.group hg (T' := T.setV x k v) rfl (by rw [show (T.setV x k v).S x = putS (T.S x) k { T.S x k with val := v } from upd_same _ _ _]; exact hg3) hc3 (fun j hj => ⟨rfl, upd_other _ _ hj⟩) (HGD.out.setV hg v)); have C3 := Lib.hid (show Chg (fun b => lo ≤ b ∧ b < hi) w w3 from (C2.out.drew.mono (fun b _ e => by subst e; exact hiD)).trans (hc3.mono (fun b _ e => by subst e; exact hGx))); clear hg3)); refine hK.out _ _ ?_; clear hK K
    try simp only [Act.put, List.setIfInBounds_toArray, List.set_cons_zero, List.set_cons_succ]
    refine seq_nil ?_
    go_wp2
    go_ret2
    exact ⟨rfl, D3.out, C3.out⟩
  | false =>
    have e1 : T.atG key h = -1 := by unfold TabS.atG; rw [hhas]; rfl
    have LF := Lib.hid (fun (w' : World) (h' : DT w' lo hi D P cap GB T (L + T.looks key h)) => dtleft_any h')
    rw [e1] at WH
    generalize T.atK key h = ak at *
    cases hfr : T.freeJ key h with
    | none =>
      have hrm : T.room key h = false := by unfold TabS.room; rw [frK_is, hfr]; simp [TabS.frK]
      have e3 : T.putT key v h = T := by unfold TabS.putT; rw [hhas, hrm]; rfl
      have e4 : T.putB key h = false := by unfold TabS.putB; rw [hrm, Bool.and_false]
      have e5 : T.putN key h = 2 := by unfold TabS.putN; rw [hhas, hrm]; rfl
      rw [hfr, (frG_none T h).1] at WH
      generalize T.frK h none = fk at *
      rw [e3, e4, e5]
      have hiD := hd.id
      generalize T.left = left at *
      clear hd hhas e1 e3 e4 e5 hrm hfr
      by_cases hl : left < 1
      · go_enter Tryz.func46, Tryz.ntmps46
        go_upto_region 5 with (go_at_call 89; (with_reducible refine (WH.out _ (HD.out.alloc _)).mono ?_); rintro e w1 ⟨rfl, hd1, hc1⟩; have D1 := Lib.hid hd1; have C1 := Lib.hid hc1; have E1 := Lib.hid ((Blk.new w 41 #[.int .u64 key, .int .u64 v, .int .u64 (h : Int)]).chg hc1 (by omega)); have q1 := cells3 E1.out; have q10 := q1.1; have q11 := q1.2.1; have q12 := q1.2.2; clear q1; have zE1 := E1.out.lt; clear hd1 hc1)
        refine wp_at (fun w2 hw2 => ?_)
        have hB2 : Below w1.heap.size w1 w2 := by rw [hw2]; go_grown
        have D2 := Lib.hid (D1.out.later hB2)
        have E2 := Lib.hid (E1.out.below hB2 E1.out.lt)
        have C2 := Lib.hid (((Chg.of_below (show Below w.heap.size w _ by go_grown)).trans C1.out).thenBelow hB2)
        have A2 := Lib.hid (show Blk w2 w1.heap.size 153 #[.int .i64 (-1), .int .i64 (ak)] by rw [hw2]; exact (Blk.new _ _ _).alloc _)
        have F2 := Lib.hid (show Blk w2 (w1.heap.size + 1) 153 #[.int .i64 (-1), .int .i64 (fk)] by rw [hw2]; exact Blk.new_at (by simp))
        obtain ⟨e0, e1, e2⟩ := cells3 E2.out
        have zE := E2.out.lt
        obtain ⟨a0, a1⟩ := cells2 A2.out
        have zA := A2.out.lt
        obtain ⟨b0, b1⟩ := cells2 F2.out
        have zF := F2.out.lt
        obtain ⟨d0, -, zD2, -⟩ := dcells D2.out
        have zP := D2.out.pz
        have hiD := D2.out.id
        replace hw2 := Lib.hid hw2
        clear hB2 E1 C1 D1
        go_wp2_with (go_at_call 91; (with_reducible refine (LF.out _ D2.out).mono ?_); rintro e w3 ⟨rfl, hb3⟩)
        go_ret2
        exact ⟨rfl, D2.out.later hb3, (C2.out.mono (fun b _ e => by subst e; exact hiD)).thenBelow hb3⟩
      · have hl1 : 1 ≤ left := by omega
        go_enter Tryz.func46, Tryz.ntmps46
        go_upto_region 5 with (go_at_call 89; (with_reducible refine (WH.out _ (HD.out.alloc _)).mono ?_); rintro e w1 ⟨rfl, hd1, hc1⟩; have D1 := Lib.hid hd1; have C1 := Lib.hid hc1; have E1 := Lib.hid ((Blk.new w 41 #[.int .u64 key, .int .u64 v, .int .u64 (h : Int)]).chg hc1 (by omega)); have q1 := cells3 E1.out; have q10 := q1.1; have q11 := q1.2.1; have q12 := q1.2.2; clear q1; have zE1 := E1.out.lt; clear hd1 hc1)
        refine wp_at (fun w2 hw2 => ?_)
        have hB2 : Below w1.heap.size w1 w2 := by rw [hw2]; go_grown
        have D2 := Lib.hid (D1.out.later hB2)
        have E2 := Lib.hid (E1.out.below hB2 E1.out.lt)
        have C2 := Lib.hid (((Chg.of_below (show Below w.heap.size w _ by go_grown)).trans C1.out).thenBelow hB2)
        have A2 := Lib.hid (show Blk w2 w1.heap.size 153 #[.int .i64 (-1), .int .i64 (ak)] by rw [hw2]; exact (Blk.new _ _ _).alloc _)
        have F2 := Lib.hid (show Blk w2 (w1.heap.size + 1) 153 #[.int .i64 (-1), .int .i64 (fk)] by rw [hw2]; exact Blk.new_at (by simp))
        obtain ⟨e0, e1, e2⟩ := cells3 E2.out
        have zE := E2.out.lt
        obtain ⟨a0, a1⟩ := cells2 A2.out
        have zA := A2.out.lt
        obtain ⟨b0, b1⟩ := cells2 F2.out
        have zF := F2.out.lt
        obtain ⟨d0, -, zD2, -⟩ := dcells D2.out
        have zP := D2.out.pz
        have hiD := D2.out.id
        replace hw2 := Lib.hid hw2
        clear hB2 E1 C1 D1
        go_wp2_with (go_at_call 91; (with_reducible refine (LF.out _ D2.out).mono ?_); rintro e w3 ⟨rfl, hb3⟩; have F3 := F2.out.below hb3 F2.out.lt; have b30 := F3.cell 0; have zF3 := F3.lt)
        go_ret2
        exact ⟨rfl, D2.out.later hb3, (C2.out.mono (fun b _ e => by subst e; exact hiD)).thenBelow hb3⟩
    | some j =>
      have hz0 : 0 ≤ T.frZ key h := by rw [frK_is, hfr]; exact (firstJ_some (show firstJ _ _ = some j from hfr)).2.1
      obtain ⟨k, hz, hk, hg, hfl⟩ := hd.good.free' hz0
      have hfG : T.freeG key h = T.wk h j := by unfold TabS.freeG; rw [hfr]
      have hfK : T.frK h (some j) = (k : Int) := by rw [← hfr, ← frK_is, hz]
      rw [hfr, (frG_some T h j).1, hfK] at WH
      rw [hfG] at hg hfl
      have hrm : T.room key h = decide (1 ≤ T.left) := by unfold TabS.room; rw [hz]; simp
      by_cases hl : T.left < 1
      · have hrm' : T.room key h = false := by rw [hrm]; simp; omega
        have e3 : T.putT key v h = T := by unfold TabS.putT; rw [hhas, hrm']; rfl
        have e4 : T.putB key h = false := by unfold TabS.putB; rw [hrm', Bool.and_false]
        have e5 : T.putN key h = 2 := by unfold TabS.putN; rw [hhas, hrm']; rfl
        rw [e3, e4, e5]
        have hiD := hd.id
        generalize T.wk h j = x at *
        generalize T.left = left at *
        clear hd hhas e1 e3 e4 e5 hrm hrm' hfr hz hz0 hfG hfK hfl
        go_enter Tryz.func46, Tryz.ntmps46
        go_upto_region 5 with (go_at_call 89; (with_reducible refine (WH.out _ (HD.out.alloc _)).mono ?_); rintro e w1 ⟨rfl, hd1, hc1⟩; have D1 := Lib.hid hd1; have C1 := Lib.hid hc1; have E1 := Lib.hid ((Blk.new w 41 #[.int .u64 key, .int .u64 v, .int .u64 (h : Int)]).chg hc1 (by omega)); have q1 := cells3 E1.out; have q10 := q1.1; have q11 := q1.2.1; have q12 := q1.2.2; clear q1; have zE1 := E1.out.lt; clear hd1 hc1)
        refine wp_at (fun w2 hw2 => ?_)
        have hB2 : Below w1.heap.size w1 w2 := by rw [hw2]; go_grown
        have D2 := Lib.hid (D1.out.later hB2)
        have E2 := Lib.hid (E1.out.below hB2 E1.out.lt)
        have C2 := Lib.hid (((Chg.of_below (show Below w.heap.size w _ by go_grown)).trans C1.out).thenBelow hB2)
        have A2 := Lib.hid (show Blk w2 w1.heap.size 153 #[.int .i64 (-1), .int .i64 (ak)] by rw [hw2]; exact (Blk.new _ _ _).alloc _)
        have F2 := Lib.hid (show Blk w2 (w1.heap.size + 1) 153 #[.int .i64 (x), .int .i64 (k)] by rw [hw2]; exact Blk.new_at (by simp))
        obtain ⟨e0, e1, e2⟩ := cells3 E2.out
        have zE := E2.out.lt
        obtain ⟨a0, a1⟩ := cells2 A2.out
        have zA := A2.out.lt
        obtain ⟨b0, b1⟩ := cells2 F2.out
        have zF := F2.out.lt
        obtain ⟨d0, -, zD2, -⟩ := dcells D2.out
        have zP := D2.out.pz
        have hiD := D2.out.id
        replace hw2 := Lib.hid hw2
        clear hB2 E1 C1 D1
        go_wp2_with (go_at_call 91; (with_reducible refine (LF.out _ D2.out).mono ?_); rintro e w3 ⟨rfl, hb3⟩)
        go_ret2
        exact ⟨rfl, D2.out.later hb3, (C2.out.mono (fun b _ e => by subst e; exact hiD)).thenBelow hb3⟩
      · have hl1 : 1 ≤ T.left := by omega
        have hrm' : T.room key h = true := by rw [hrm]; simpa using hl1
        have e3 : T.putT key v h = T.ins (T.wk h j) k ⟨key, v, h⟩ h := by unfold TabS.putT; rw [hhas, hrm', hz, hfG, Int.toNat_natCast]; rfl
        have e4 : T.putB key h = true := by unfold TabS.putB; rw [hrm', hhas]; rfl
        have e5 : T.putN key h = 0 := by unfold TabS.putN; rw [if_pos (.inr hrm')]
        rw [e3, e4, e5]
        have PT := Lib.hid (fun (w' : World) (h' : DW w' (GB (T.wk h j)) (T.M (T.wk h j)) (T.S (T.wk h j))) => dput_ok (GB (T.wk h j)) (T.M (T.wk h j)) k h (T.S (T.wk h j)) key v hh hk hfl w' h')
        have HFL := Lib.hid hfl
        generalize T.wk h j = x at *
        have HLE := Lib.hid hl1
        obtain ⟨left, hle⟩ : ∃ left, left = T.left := ⟨_, rfl⟩
        rw [← hle] at LF hl1
        have hxI : (x : Int) < (T.n : Int) := by omega
        have hkI : (k : Int) < 8 := by omega
        clear hd hhas e1 e3 e4 e5 hrm hrm' hfr hz hz0 hfG hfK hfl hl hle
        go_enter Tryz.func46, Tryz.ntmps46
        go_upto_region 5 with (go_at_call 89; (with_reducible refine (WH.out _ (HD.out.alloc _)).mono ?_); rintro e w1 ⟨rfl, hd1, hc1⟩; have D1 := Lib.hid hd1; have C1 := Lib.hid hc1; have E1 := Lib.hid ((Blk.new w 41 #[.int .u64 key, .int .u64 v, .int .u64 (h : Int)]).chg hc1 (by omega)); have q1 := cells3 E1.out; have q10 := q1.1; have q11 := q1.2.1; have q12 := q1.2.2; clear q1; have zE1 := E1.out.lt; clear hd1 hc1)
        refine wp_at (fun w2 hw2 => ?_)
        have hB2 : Below w1.heap.size w1 w2 := by rw [hw2]; go_grown
        have D2 := Lib.hid (D1.out.later hB2)
        have E2 := Lib.hid (E1.out.below hB2 E1.out.lt)
        have C2 := Lib.hid (((Chg.of_below (show Below w.heap.size w _ by go_grown)).trans C1.out).thenBelow hB2)
        have A2 := Lib.hid (show Blk w2 w1.heap.size 153 #[.int .i64 (-1), .int .i64 (ak)] by rw [hw2]; exact (Blk.new _ _ _).alloc _)
        have F2 := Lib.hid (show Blk w2 (w1.heap.size + 1) 153 #[.int .i64 ((x : Int)), .int .i64 ((k : Int))] by rw [hw2]; exact Blk.new_at (by simp))
        obtain ⟨e0, e1, e2⟩ := cells3 E2.out
        have zE := E2.out.lt
        obtain ⟨a0, a1⟩ := cells2 A2.out
        have zA := A2.out.lt
        obtain ⟨b0, b1⟩ := cells2 F2.out
        have zF := F2.out.lt
        obtain ⟨d0, -, zD2, -⟩ := dcells D2.out
        have zP := D2.out.pz
        have hiD := D2.out.id
        replace hw2 := Lib.hid hw2
        clear hB2 E1 C1 D1
        go_upto_region 7 with (go_at_call 91; (with_reducible refine (LF.out _ D2.out).mono ?_); rintro e w3 ⟨rfl, hb3⟩; have D3 := Lib.hid (D2.out.later hb3); have E3 := Lib.hid (E2.out.below hb3 E2.out.lt); have F3 := Lib.hid (F2.out.below hb3 F2.out.lt); have C3 := Lib.hid (C2.out.thenBelow hb3); have b30 := F3.out.cell 0; have b31 := F3.out.cell 1; have zF3 := F3.out.lt; have e30 := E3.out.cell 0; have e31 := E3.out.cell 1; have e32 := E3.out.cell 2; have zE3 := E3.out.lt)
        obtain ⟨d30, -, zD3, -⟩ := dcells D3.out
        have p0 := D3.out.ptr x hg
        have zP3 := D3.out.pz
        have hGx := D3.out.ig x hg
        refine wp_region_seq (fun _ => False) #[⟨0, 0, 2199023255552, 1, 0⟩, ⟨1, 1, 4398046511104, 2199023255552, 0⟩, ⟨2, 3, 8796093022208, 4398046511104, 0⟩, ⟨4, 7, 17592186044416, 8796093022208, 1⟩, ⟨0, 0, 35184372088832, 128, 0⟩, ⟨16, 16, 70368744177664, 35184372088832, 1⟩, ⟨40, 63, 140737488355328, 87960930222080, 0⟩, ⟨64, 127, 281474976710656, 140737488355328, 1⟩, ⟨0, 0, 562949953421312, 128, 0⟩, ⟨256, 256, 1125899906842624, 562949953421312, 1⟩, ⟨0, 0, 2251799813685248, 8, 1⟩, ⟨1664, 2047, 4503599627370496, 3659174697238528, 3⟩] 1704 [(0, 0), (1, 0), (2, 0), (3, 1), (4, 0), (5, 1), (6, 0), (7, 1), (8, 0), (9, 1), (10, 1), (11, 3)] (by kernel_rfl) (by kernel_rfl) (by kernel_rfl) (by kernel_rfl) (by kernel_rfl) (by kernel_rfl) (fun c a d v w h => by cases d <;> exact h) ?_
        refine seq_calcA (h := ?_)
        try simp only [Act.put, List.setIfInBounds_toArray, List.set_cons_zero, List.set_cons_succ]
        refine seq_calcA (h := ?_)
        try simp only [Act.put, List.setIfInBounds_toArray, List.set_cons_zero, List.set_cons_succ]
        refine seq_calcA (h := ?_)
        try simp only [Act.put, List.setIfInBounds_toArray, List.set_cons_zero, List.set_cons_succ]
        refine seq_load1A (hu := Tryz.underlying96) (h := ?_)
        try simp only [Act.put, List.setIfInBounds_toArray, List.set_cons_zero, List.set_cons_succ]
        refine seq_calcA (h := ?_)
        try simp only [Act.put, List.setIfInBounds_toArray, List.set_cons_zero, List.set_cons_succ]
        refine seq_load1A (hu := Tryz.underlying3) (h := ?_)
        try simp only [Act.put, List.setIfInBounds_toArray, List.set_cons_zero, List.set_cons_succ]
        refine seq_calcA (h := ?_)
        try simp only [Act.put, List.setIfInBounds_toArray, List.set_cons_zero, List.set_cons_succ]
        refine seq_load1A (hu := Tryz.underlying137) (h := ?_)
        try simp only [Act.put, List.setIfInBounds_toArray, List.set_cons_zero, List.set_cons_succ]
        refine seq_calcA (h := ?_)
        try simp only [Act.put, List.setIfInBounds_toArray, List.set_cons_zero, List.set_cons_succ]
        refine seq_load1A (hu := Tryz.underlying3) (h := ?_)
        try simp only [Act.put, List.setIfInBounds_toArray, List.set_cons_zero, List.set_cons_succ]
        refine seq_loadsA [_, _, _] (hu := Tryz.underlying41) (h := ?_)
        try simp only [Act.put, List.setIfInBounds_toArray, List.set_cons_zero, List.set_cons_succ]
        refine seq_lastA (h := fun K hK => ?_); go_wp2_with (go_at_call 92; ((with_reducible refine (PT.out _ (D3.out.drew.g x hg)).mono ?_); rintro e w4 ⟨rfl, hg4, hc4⟩; have D4 := Lib.hid (D3.out.drew.group hg (T' := T.ins x k ⟨key, v, h⟩ h) rfl (by rw [show (T.ins x k ⟨key, v, h⟩ h).M x = setL (T.M x) k (h % 128) from upd_same _ _ _, show (T.ins x k ⟨key, v, h⟩ h).S x = putS (T.S x) k ⟨key, v, h⟩ from upd_same _ _ _]; exact hg4) hc4 (fun j hj => ⟨upd_other _ _ hj, upd_other _ _ hj⟩) (HGD.out.ins hg hk HFL.out key v hh)); have C4 := Lib.hid (show Chg (fun b => lo ≤ b ∧ b < hi) w w4 from (C3.out.drew.mono (fun b _ e => by subst e; exact hiD)).trans (hc4.mono (fun b _ e => by subst e; exact hGx))); clear hg4)); refine hK.out _ _ ?_; clear hK K
        try simp only [Act.put, List.setIfInBounds_toArray, List.set_cons_zero, List.set_cons_succ]
        refine seq_nil ?_
        go_wp2
        go_ret2
        exact ⟨rfl, D4.out, C4.out⟩
end
end Go.Proofs.YtcnkgiapidlbkaaGreatDoor
