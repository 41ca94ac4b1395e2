/- DualSteps, as the card states it: for every input the law answers true, and each argument reads as it did. No condition but the row's. -/
import Derived.Test.YtcbpiecloikkiaaDoorCards
import Derived.Test.YtcbpiecloikkiaaDoorTie
import Derived.WalkKit
import Derived.ProofKit
import Derived.OpenShut
import Derived.Deep.DeepHandedRow
import Derived.Deep.DeepWitnessRowRef
import Derived.LaidLaws
import Derived.ChangeMaps5
import Derived.Test.YtcbpiecloikkiaaDoorPkSwar
import Derived.Test.YtcbpiecloikkiaaDoorPkMeter
import Derived.Test.YtcbpiecloikkiaaDoorPkErrs
import Derived.Test.YtcbpiecloikkiaaDoorPkGroup
import Derived.Test.YtcbpiecloikkiaaDoorPkTab
import Derived.Test.YtcbpiecloikkiaaDoorPkTab2
import Derived.Test.YtcbpiecloikkiaaDoorPkTab3
import Derived.Test.YtcbpiecloikkiaaDoorPkTake
import Derived.Test.YtcbpiecloikkiaaDoorPkTabM
import Derived.Test.YtcbpiecloikkiaaDoorPkBuild
import Derived.Test.YtcbpiecloikkiaaDoorPkEvac
import Derived.Test.YtcbpiecloikkiaaDoorPkRef09
import Derived.Test.YtcbpiecloikkiaaDoorPkEvac2
import Derived.Test.YtcbpiecloikkiaaDoorPkActs
import Derived.Test.YtcbpiecloikkiaaDoorPkDual1
import Derived.Test.YtcbpiecloikkiaaDoorPkDual2
import Derived.Test.YtcbpiecloikkiaaDoorPkDual3
import Derived.Test.YtcbpiecloikkiaaDoorPkDualSteps
namespace Go.Proofs.YtcbpiecloikkiaaDoor.dualSteps
set_option linter.unusedVariables false
set_option linter.unusedSimpArgs false
open Go.ChangeShapes Go.WideShapes Go.ChangeAt Go.RowKit Go.Proofs.YtcbpiecloikkiaaDoor

theorem own : ownKnob Tryd.prog.godebug = none := by kernel_rfl

set_option maxRecDepth 100000 in
theorem contract (H : Type) (enc : TypeId × Value → H) (W : World) (base : Nat) (args : Array Value) (ds gs : List (DataW H)) (before : List MemPlace)
    (hval : ∀ (j : Nat) t v, Tryd.f4.params[j]? = some t → args[j]? = some v → Value.okWide Tryd.prog W .any base t v)
    (hW : DataW.Whole enc Tryd.prog Tryd.f4.params.toList Rows.dualStepsSpec.vars false W args.toList ds gs before) (hL : laidMetH Tryd.prog Rows.dualStepsRow.laid W) :
    Calls Tryd.prog 4 args W fun e W' => ∃ v, e = .returned v ∧ Rows.dualStepsSpec.post enc Tryd.prog Tryd.f4 false true false false W args v W' := by
  have hW' := hW
  obtain ⟨p, q, hA0, hV, rfl, hfz, hnd⟩ := hW
  have hA : DataW.TrodAll enc Tryd.prog W 0 (fun _ => true) true Tryd.f4.params.toList args.toList ds p := hA0
  rw [Tryd.params4] at hA hval
  obtain ⟨v0, vs0, d0, ds0, p0, q0, hargs, rfl, rfl, h0, r0⟩ := trodAll_cons hA
  obtain ⟨v1, vs1, d1, ds1, p1, q1, rfl, rfl, rfl, h1, r1⟩ := trodAll_cons r0
  obtain ⟨rfl, rfl, rfl⟩ := trodAll_nil r1
  obtain rfl : args = #[v0, v1] := by cases args; simp_all
  obtain ⟨rfl, rfl⟩ := trodVars_none hV
  have ok0 := hval 0 38 v0 rfl rfl
  obtain ⟨cs0, rfl, hz0, hrow0⟩ := okWide_row (by kernel_rfl) ok0
  have hsz0 : cs0.size = 5 := hz0.trans (by kernel_rfl)
  obtain ⟨x0_0, e0_0, ok0_0⟩ := row_cell (ts := [3, 3, 3, 35, 36]) (u := 3) hrow0 (by kernel_rfl) 0 (by omega) (by decide) rfl
  obtain ⟨a0_0, rfl, w0_0⟩ := cell_int Tryd.underlying3 ok0_0
  obtain ⟨x0_1, e0_1, ok0_1⟩ := row_cell (ts := [3, 3, 3, 35, 36]) (u := 3) hrow0 (by kernel_rfl) 1 (by omega) (by decide) rfl
  obtain ⟨a0_1, rfl, w0_1⟩ := cell_int Tryd.underlying3 ok0_1
  obtain ⟨x0_2, e0_2, ok0_2⟩ := row_cell (ts := [3, 3, 3, 35, 36]) (u := 3) hrow0 (by kernel_rfl) 2 (by omega) (by decide) rfl
  obtain ⟨a0_2, rfl, w0_2⟩ := cell_int Tryd.underlying3 ok0_2
  obtain ⟨s0_3, len0_3, cap0_3, g0_3, e0_3, R0_3⟩ := field_ints (kd := .u64) Tryd.underlying38 (by kernel_rfl) h0 (by kernel_rfl) 3 _ rfl Tryd.underlying35 Tryd.underlying51 (by kernel_rfl)
  obtain ⟨s0_4, len0_4, cap0_4, g0_4, e0_4, R0_4⟩ := field_ints (kd := .i64) Tryd.underlying38 (by kernel_rfl) h0 (by kernel_rfl) 4 _ rfl Tryd.underlying36 Tryd.underlying3 (by kernel_rfl)
  obtain rfl : cs0 = #[.int .i64 a0_0, .int .i64 a0_1, .int .i64 a0_2, .slice s0_3 len0_3 cap0_3, .slice s0_4 len0_4 cap0_4] := by
    apply Array.ext (by simpa using hsz0)
    intro i h1 h2
    have hi : i < 5 := by omega
    apply Option.some.inj; rw [← Array.getElem?_eq_getElem h1, ← Array.getElem?_eq_getElem h2]
    match i, hi with
    | 0, _ => exact e0_0
    | 1, _ => exact e0_1
    | 2, _ => exact e0_2
    | 3, _ => exact e0_3
    | 4, _ => exact e0_4
  obtain ⟨a1, len1, cap1, rfl⟩ := okWide_slice Tryd.underlying39 (hval 1 39 v1 rfl rfl)
  have walk : Calls Tryd.prog 4 #[.agg #[.int .i64 a0_0, .int .i64 a0_1, .int .i64 a0_2, .slice s0_3 len0_3 cap0_3, .slice s0_4 len0_4 cap0_4], .slice a1 len1 cap1] W fun e w' => e = .returned (.bool true) ∧ Below W.heap.size W w' := by
    obtain ⟨E, hE⟩ := ec_of [1, 2, 3, 4, 5, 10, 11, 14, 16] 9 (by decide) (laid_tail (show laidMet Tryd.prog Rows.dualStepsRow.laid W from hL)) (.cons (err_row _ _ _ _ _ (by kernel_rfl) (by kernel_rfl)) (.cons (err_row _ _ _ _ _ (by kernel_rfl) (by kernel_rfl)) (.cons (err_row _ _ _ _ _ (by kernel_rfl) (by kernel_rfl)) (.cons (err_row _ _ _ _ _ (by kernel_rfl) (by kernel_rfl)) (.cons (err_row _ _ _ _ _ (by kernel_rfl) (by kernel_rfl)) (.cons (err_row _ _ _ _ _ (by kernel_rfl) (by kernel_rfl)) (.cons (err_row _ _ _ _ _ (by kernel_rfl) (by kernel_rfl)) (.cons (err_row _ _ _ _ _ (by kernel_rfl) (by kernel_rfl)) (.cons (err_row _ _ _ _ _ (by kernel_rfl) (by kernel_rfl)) (.nil))))))))))
    obtain ⟨f2, hR2⟩ := rowsAt_of' Tryd.underlying39 Tryd.underlying59 (by kernel_rfl) (by kernel_rfl) (by decide) (by kernel_rfl) h1
    exact dualSteps_any a0_0 a0_1 a0_2 _ _ _ _ _ _ (fun i _ => g0_3 i) (fun i _ => g0_4 i) f2 E W (hE.sub (by decide)) (tab64_of hL (by simp [Rows.dualStepsRow])) R0_3 R0_4 hR2
  refine walk.mono fun e W' ⟨he, hB⟩ => ⟨_, he, ?_⟩
  exact law_post (s := Rows.dualStepsSpec) (tb := 4) hW' (by kernel_rfl) (by rw [Tryd.params4]; decide +kernel) rfl rfl Tryd.underlying4 rfl hB

theorem lowIs (os : Os) : (World.settled Tryd.prog os).heap.size = 22 := by kernel_rfl
noncomputable def laidWorld (os : Os) : World := { World.holding Tryd.prog os ⟨#[.cells #[.string ⟨#[97, 32, 110, 117, 109, 98, 101, 114, 32, 105, 115, 32, 111, 117, 116, 32, 111, 102, 32, 105, 116, 115, 32, 114, 97, 110, 103, 101]⟩] 197 (0, 0), .cells #[.string ⟨#[116, 104, 101, 114, 101, 32, 105, 115, 32, 110, 111, 32, 109, 111, 114, 101, 32, 114, 111, 111, 109]⟩] 197 (0, 0), .cells #[.string ⟨#[105, 116, 32, 105, 115, 32, 110, 111, 116, 32, 111, 102, 32, 105, 116, 115, 32, 102, 111, 114, 109]⟩] 197 (0, 0), .cells #[.string ⟨#[116, 104, 101, 114, 101, 32, 105, 115, 32, 110, 111, 110, 101]⟩] 197 (0, 0), .cells #[.string ⟨#[105, 116, 32, 99, 97, 110, 32, 110, 111, 116, 32, 98, 101, 32, 100, 111, 110, 101, 32, 105, 110, 32, 116, 104, 105, 115, 32, 115, 116, 97, 116, 101]⟩] 197 (0, 0), .cells #[.string ⟨#[115, 111, 109, 101, 116, 104, 105, 110, 103, 32, 116, 104, 97, 116, 32, 109, 117, 115, 116, 32, 98, 101, 32, 115, 111, 32, 105, 115, 32, 110, 111, 116]⟩] 197 (0, 0), .cells #[.string ⟨#[97, 32, 108, 105, 109, 105, 116, 32, 105, 115, 32, 112, 97, 115, 115, 101, 100]⟩] 197 (0, 0), .cells #[.string ⟨#[105, 116, 32, 105, 115, 32, 111, 102, 32, 97, 110, 111, 116, 104, 101, 114, 32, 107, 105, 110, 100]⟩] 197 (0, 0), .cells #[.string ⟨#[105, 116, 32, 105, 115, 32, 116, 104, 101, 114, 101, 32, 97, 108, 114, 101, 97, 100, 121]⟩] 197 (0, 0)], #[], []⟩ with heap := (((((((((((World.holding Tryd.prog os ⟨#[.cells #[.string ⟨#[97, 32, 110, 117, 109, 98, 101, 114, 32, 105, 115, 32, 111, 117, 116, 32, 111, 102, 32, 105, 116, 115, 32, 114, 97, 110, 103, 101]⟩] 197 (0, 0), .cells #[.string ⟨#[116, 104, 101, 114, 101, 32, 105, 115, 32, 110, 111, 32, 109, 111, 114, 101, 32, 114, 111, 111, 109]⟩] 197 (0, 0), .cells #[.string ⟨#[105, 116, 32, 105, 115, 32, 110, 111, 116, 32, 111, 102, 32, 105, 116, 115, 32, 102, 111, 114, 109]⟩] 197 (0, 0), .cells #[.string ⟨#[116, 104, 101, 114, 101, 32, 105, 115, 32, 110, 111, 110, 101]⟩] 197 (0, 0), .cells #[.string ⟨#[105, 116, 32, 99, 97, 110, 32, 110, 111, 116, 32, 98, 101, 32, 100, 111, 110, 101, 32, 105, 110, 32, 116, 104, 105, 115, 32, 115, 116, 97, 116, 101]⟩] 197 (0, 0), .cells #[.string ⟨#[115, 111, 109, 101, 116, 104, 105, 110, 103, 32, 116, 104, 97, 116, 32, 109, 117, 115, 116, 32, 98, 101, 32, 115, 111, 32, 105, 115, 32, 110, 111, 116]⟩] 197 (0, 0), .cells #[.string ⟨#[97, 32, 108, 105, 109, 105, 116, 32, 105, 115, 32, 112, 97, 115, 115, 101, 100]⟩] 197 (0, 0), .cells #[.string ⟨#[105, 116, 32, 105, 115, 32, 111, 102, 32, 97, 110, 111, 116, 104, 101, 114, 32, 107, 105, 110, 100]⟩] 197 (0, 0), .cells #[.string ⟨#[105, 116, 32, 105, 115, 32, 116, 104, 101, 114, 101, 32, 97, 108, 114, 101, 97, 100, 121]⟩] 197 (0, 0)], #[], []⟩).heap.modify 16 fun | .cells _ t fr => .cells #[.int .u8 0, .int .u8 1, .int .u8 56, .int .u8 2, .int .u8 57, .int .u8 49, .int .u8 28, .int .u8 3, .int .u8 61, .int .u8 58, .int .u8 42, .int .u8 50, .int .u8 38, .int .u8 29, .int .u8 17, .int .u8 4, .int .u8 62, .int .u8 47, .int .u8 59, .int .u8 36, .int .u8 45, .int .u8 43, .int .u8 51, .int .u8 22, .int .u8 53, .int .u8 39, .int .u8 33, .int .u8 30, .int .u8 24, .int .u8 18, .int .u8 12, .int .u8 5, .int .u8 63, .int .u8 55, .int .u8 48, .int .u8 27, .int .u8 60, .int .u8 41, .int .u8 37, .int .u8 16, .int .u8 46, .int .u8 35, .int .u8 44, .int .u8 21, .int .u8 52, .int .u8 32, .int .u8 23, .int .u8 11, .int .u8 54, .int .u8 26, .int .u8 40, .int .u8 15, .int .u8 34, .int .u8 20, .int .u8 31, .int .u8 10, .int .u8 25, .int .u8 14, .int .u8 19, .int .u8 9, .int .u8 13, .int .u8 8, .int .u8 7, .int .u8 6] t fr | o => o).modify 1 fun | .cells _ t fr => .cells #[.iface 172 (.pointer (some ⟨22, 0, none⟩))] t fr | o => o).modify 2 fun | .cells _ t fr => .cells #[.iface 172 (.pointer (some ⟨23, 0, none⟩))] t fr | o => o).modify 3 fun | .cells _ t fr => .cells #[.iface 172 (.pointer (some ⟨24, 0, none⟩))] t fr | o => o).modify 0 fun | .cells _ t fr => .cells #[.iface 172 (.pointer (some ⟨25, 0, none⟩))] t fr | o => o).modify 4 fun | .cells _ t fr => .cells #[.iface 172 (.pointer (some ⟨26, 0, none⟩))] t fr | o => o).modify 9 fun | .cells _ t fr => .cells #[.iface 172 (.pointer (some ⟨27, 0, none⟩))] t fr | o => o).modify 10 fun | .cells _ t fr => .cells #[.iface 172 (.pointer (some ⟨28, 0, none⟩))] t fr | o => o).modify 13 fun | .cells _ t fr => .cells #[.iface 172 (.pointer (some ⟨29, 0, none⟩))] t fr | o => o).modify 15 fun | .cells _ t fr => .cells #[.iface 172 (.pointer (some ⟨30, 0, none⟩))] t fr | o => o) }
theorem laid_met (os : Os) : laidMet Tryd.prog Rows.dualStepsRow.laid ((laidWorld os).forCall (fun _ _ => 0) ⟨#[], #[.agg #[.int .i64 0, .int .i64 0, .int .i64 0, .slice none 0 0, .slice none 0 0], .slice none 0 0], []⟩).memory := laidMet_of_run' 8 (by kernel_rfl) (by kernel_rfl)
theorem reads (os : Os) {H : Type} (enc : TypeId × Value → H) : ∃ places, DataW.whole enc Tryd.prog ((laidWorld os).forCall (fun _ _ => 0) ⟨#[], #[.agg #[.int .i64 0, .int .i64 0, .int .i64 0, .slice none 0 0, .slice none 0 0], .slice none 0 0], []⟩).memory Tryd.f4.params.toList Rows.dualStepsSpec.vars false (#[.agg #[.int .i64 0, .int .i64 0, .int .i64 0, .slice none 0 0, .slice none 0 0], .slice none 0 0] : Array Value).toList 8 = some ([.agg [.lit (.int .i64 0), .lit (.int .i64 0), .lit (.int .i64 0), .nil, .nil], .nil], [], places) :=
  ⟨[], by kernel_rfl⟩

set_option maxRecDepth 100000 in
theorem lifted (os : Os) (started : os.Started) (H : Type) (enc : TypeId × Value → H) (F : Stop.Interp) :
    ReturnsInHanded {} Tryd.checked os 4 .any ((OpenSpec.ofChange Rows.dualStepsSpec).preRow enc Tryd.prog Tryd.f4 Rows.dualStepsRow.domain false Rows.dualStepsRow.laid) (((OpenSpec.ofChange Rows.dualStepsSpec).at F).post enc Tryd.prog Tryd.f4 false true false false) := by
  obtain ⟨places, hx⟩ := reads os enc
  refine returnsInHanded_of_row (C := Tryd.checked) (s := OpenSpec.ofChange Rows.dualStepsSpec) own started (by kernel_rfl) Tryd.func4
    (witness_row_atRef (enc := enc) (C := Tryd.checked) false (laidWorld os) #[.agg #[.int .i64 0, .int .i64 0, .int .i64 0, .slice none 0 0, .slice none 0 0], .slice none 0 0] rfl (by kernel_rfl) (by kernel_rfl) (by kernel_rfl)
      (OpenSpec.preRow_of_cond 8 hx (by kernel_rfl) (fun k hk => by cases hk) (by kernel_rfl) (laid_met os))) ?_
  intro W base args ds gs before hval hW _ _ _ hL _ _
  exact contract H enc W base args ds gs before hval hW hL

theorem said : Rows.DualStepsSaid :=
  OpenClaim.holds_of_cond 4 Tryd.f4 rfl rfl rfl rfl rfl rfl rfl ⟨rfl, rfl, rfl, rfl, rfl⟩ rfl rfl rfl rfl rfl (by kernel_rfl) Tryd.func4 (by kernel_rfl)
    (of_decide_eq_true (by kernel_rfl)) (by unfold Func.isWrapper; first | (rw [if_pos (by decide +kernel)]; kernel_rfl) | (rw [if_neg (by decide +kernel)]; exact ⟨rfl, rfl⟩))
    (fun os started H enc _ F => by rw [OpenClaim.pre_eq_preRow]; exact lifted os started H enc F)

theorem plain (f : FuncId) (fn : Func) (hf : Tryd.pinned.checked.prog.funcNamed "ambler/amblerlaw13.DualSteps" = some f) (hfn : Tryd.pinned.checked.prog.funcs[f]? = some fn) :
    true = Tryd.pinned.checked.prog.looks [] ∧ ∀ (j : Nat) t, fn.params[j]? = some t → Tryd.pinned.checked.prog.wantsStandIn t = false := by
  obtain rfl : f = 4 := Option.some.inj ((show Tryd.prog.funcNamed "ambler/amblerlaw13.DualSteps" = some 4 by kernel_rfl).symm.trans hf) |>.symm
  obtain rfl : fn = Tryd.f4 := (Option.some.inj (Tryd.func4.symm.trans hfn)).symm
  refine ⟨by kernel_rfl, fun j t ht => ?_⟩
  rw [Tryd.params4] at ht
  have hm := Array.mem_of_getElem? ht
  have all : ∀ t ∈ (#[38, 39] : Array TypeId), Tryd.prog.wantsStandIn t = false := by decide +kernel
  exact all t hm

theorem card : Rows.DualStepsCardSaid :=
  Claim7.holds_tied_plain_at .later [] _ _ _ _ said (fun _ h => by cases h) (by kernel_rfl) (fun _ h => by cases h) dualSteps_row_tie rfl ⟨rfl, rfl⟩ (by kernel_rfl) rfl plain (by kernel_rfl)
end Go.Proofs.YtcbpiecloikkiaaDoor.dualSteps
