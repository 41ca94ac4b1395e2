/- NodeActs, as the card states it: for every input the law answers true, and each argument reads as it did. No condition but the row's. -/
import Derived.Test.YtolhmibejhldkaaGreatDoorCards
import Derived.Test.YtolhmibejhldkaaGreatDoorTie
import Derived.WalkKit
import Derived.ProofKit
import Derived.OpenShut
import Derived.Deep.DeepHandedRow
import Derived.Deep.DeepWitnessRowRef
import Derived.LaidLaws
import Derived.ChangeMaps5
import Derived.Test.YtolhmibejhldkaaGreatDoorPkNodeActs
namespace Go.Proofs.YtolhmibejhldkaaGreatDoor.nodeActs
set_option linter.unusedVariables false
set_option linter.unusedSimpArgs false
open Go.ChangeShapes Go.WideShapes Go.ChangeAt Go.RowKit Go.Proofs.YtolhmibejhldkaaGreatDoor

theorem own : ownKnob Tryz.prog.godebug = none := by kernel_rfl

set_option maxRecDepth 100000 in
theorem contract (H : Type) (enc : TypeId × Value → H) (W : World) (base : Nat) (args : Array Value) (ds gs : List (DataW H)) (before : List MemPlace)
    (hval : ∀ (j : Nat) t v, Tryz.f4.params[j]? = some t → args[j]? = some v → Value.okWide Tryz.prog W .any base t v)
    (hW : DataW.Whole enc Tryz.prog Tryz.f4.params.toList Rows.nodeActsSpec.vars false W args.toList ds gs before) (hL : laidMetH Tryz.prog Rows.nodeActsRow.laid W) :
    Calls Tryz.prog 4 args W fun e W' => ∃ v, e = .returned v ∧ Rows.nodeActsSpec.post enc Tryz.prog Tryz.f4 false true false false W args v W' := by
  have hW' := hW
  obtain ⟨p, q, hA0, hV, rfl, hfz, hnd⟩ := hW
  have hA : DataW.TrodAll enc Tryz.prog W 0 (fun _ => true) true Tryz.f4.params.toList args.toList ds p := hA0
  rw [Tryz.params4] at hA hval
  obtain ⟨v0, vs0, d0, ds0, p0, q0, hargs, rfl, rfl, h0, r0⟩ := trodAll_cons hA
  obtain ⟨v1, vs1, d1, ds1, p1, q1, rfl, rfl, rfl, h1, r1⟩ := trodAll_cons r0
  obtain ⟨v2, vs2, d2, ds2, p2, q2, rfl, rfl, rfl, h2, r2⟩ := trodAll_cons r1
  obtain ⟨rfl, rfl, rfl⟩ := trodAll_nil r2
  obtain rfl : args = #[v0, v1, v2] := by cases args; simp_all
  obtain ⟨rfl, rfl⟩ := trodVars_none hV
  obtain ⟨a0, rfl, rfl, rfl, w0⟩ := open_int Tryz.underlying3 (hval 0 3 v0 rfl rfl) h0
  obtain ⟨a1, len1, cap1, rfl⟩ := okWide_slice Tryz.underlying22 (hval 1 22 v1 rfl rfl)
  obtain ⟨a2, len2, cap2, rfl⟩ := okWide_slice Tryz.underlying23 (hval 2 23 v2 rfl rfl)
  have walk : Calls Tryz.prog 4 #[.int .i64 a0, .slice a1 len1 cap1, .slice a2 len2 cap2] W fun e w' => e = .returned (.bool true) ∧ Below W.heap.size W w' := by
    obtain ⟨E, hE⟩ := errsAre_of (laid_tail (show laidMet Tryz.prog Rows.nodeActsRow.laid W from hL)) (by (iterate 16 refine .cons (err_row _ _ _ _ _ (by kernel_rfl) (by kernel_rfl)) ?_); exact .nil)
    obtain ⟨g1, hR1⟩ := intsAt_of Tryz.underlying22 Tryz.underlying38 (by kernel_rfl) h1
    obtain ⟨f2, hR2⟩ := rowsAt_of' Tryz.underlying23 Tryz.underlying44 (by kernel_rfl) (by kernel_rfl) (by decide) (by kernel_rfl) h2
    exact nodeActs_any a0 _ _ _ _ _ f2 E W hE (tab64_of hL (by simp [Rows.nodeActsRow])) hR1 hR2
  refine walk.mono fun e W' ⟨he, hB⟩ => ⟨_, he, ?_⟩
  exact law_post (s := Rows.nodeActsSpec) (tb := 4) hW' (by kernel_rfl) (by rw [Tryz.params4]; decide +kernel) rfl rfl Tryz.underlying4 rfl hB

theorem lowIs (os : Os) : (World.settled Tryz.prog os).heap.size = 22 := by kernel_rfl
noncomputable def laidWorld (os : Os) : World := { World.holding Tryz.prog os ⟨#[.cells #[.string ⟨#[97, 32, 110, 117, 109, 98, 101, 114, 32, 105, 115, 32, 111, 117, 116, 32, 111, 102, 32, 105, 116, 115, 32, 114, 97, 110, 103, 101]⟩] 284 (0, 0), .cells #[.string ⟨#[116, 104, 101, 114, 101, 32, 105, 115, 32, 110, 111, 32, 109, 111, 114, 101, 32, 114, 111, 111, 109]⟩] 284 (0, 0), .cells #[.string ⟨#[105, 116, 32, 105, 115, 32, 110, 111, 116, 32, 111, 102, 32, 105, 116, 115, 32, 102, 111, 114, 109]⟩] 284 (0, 0), .cells #[.string ⟨#[116, 104, 101, 114, 101, 32, 105, 115, 32, 110, 111, 110, 101]⟩] 284 (0, 0), .cells #[.string ⟨#[105, 116, 32, 99, 97, 110, 32, 110, 111, 116, 32, 98, 101, 32, 100, 111, 110, 101, 32, 105, 110, 32, 116, 104, 105, 115, 32, 115, 116, 97, 116, 101]⟩] 284 (0, 0), .cells #[.string ⟨#[116, 104, 101, 114, 101, 32, 105, 115, 32, 110, 111, 32, 115, 117, 99, 104, 32, 105, 116, 101, 114, 97, 116, 111, 114]⟩] 284 (0, 0), .cells #[.string ⟨#[116, 104, 101, 114, 101, 32, 97, 114, 101, 32, 116, 111, 111, 32, 109, 97, 110, 121, 32, 105, 116, 101, 114, 97, 116, 111, 114, 115]⟩] 284 (0, 0), .cells #[.string ⟨#[111, 110, 101, 32, 107, 101, 121, 32, 104, 97, 115, 32, 116, 119, 111, 32, 104, 97, 115, 104, 101, 115]⟩] 284 (0, 0), .cells #[.string ⟨#[116, 104, 101, 114, 101, 32, 105, 115, 32, 109, 111, 114, 101, 32, 116, 104, 97, 110, 32, 109, 97, 121, 32, 98, 101]⟩] 284 (0, 0), .cells #[.string ⟨#[115, 111, 109, 101, 116, 104, 105, 110, 103, 32, 116, 104, 97, 116, 32, 109, 117, 115, 116, 32, 98, 101, 32, 115, 111, 32, 105, 115, 32, 110, 111, 116]⟩] 284 (0, 0), .cells #[.string ⟨#[97, 32, 108, 105, 109, 105, 116, 32, 105, 115, 32, 112, 97, 115, 115, 101, 100]⟩] 284 (0, 0), .cells #[.string ⟨#[116, 104, 101, 114, 101, 32, 105, 115, 32, 110, 111, 116, 104, 105, 110, 103, 32, 105, 110, 32, 105, 116]⟩] 284 (0, 0), .cells #[.string ⟨#[116, 104, 101, 32, 116, 101, 120, 116, 32, 105, 115, 32, 110, 111, 32, 110, 117, 109, 98, 101, 114]⟩] 284 (0, 0), .cells #[.string ⟨#[105, 116, 32, 105, 115, 32, 111, 102, 32, 97, 110, 111, 116, 104, 101, 114, 32, 107, 105, 110, 100]⟩] 284 (0, 0), .cells #[.string ⟨#[116, 104, 101, 114, 101, 32, 105, 115, 32, 110, 111, 32, 115, 117, 99, 104, 32, 110, 97, 109, 101]⟩] 284 (0, 0), .cells #[.string ⟨#[105, 116, 32, 105, 115, 32, 116, 104, 101, 114, 101, 32, 97, 108, 114, 101, 97, 100, 121]⟩] 284 (0, 0)], #[], []⟩ with heap := ((((((((((((((((((World.holding Tryz.prog os ⟨#[.cells #[.string ⟨#[97, 32, 110, 117, 109, 98, 101, 114, 32, 105, 115, 32, 111, 117, 116, 32, 111, 102, 32, 105, 116, 115, 32, 114, 97, 110, 103, 101]⟩] 284 (0, 0), .cells #[.string ⟨#[116, 104, 101, 114, 101, 32, 105, 115, 32, 110, 111, 32, 109, 111, 114, 101, 32, 114, 111, 111, 109]⟩] 284 (0, 0), .cells #[.string ⟨#[105, 116, 32, 105, 115, 32, 110, 111, 116, 32, 111, 102, 32, 105, 116, 115, 32, 102, 111, 114, 109]⟩] 284 (0, 0), .cells #[.string ⟨#[116, 104, 101, 114, 101, 32, 105, 115, 32, 110, 111, 110, 101]⟩] 284 (0, 0), .cells #[.string ⟨#[105, 116, 32, 99, 97, 110, 32, 110, 111, 116, 32, 98, 101, 32, 100, 111, 110, 101, 32, 105, 110, 32, 116, 104, 105, 115, 32, 115, 116, 97, 116, 101]⟩] 284 (0, 0), .cells #[.string ⟨#[116, 104, 101, 114, 101, 32, 105, 115, 32, 110, 111, 32, 115, 117, 99, 104, 32, 105, 116, 101, 114, 97, 116, 111, 114]⟩] 284 (0, 0), .cells #[.string ⟨#[116, 104, 101, 114, 101, 32, 97, 114, 101, 32, 116, 111, 111, 32, 109, 97, 110, 121, 32, 105, 116, 101, 114, 97, 116, 111, 114, 115]⟩] 284 (0, 0), .cells #[.string ⟨#[111, 110, 101, 32, 107, 101, 121, 32, 104, 97, 115, 32, 116, 119, 111, 32, 104, 97, 115, 104, 101, 115]⟩] 284 (0, 0), .cells #[.string ⟨#[116, 104, 101, 114, 101, 32, 105, 115, 32, 109, 111, 114, 101, 32, 116, 104, 97, 110, 32, 109, 97, 121, 32, 98, 101]⟩] 284 (0, 0), .cells #[.string ⟨#[115, 111, 109, 101, 116, 104, 105, 110, 103, 32, 116, 104, 97, 116, 32, 109, 117, 115, 116, 32, 98, 101, 32, 115, 111, 32, 105, 115, 32, 110, 111, 116]⟩] 284 (0, 0), .cells #[.string ⟨#[97, 32, 108, 105, 109, 105, 116, 32, 105, 115, 32, 112, 97, 115, 115, 101, 100]⟩] 284 (0, 0), .cells #[.string ⟨#[116, 104, 101, 114, 101, 32, 105, 115, 32, 110, 111, 116, 104, 105, 110, 103, 32, 105, 110, 32, 105, 116]⟩] 284 (0, 0), .cells #[.string ⟨#[116, 104, 101, 32, 116, 101, 120, 116, 32, 105, 115, 32, 110, 111, 32, 110, 117, 109, 98, 101, 114]⟩] 284 (0, 0), .cells #[.string ⟨#[105, 116, 32, 105, 115, 32, 111, 102, 32, 97, 110, 111, 116, 104, 101, 114, 32, 107, 105, 110, 100]⟩] 284 (0, 0), .cells #[.string ⟨#[116, 104, 101, 114, 101, 32, 105, 115, 32, 110, 111, 32, 115, 117, 99, 104, 32, 110, 97, 109, 101]⟩] 284 (0, 0), .cells #[.string ⟨#[105, 116, 32, 105, 115, 32, 116, 104, 101, 114, 101, 32, 97, 108, 114, 101, 97, 100, 121]⟩] 284 (0, 0)], #[], []⟩).heap.modify 16 fun | .cells _ t fr => .cells #[.int .u8 0, .int .u8 1, .int .u8 56, .int .u8 2, .int .u8 57, .int .u8 49, .int .u8 28, .int .u8 3, .int .u8 61, .int .u8 58, .int .u8 42, .int .u8 50, .int .u8 38, .int .u8 29, .int .u8 17, .int .u8 4, .int .u8 62, .int .u8 47, .int .u8 59, .int .u8 36, .int .u8 45, .int .u8 43, .int .u8 51, .int .u8 22, .int .u8 53, .int .u8 39, .int .u8 33, .int .u8 30, .int .u8 24, .int .u8 18, .int .u8 12, .int .u8 5, .int .u8 63, .int .u8 55, .int .u8 48, .int .u8 27, .int .u8 60, .int .u8 41, .int .u8 37, .int .u8 16, .int .u8 46, .int .u8 35, .int .u8 44, .int .u8 21, .int .u8 52, .int .u8 32, .int .u8 23, .int .u8 11, .int .u8 54, .int .u8 26, .int .u8 40, .int .u8 15, .int .u8 34, .int .u8 20, .int .u8 31, .int .u8 10, .int .u8 25, .int .u8 14, .int .u8 19, .int .u8 9, .int .u8 13, .int .u8 8, .int .u8 7, .int .u8 6] t fr | o => o).modify 0 fun | .cells _ t fr => .cells #[.iface 259 (.pointer (some ⟨22, 0, none⟩))] t fr | o => o).modify 1 fun | .cells _ t fr => .cells #[.iface 259 (.pointer (some ⟨23, 0, none⟩))] t fr | o => o).modify 8 fun | .cells _ t fr => .cells #[.iface 259 (.pointer (some ⟨24, 0, none⟩))] t fr | o => o).modify 5 fun | .cells _ t fr => .cells #[.iface 259 (.pointer (some ⟨25, 0, none⟩))] t fr | o => o).modify 2 fun | .cells _ t fr => .cells #[.iface 259 (.pointer (some ⟨26, 0, none⟩))] t fr | o => o).modify 9 fun | .cells _ t fr => .cells #[.iface 259 (.pointer (some ⟨27, 0, none⟩))] t fr | o => o).modify 10 fun | .cells _ t fr => .cells #[.iface 259 (.pointer (some ⟨28, 0, none⟩))] t fr | o => o).modify 11 fun | .cells _ t fr => .cells #[.iface 259 (.pointer (some ⟨29, 0, none⟩))] t fr | o => o).modify 12 fun | .cells _ t fr => .cells #[.iface 259 (.pointer (some ⟨30, 0, none⟩))] t fr | o => o).modify 4 fun | .cells _ t fr => .cells #[.iface 259 (.pointer (some ⟨31, 0, none⟩))] t fr | o => o).modify 13 fun | .cells _ t fr => .cells #[.iface 259 (.pointer (some ⟨32, 0, none⟩))] t fr | o => o).modify 3 fun | .cells _ t fr => .cells #[.iface 259 (.pointer (some ⟨33, 0, none⟩))] t fr | o => o).modify 14 fun | .cells _ t fr => .cells #[.iface 259 (.pointer (some ⟨34, 0, none⟩))] t fr | o => o).modify 7 fun | .cells _ t fr => .cells #[.iface 259 (.pointer (some ⟨35, 0, none⟩))] t fr | o => o).modify 15 fun | .cells _ t fr => .cells #[.iface 259 (.pointer (some ⟨36, 0, none⟩))] t fr | o => o).modify 6 fun | .cells _ t fr => .cells #[.iface 259 (.pointer (some ⟨37, 0, none⟩))] t fr | o => o) }
theorem laid_met (os : Os) : laidMet Tryz.prog Rows.nodeActsRow.laid ((laidWorld os).forCall (fun _ _ => 0) ⟨#[], #[.int .i64 0, .slice none 0 0, .slice none 0 0], []⟩).memory := laidMet_of_run' 8 (by kernel_rfl) (by kernel_rfl)
theorem reads (os : Os) {H : Type} (enc : TypeId × Value → H) : ∃ places, DataW.whole enc Tryz.prog ((laidWorld os).forCall (fun _ _ => 0) ⟨#[], #[.int .i64 0, .slice none 0 0, .slice none 0 0], []⟩).memory Tryz.f4.params.toList Rows.nodeActsSpec.vars false (#[.int .i64 0, .slice none 0 0, .slice none 0 0] : Array Value).toList 8 = some ([.lit (.int .i64 0), .nil, .nil], [], places) :=
  ⟨[], by kernel_rfl⟩

set_option maxRecDepth 100000 in
theorem lifted (os : Os) (started : os.Started) (H : Type) (enc : TypeId × Value → H) (F : Stop.Interp) :
    ReturnsInHanded {} Tryz.checked os 4 .any ((OpenSpec.ofChange Rows.nodeActsSpec).preRow enc Tryz.prog Tryz.f4 Rows.nodeActsRow.domain false Rows.nodeActsRow.laid) (((OpenSpec.ofChange Rows.nodeActsSpec).at F).post enc Tryz.prog Tryz.f4 false true false false) := by
  obtain ⟨places, hx⟩ := reads os enc
  refine returnsInHanded_of_row (C := Tryz.checked) (s := OpenSpec.ofChange Rows.nodeActsSpec) own started (by kernel_rfl) Tryz.func4
    (witness_row_atRef (enc := enc) (C := Tryz.checked) false (laidWorld os) #[.int .i64 0, .slice none 0 0, .slice none 0 0] rfl (by kernel_rfl) (by kernel_rfl) (by kernel_rfl)
      (OpenSpec.preRow_of_cond 8 hx (by kernel_rfl) (fun k hk => by cases hk) (by kernel_rfl) (laid_met os))) ?_
  intro W base args ds gs before hval hW _ _ _ hL _ _
  exact contract H enc W base args ds gs before hval hW hL

theorem said : Rows.NodeActsSaid :=
  OpenClaim.holds_of_cond 4 Tryz.f4 rfl rfl rfl rfl rfl rfl rfl ⟨rfl, rfl, rfl, rfl, rfl⟩ rfl rfl rfl rfl rfl (by kernel_rfl) Tryz.func4 (by kernel_rfl)
    (of_decide_eq_true (by kernel_rfl)) (by unfold Func.isWrapper; first | (rw [if_pos (by decide +kernel)]; kernel_rfl) | (rw [if_neg (by decide +kernel)]; exact ⟨rfl, rfl⟩))
    (fun os started H enc _ F => by rw [OpenClaim.pre_eq_preRow]; exact lifted os started H enc F)

theorem plain (f : FuncId) (fn : Func) (hf : Tryz.pinned.checked.prog.funcNamed "ambler/amblerlaw15.NodeActs" = some f) (hfn : Tryz.pinned.checked.prog.funcs[f]? = some fn) :
    true = Tryz.pinned.checked.prog.looks [] ∧ ∀ (j : Nat) t, fn.params[j]? = some t → Tryz.pinned.checked.prog.wantsStandIn t = false := by
  obtain rfl : f = 4 := Option.some.inj ((show Tryz.prog.funcNamed "ambler/amblerlaw15.NodeActs" = some 4 by kernel_rfl).symm.trans hf) |>.symm
  obtain rfl : fn = Tryz.f4 := (Option.some.inj (Tryz.func4.symm.trans hfn)).symm
  refine ⟨by kernel_rfl, fun j t ht => ?_⟩
  rw [Tryz.params4] at ht
  have hm := Array.mem_of_getElem? ht
  have all : ∀ t ∈ (#[3, 22, 23] : Array TypeId), Tryz.prog.wantsStandIn t = false := by decide +kernel
  exact all t hm

theorem card : Rows.NodeActsCardSaid :=
  Claim7.holds_tied_plain_at .later [] _ _ _ _ said (fun _ h => by cases h) (by kernel_rfl) (fun _ h => by cases h) nodeActs_row_tie rfl ⟨rfl, rfl⟩ (by kernel_rfl) rfl plain (by kernel_rfl)
end Go.Proofs.YtolhmibejhldkaaGreatDoor.nodeActs
