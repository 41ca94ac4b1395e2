/- SchedActs, as the card states it: for every input the law answers true, and each argument reads as it did. No condition but the row's. -/
import Derived.Test.YtolhmibejhldkaaDoorCards
import Derived.Test.YtolhmibejhldkaaDoorTie
import Derived.WalkKit
import Derived.ProofKit
import Derived.OpenShut
import Derived.Deep.DeepHandedRow
import Derived.Deep.DeepWitnessRowRef
import Derived.LaidLaws
import Derived.ChangeMaps5
import Derived.Test.YtolhmibejhldkaaDoorPkSwar
import Derived.Test.YtolhmibejhldkaaDoorPkMeter
import Derived.Test.YtolhmibejhldkaaDoorPkErrs
import Derived.Test.YtolhmibejhldkaaDoorPkGroup
import Derived.Test.YtolhmibejhldkaaDoorPkTab
import Derived.Test.YtolhmibejhldkaaDoorPkQueue
import Derived.Test.YtolhmibejhldkaaDoorPkSched
import Derived.Test.YtolhmibejhldkaaDoorPkSchedActs
namespace Go.Proofs.YtolhmibejhldkaaDoor.schedActs
set_option linter.unusedVariables false
set_option linter.unusedSimpArgs false
open Go.ChangeShapes Go.WideShapes Go.ChangeAt Go.RowKit Go.Proofs.YtolhmibejhldkaaDoor

theorem own : ownKnob Tryd.prog.godebug = none := by kernel_rfl

set_option maxRecDepth 100000 in
theorem contract (H : Type) (enc : TypeId × Value → H) (W : World) (base : Nat) (args : Array Value) (ds gs : List (DataW H)) (before : List MemPlace)
    (hval : ∀ (j : Nat) t v, Tryd.f5.params[j]? = some t → args[j]? = some v → Value.okWide Tryd.prog W .any base t v)
    (hW : DataW.Whole enc Tryd.prog Tryd.f5.params.toList Rows.schedActsSpec.vars false W args.toList ds gs before) (hL : laidMetH Tryd.prog Rows.schedActsRow.laid W) :
    Calls Tryd.prog 5 args W fun e W' => ∃ v, e = .returned v ∧ Rows.schedActsSpec.post enc Tryd.prog Tryd.f5 false true false false W args v W' := by
  have hW' := hW
  obtain ⟨p, q, hA0, hV, rfl, hfz, hnd⟩ := hW
  have hA : DataW.TrodAll enc Tryd.prog W 0 (fun _ => true) true Tryd.f5.params.toList args.toList ds p := hA0
  rw [Tryd.params5] at hA hval
  obtain ⟨v0, vs0, d0, ds0, p0, q0, hargs, rfl, rfl, h0, r0⟩ := trodAll_cons hA
  obtain ⟨v1, vs1, d1, ds1, p1, q1, rfl, rfl, rfl, h1, r1⟩ := trodAll_cons r0
  obtain ⟨rfl, rfl, rfl⟩ := trodAll_nil r1
  obtain rfl : args = #[v0, v1] := by cases args; simp_all
  obtain ⟨rfl, rfl⟩ := trodVars_none hV
  obtain ⟨a0, rfl, rfl, rfl, w0⟩ := open_int Tryd.underlying3 (hval 0 3 v0 rfl rfl) h0
  obtain ⟨a1, len1, cap1, rfl⟩ := okWide_slice Tryd.underlying43 (hval 1 43 v1 rfl rfl)
  have walk : Calls Tryd.prog 5 #[.int .i64 a0, .slice a1 len1 cap1] W fun e w' => e = .returned (.bool true) ∧ Below W.heap.size W w' := by
    obtain ⟨E, hE⟩ := errsAre_of (show laidMet Tryd.prog Rows.schedActsRow.laid W from hL) (.cons (err_row _ _ _ _ _ (by kernel_rfl) (by kernel_rfl)) (.cons (err_row _ _ _ _ _ (by kernel_rfl) (by kernel_rfl)) (.cons (err_row _ _ _ _ _ (by kernel_rfl) (by kernel_rfl)) (.cons (err_row _ _ _ _ _ (by kernel_rfl) (by kernel_rfl)) (.cons (err_row _ _ _ _ _ (by kernel_rfl) (by kernel_rfl)) (.cons (err_row _ _ _ _ _ (by kernel_rfl) (by kernel_rfl)) (.cons (err_row _ _ _ _ _ (by kernel_rfl) (by kernel_rfl)) (.cons (err_row _ _ _ _ _ (by kernel_rfl) (by kernel_rfl)) (.cons (err_row _ _ _ _ _ (by kernel_rfl) (by kernel_rfl)) (.cons (err_row _ _ _ _ _ (by kernel_rfl) (by kernel_rfl)) (.cons (err_row _ _ _ _ _ (by kernel_rfl) (by kernel_rfl)) (.cons (err_row _ _ _ _ _ (by kernel_rfl) (by kernel_rfl)) (.cons (err_row _ _ _ _ _ (by kernel_rfl) (by kernel_rfl)) (.cons (err_row _ _ _ _ _ (by kernel_rfl) (by kernel_rfl)) (.cons (err_row _ _ _ _ _ (by kernel_rfl) (by kernel_rfl)) (.cons (err_row _ _ _ _ _ (by kernel_rfl) (by kernel_rfl)) (.nil)))))))))))))))))
    obtain ⟨f1, hR1⟩ := rowsAt_of' Tryd.underlying43 Tryd.underlying45 rfl rfl (by decide) (by kernel_rfl) h1
    exact schedActs_any a0 _ _ f1 E W hE hR1
  refine walk.mono fun e W' ⟨he, hB⟩ => ⟨_, he, ?_⟩
  exact law_post (s := Rows.schedActsSpec) (tb := 4) hW' (by kernel_rfl) (by rw [Tryd.params5]; decide +kernel) rfl rfl Tryd.underlying4 rfl hB

theorem lowIs (os : Os) : (World.settled Tryd.prog os).heap.size = 21 := by kernel_rfl
noncomputable def laidWorld (os : Os) : World := { World.holding Tryd.prog os ⟨#[.cells #[.string ⟨#[97, 32, 110, 117, 109, 98, 101, 114, 32, 105, 115, 32, 111, 117, 116, 32, 111, 102, 32, 105, 116, 115, 32, 114, 97, 110, 103, 101]⟩] 162 (0, 0), .cells #[.string ⟨#[116, 104, 101, 114, 101, 32, 105, 115, 32, 110, 111, 32, 109, 111, 114, 101, 32, 114, 111, 111, 109]⟩] 162 (0, 0), .cells #[.string ⟨#[105, 116, 32, 105, 115, 32, 110, 111, 116, 32, 111, 102, 32, 105, 116, 115, 32, 102, 111, 114, 109]⟩] 162 (0, 0), .cells #[.string ⟨#[116, 104, 101, 114, 101, 32, 105, 115, 32, 110, 111, 110, 101]⟩] 162 (0, 0), .cells #[.string ⟨#[105, 116, 32, 99, 97, 110, 32, 110, 111, 116, 32, 98, 101, 32, 100, 111, 110, 101, 32, 105, 110, 32, 116, 104, 105, 115, 32, 115, 116, 97, 116, 101]⟩] 162 (0, 0), .cells #[.string ⟨#[116, 104, 101, 114, 101, 32, 105, 115, 32, 110, 111, 32, 115, 117, 99, 104, 32, 105, 116, 101, 114, 97, 116, 111, 114]⟩] 162 (0, 0), .cells #[.string ⟨#[116, 104, 101, 114, 101, 32, 97, 114, 101, 32, 116, 111, 111, 32, 109, 97, 110, 121, 32, 105, 116, 101, 114, 97, 116, 111, 114, 115]⟩] 162 (0, 0), .cells #[.string ⟨#[111, 110, 101, 32, 107, 101, 121, 32, 104, 97, 115, 32, 116, 119, 111, 32, 104, 97, 115, 104, 101, 115]⟩] 162 (0, 0), .cells #[.string ⟨#[116, 104, 101, 114, 101, 32, 105, 115, 32, 109, 111, 114, 101, 32, 116, 104, 97, 110, 32, 109, 97, 121, 32, 98, 101]⟩] 162 (0, 0), .cells #[.string ⟨#[115, 111, 109, 101, 116, 104, 105, 110, 103, 32, 116, 104, 97, 116, 32, 109, 117, 115, 116, 32, 98, 101, 32, 115, 111, 32, 105, 115, 32, 110, 111, 116]⟩] 162 (0, 0), .cells #[.string ⟨#[97, 32, 108, 105, 109, 105, 116, 32, 105, 115, 32, 112, 97, 115, 115, 101, 100]⟩] 162 (0, 0), .cells #[.string ⟨#[116, 104, 101, 114, 101, 32, 105, 115, 32, 110, 111, 116, 104, 105, 110, 103, 32, 105, 110, 32, 105, 116]⟩] 162 (0, 0), .cells #[.string ⟨#[116, 104, 101, 32, 116, 101, 120, 116, 32, 105, 115, 32, 110, 111, 32, 110, 117, 109, 98, 101, 114]⟩] 162 (0, 0), .cells #[.string ⟨#[105, 116, 32, 105, 115, 32, 111, 102, 32, 97, 110, 111, 116, 104, 101, 114, 32, 107, 105, 110, 100]⟩] 162 (0, 0), .cells #[.string ⟨#[116, 104, 101, 114, 101, 32, 105, 115, 32, 110, 111, 32, 115, 117, 99, 104, 32, 110, 97, 109, 101]⟩] 162 (0, 0), .cells #[.string ⟨#[105, 116, 32, 105, 115, 32, 116, 104, 101, 114, 101, 32, 97, 108, 114, 101, 97, 100, 121]⟩] 162 (0, 0)], #[], []⟩ with heap := (((((((((((((((((World.holding Tryd.prog os ⟨#[.cells #[.string ⟨#[97, 32, 110, 117, 109, 98, 101, 114, 32, 105, 115, 32, 111, 117, 116, 32, 111, 102, 32, 105, 116, 115, 32, 114, 97, 110, 103, 101]⟩] 162 (0, 0), .cells #[.string ⟨#[116, 104, 101, 114, 101, 32, 105, 115, 32, 110, 111, 32, 109, 111, 114, 101, 32, 114, 111, 111, 109]⟩] 162 (0, 0), .cells #[.string ⟨#[105, 116, 32, 105, 115, 32, 110, 111, 116, 32, 111, 102, 32, 105, 116, 115, 32, 102, 111, 114, 109]⟩] 162 (0, 0), .cells #[.string ⟨#[116, 104, 101, 114, 101, 32, 105, 115, 32, 110, 111, 110, 101]⟩] 162 (0, 0), .cells #[.string ⟨#[105, 116, 32, 99, 97, 110, 32, 110, 111, 116, 32, 98, 101, 32, 100, 111, 110, 101, 32, 105, 110, 32, 116, 104, 105, 115, 32, 115, 116, 97, 116, 101]⟩] 162 (0, 0), .cells #[.string ⟨#[116, 104, 101, 114, 101, 32, 105, 115, 32, 110, 111, 32, 115, 117, 99, 104, 32, 105, 116, 101, 114, 97, 116, 111, 114]⟩] 162 (0, 0), .cells #[.string ⟨#[116, 104, 101, 114, 101, 32, 97, 114, 101, 32, 116, 111, 111, 32, 109, 97, 110, 121, 32, 105, 116, 101, 114, 97, 116, 111, 114, 115]⟩] 162 (0, 0), .cells #[.string ⟨#[111, 110, 101, 32, 107, 101, 121, 32, 104, 97, 115, 32, 116, 119, 111, 32, 104, 97, 115, 104, 101, 115]⟩] 162 (0, 0), .cells #[.string ⟨#[116, 104, 101, 114, 101, 32, 105, 115, 32, 109, 111, 114, 101, 32, 116, 104, 97, 110, 32, 109, 97, 121, 32, 98, 101]⟩] 162 (0, 0), .cells #[.string ⟨#[115, 111, 109, 101, 116, 104, 105, 110, 103, 32, 116, 104, 97, 116, 32, 109, 117, 115, 116, 32, 98, 101, 32, 115, 111, 32, 105, 115, 32, 110, 111, 116]⟩] 162 (0, 0), .cells #[.string ⟨#[97, 32, 108, 105, 109, 105, 116, 32, 105, 115, 32, 112, 97, 115, 115, 101, 100]⟩] 162 (0, 0), .cells #[.string ⟨#[116, 104, 101, 114, 101, 32, 105, 115, 32, 110, 111, 116, 104, 105, 110, 103, 32, 105, 110, 32, 105, 116]⟩] 162 (0, 0), .cells #[.string ⟨#[116, 104, 101, 32, 116, 101, 120, 116, 32, 105, 115, 32, 110, 111, 32, 110, 117, 109, 98, 101, 114]⟩] 162 (0, 0), .cells #[.string ⟨#[105, 116, 32, 105, 115, 32, 111, 102, 32, 97, 110, 111, 116, 104, 101, 114, 32, 107, 105, 110, 100]⟩] 162 (0, 0), .cells #[.string ⟨#[116, 104, 101, 114, 101, 32, 105, 115, 32, 110, 111, 32, 115, 117, 99, 104, 32, 110, 97, 109, 101]⟩] 162 (0, 0), .cells #[.string ⟨#[105, 116, 32, 105, 115, 32, 116, 104, 101, 114, 101, 32, 97, 108, 114, 101, 97, 100, 121]⟩] 162 (0, 0)], #[], []⟩).heap.modify 1 fun | .cells _ t fr => .cells #[.iface 112 (.pointer (some ⟨21, 0, none⟩))] t fr | o => o).modify 3 fun | .cells _ t fr => .cells #[.iface 112 (.pointer (some ⟨22, 0, none⟩))] t fr | o => o).modify 4 fun | .cells _ t fr => .cells #[.iface 112 (.pointer (some ⟨23, 0, none⟩))] t fr | o => o).modify 0 fun | .cells _ t fr => .cells #[.iface 112 (.pointer (some ⟨24, 0, none⟩))] t fr | o => o).modify 5 fun | .cells _ t fr => .cells #[.iface 112 (.pointer (some ⟨25, 0, none⟩))] t fr | o => o).modify 6 fun | .cells _ t fr => .cells #[.iface 112 (.pointer (some ⟨26, 0, none⟩))] t fr | o => o).modify 7 fun | .cells _ t fr => .cells #[.iface 112 (.pointer (some ⟨27, 0, none⟩))] t fr | o => o).modify 8 fun | .cells _ t fr => .cells #[.iface 112 (.pointer (some ⟨28, 0, none⟩))] t fr | o => o).modify 9 fun | .cells _ t fr => .cells #[.iface 112 (.pointer (some ⟨29, 0, none⟩))] t fr | o => o).modify 10 fun | .cells _ t fr => .cells #[.iface 112 (.pointer (some ⟨30, 0, none⟩))] t fr | o => o).modify 11 fun | .cells _ t fr => .cells #[.iface 112 (.pointer (some ⟨31, 0, none⟩))] t fr | o => o).modify 12 fun | .cells _ t fr => .cells #[.iface 112 (.pointer (some ⟨32, 0, none⟩))] t fr | o => o).modify 13 fun | .cells _ t fr => .cells #[.iface 112 (.pointer (some ⟨33, 0, none⟩))] t fr | o => o).modify 14 fun | .cells _ t fr => .cells #[.iface 112 (.pointer (some ⟨34, 0, none⟩))] t fr | o => o).modify 15 fun | .cells _ t fr => .cells #[.iface 112 (.pointer (some ⟨35, 0, none⟩))] t fr | o => o).modify 2 fun | .cells _ t fr => .cells #[.iface 112 (.pointer (some ⟨36, 0, none⟩))] t fr | o => o) }
theorem laid_met (os : Os) : laidMet Tryd.prog Rows.schedActsRow.laid ((laidWorld os).forCall (fun _ _ => 0) ⟨#[], #[.int .i64 0, .slice none 0 0], []⟩).memory := laidMet_of_run' 8 (by kernel_rfl) (by kernel_rfl)
theorem reads (os : Os) {H : Type} (enc : TypeId × Value → H) : ∃ places, DataW.whole enc Tryd.prog ((laidWorld os).forCall (fun _ _ => 0) ⟨#[], #[.int .i64 0, .slice none 0 0], []⟩).memory Tryd.f5.params.toList Rows.schedActsSpec.vars false (#[.int .i64 0, .slice none 0 0] : Array Value).toList 8 = some ([.lit (.int .i64 0), .nil], [], places) :=
  ⟨[], by kernel_rfl⟩

set_option maxRecDepth 100000 in
theorem lifted (os : Os) (started : os.Started) (H : Type) (enc : TypeId × Value → H) (F : Stop.Interp) :
    ReturnsInHanded {} Tryd.checked os 5 .any ((OpenSpec.ofChange Rows.schedActsSpec).preRow enc Tryd.prog Tryd.f5 Rows.schedActsRow.domain false Rows.schedActsRow.laid) (((OpenSpec.ofChange Rows.schedActsSpec).at F).post enc Tryd.prog Tryd.f5 false true false false) := by
  obtain ⟨places, hx⟩ := reads os enc
  refine returnsInHanded_of_row (C := Tryd.checked) (s := OpenSpec.ofChange Rows.schedActsSpec) own started (by kernel_rfl) Tryd.func5
    (witness_row_atRef (enc := enc) (C := Tryd.checked) false (laidWorld os) #[.int .i64 0, .slice none 0 0] rfl (by kernel_rfl) (by kernel_rfl) (by kernel_rfl)
      (OpenSpec.preRow_of_cond 8 hx (by kernel_rfl) (fun k hk => by cases hk) (by kernel_rfl) (laid_met os))) ?_
  intro W base args ds gs before hval hW _ _ _ hL _ _
  exact contract H enc W base args ds gs before hval hW hL

theorem said : Rows.SchedActsSaid :=
  OpenClaim.holds_of_cond 5 Tryd.f5 rfl rfl rfl rfl rfl rfl rfl ⟨rfl, rfl, rfl, rfl, rfl⟩ rfl rfl rfl rfl rfl (by kernel_rfl) Tryd.func5 (by kernel_rfl)
    (of_decide_eq_true (by kernel_rfl)) (by unfold Func.isWrapper; first | (rw [if_pos (by decide +kernel)]; kernel_rfl) | (rw [if_neg (by decide +kernel)]; exact ⟨rfl, rfl⟩))
    (fun os started H enc _ F => by rw [OpenClaim.pre_eq_preRow]; exact lifted os started H enc F)

theorem plain (f : FuncId) (fn : Func) (hf : Tryd.pinned.checked.prog.funcNamed "ambler/amblerlaw20.SchedActs" = some f) (hfn : Tryd.pinned.checked.prog.funcs[f]? = some fn) :
    true = Tryd.pinned.checked.prog.looks [] ∧ ∀ (j : Nat) t, fn.params[j]? = some t → Tryd.pinned.checked.prog.wantsStandIn t = false := by
  obtain rfl : f = 5 := Option.some.inj ((show Tryd.prog.funcNamed "ambler/amblerlaw20.SchedActs" = some 5 by kernel_rfl).symm.trans hf) |>.symm
  obtain rfl : fn = Tryd.f5 := (Option.some.inj (Tryd.func5.symm.trans hfn)).symm
  refine ⟨by kernel_rfl, fun j t ht => ?_⟩
  rw [Tryd.params5] at ht
  have hm := Array.mem_of_getElem? ht
  have all : ∀ t ∈ (#[3, 43] : Array TypeId), Tryd.prog.wantsStandIn t = false := by decide +kernel
  exact all t hm

theorem card : Rows.SchedActsCardSaid :=
  Claim7.holds_tied_plain_at .later [] _ _ _ _ said (fun _ h => by cases h) (by kernel_rfl) (fun _ h => by cases h) schedActs_row_tie rfl ⟨rfl, rfl⟩ (by kernel_rfl) rfl plain (by kernel_rfl)
end Go.Proofs.YtolhmibejhldkaaDoor.schedActs
