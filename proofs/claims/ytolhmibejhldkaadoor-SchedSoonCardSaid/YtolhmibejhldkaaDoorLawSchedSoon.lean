/- SchedSoon, as the card states it: for every input the law answers true, and each argument reads as it did. No condition but the row's. -/
import Derived.Test.YtolhmibejhldkaaDoorCards
import Derived.Test.YtolhmibejhldkaaDoorTie
import Derived.WalkKit
import Derived.ProofKit
import Derived.OpenShut
import Derived.Deep.DeepHandedRow
import Derived.Deep.DeepWitnessRowRef
import Derived.LaidLaws
import Derived.ChangeMaps5
import Derived.Test.YtolhmibejhldkaaDoorPkSwar
import Derived.Test.YtolhmibejhldkaaDoorPkMeter
import Derived.Test.YtolhmibejhldkaaDoorPkErrs
import Derived.Test.YtolhmibejhldkaaDoorPkGroup
import Derived.Test.YtolhmibejhldkaaDoorPkTab
import Derived.Test.YtolhmibejhldkaaDoorPkQueue
import Derived.Test.YtolhmibejhldkaaDoorPkSched
import Derived.Test.YtolhmibejhldkaaDoorPkSchedSoon
namespace Go.Proofs.YtolhmibejhldkaaDoor.schedSoon
set_option linter.unusedVariables false
set_option linter.unusedSimpArgs false
open Go.ChangeShapes Go.WideShapes Go.ChangeAt Go.RowKit Go.Proofs.YtolhmibejhldkaaDoor

theorem own : ownKnob Tryd.prog.godebug = none := by kernel_rfl

set_option maxRecDepth 100000 in
theorem contract (H : Type) (enc : TypeId × Value → H) (W : World) (base : Nat) (args : Array Value) (ds gs : List (DataW H)) (before : List MemPlace)
    (hval : ∀ (j : Nat) t v, Tryd.f4.params[j]? = some t → args[j]? = some v → Value.okWide Tryd.prog W .any base t v)
    (hW : DataW.Whole enc Tryd.prog Tryd.f4.params.toList Rows.schedSoonSpec.vars false W args.toList ds gs before) (hL : laidMetH Tryd.prog Rows.schedSoonRow.laid W) :
    Calls Tryd.prog 4 args W fun e W' => ∃ v, e = .returned v ∧ Rows.schedSoonSpec.post enc Tryd.prog Tryd.f4 false true false false W args v W' := by
  have hW' := hW
  obtain ⟨p, q, hA0, hV, rfl, hfz, hnd⟩ := hW
  have hA : DataW.TrodAll enc Tryd.prog W 0 (fun _ => true) true Tryd.f4.params.toList args.toList ds p := hA0
  rw [Tryd.params4] at hA hval
  obtain ⟨v0, vs0, d0, ds0, p0, q0, hargs, rfl, rfl, h0, r0⟩ := trodAll_cons hA
  obtain ⟨v1, vs1, d1, ds1, p1, q1, rfl, rfl, rfl, h1, r1⟩ := trodAll_cons r0
  obtain ⟨v2, vs2, d2, ds2, p2, q2, rfl, rfl, rfl, h2, r2⟩ := trodAll_cons r1
  obtain ⟨rfl, rfl, rfl⟩ := trodAll_nil r2
  obtain rfl : args = #[v0, v1, v2] := by cases args; simp_all
  obtain ⟨rfl, rfl⟩ := trodVars_none hV
  obtain ⟨a0, rfl, rfl, rfl, w0⟩ := open_int Tryd.underlying3 (hval 0 3 v0 rfl rfl) h0
  obtain ⟨a1, len1, cap1, rfl⟩ := okWide_slice Tryd.underlying43 (hval 1 43 v1 rfl rfl)
  obtain ⟨a2, len2, cap2, rfl⟩ := okWide_slice Tryd.underlying43 (hval 2 43 v2 rfl rfl)
  have walk : Calls Tryd.prog 4 #[.int .i64 a0, .slice a1 len1 cap1, .slice a2 len2 cap2] W fun e w' => e = .returned (.bool true) ∧ Below W.heap.size W w' := by
    obtain ⟨E, hE⟩ := ec_of [1, 2, 4, 16] 4 (by decide) (show laidMet Tryd.prog Rows.schedSoonRow.laid W from hL) (.cons (err_row _ _ _ _ _ (by kernel_rfl) (by kernel_rfl)) (.cons (err_row _ _ _ _ _ (by kernel_rfl) (by kernel_rfl)) (.cons (err_row _ _ _ _ _ (by kernel_rfl) (by kernel_rfl)) (.cons (err_row _ _ _ _ _ (by kernel_rfl) (by kernel_rfl)) (.nil)))))
    obtain ⟨f1, hR1⟩ := rowsAt_of' Tryd.underlying43 Tryd.underlying45 rfl rfl (by decide) (by kernel_rfl) h1
    obtain ⟨f2, hR2⟩ := rowsAt_of' Tryd.underlying43 Tryd.underlying45 rfl rfl (by decide) (by kernel_rfl) h2
    exact schedSoon_any a0 _ _ _ _ f1 f2 E W hE hR1 hR2
  refine walk.mono fun e W' ⟨he, hB⟩ => ⟨_, he, ?_⟩
  exact law_post (s := Rows.schedSoonSpec) (tb := 4) hW' (by kernel_rfl) (by rw [Tryd.params4]; decide +kernel) rfl rfl Tryd.underlying4 rfl hB

theorem lowIs (os : Os) : (World.settled Tryd.prog os).heap.size = 21 := by kernel_rfl
noncomputable def laidWorld (os : Os) : World := { World.holding Tryd.prog os ⟨#[.cells #[.string ⟨#[97, 32, 110, 117, 109, 98, 101, 114, 32, 105, 115, 32, 111, 117, 116, 32, 111, 102, 32, 105, 116, 115, 32, 114, 97, 110, 103, 101]⟩] 162 (0, 0), .cells #[.string ⟨#[116, 104, 101, 114, 101, 32, 105, 115, 32, 110, 111, 32, 109, 111, 114, 101, 32, 114, 111, 111, 109]⟩] 162 (0, 0), .cells #[.string ⟨#[116, 104, 101, 114, 101, 32, 105, 115, 32, 110, 111, 110, 101]⟩] 162 (0, 0), .cells #[.string ⟨#[105, 116, 32, 105, 115, 32, 116, 104, 101, 114, 101, 32, 97, 108, 114, 101, 97, 100, 121]⟩] 162 (0, 0)], #[], []⟩ with heap := (((((World.holding Tryd.prog os ⟨#[.cells #[.string ⟨#[97, 32, 110, 117, 109, 98, 101, 114, 32, 105, 115, 32, 111, 117, 116, 32, 111, 102, 32, 105, 116, 115, 32, 114, 97, 110, 103, 101]⟩] 162 (0, 0), .cells #[.string ⟨#[116, 104, 101, 114, 101, 32, 105, 115, 32, 110, 111, 32, 109, 111, 114, 101, 32, 114, 111, 111, 109]⟩] 162 (0, 0), .cells #[.string ⟨#[116, 104, 101, 114, 101, 32, 105, 115, 32, 110, 111, 110, 101]⟩] 162 (0, 0), .cells #[.string ⟨#[105, 116, 32, 105, 115, 32, 116, 104, 101, 114, 101, 32, 97, 108, 114, 101, 97, 100, 121]⟩] 162 (0, 0)], #[], []⟩).heap.modify 1 fun | .cells _ t fr => .cells #[.iface 112 (.pointer (some ⟨21, 0, none⟩))] t fr | o => o).modify 3 fun | .cells _ t fr => .cells #[.iface 112 (.pointer (some ⟨22, 0, none⟩))] t fr | o => o).modify 0 fun | .cells _ t fr => .cells #[.iface 112 (.pointer (some ⟨23, 0, none⟩))] t fr | o => o).modify 2 fun | .cells _ t fr => .cells #[.iface 112 (.pointer (some ⟨24, 0, none⟩))] t fr | o => o) }
theorem laid_met (os : Os) : laidMet Tryd.prog Rows.schedSoonRow.laid ((laidWorld os).forCall (fun _ _ => 0) ⟨#[], #[.int .i64 0, .slice none 0 0, .slice none 0 0], []⟩).memory := laidMet_of_run' 8 (by kernel_rfl) (by kernel_rfl)
theorem reads (os : Os) {H : Type} (enc : TypeId × Value → H) : ∃ places, DataW.whole enc Tryd.prog ((laidWorld os).forCall (fun _ _ => 0) ⟨#[], #[.int .i64 0, .slice none 0 0, .slice none 0 0], []⟩).memory Tryd.f4.params.toList Rows.schedSoonSpec.vars false (#[.int .i64 0, .slice none 0 0, .slice none 0 0] : Array Value).toList 8 = some ([.lit (.int .i64 0), .nil, .nil], [], places) :=
  ⟨[], by kernel_rfl⟩

set_option maxRecDepth 100000 in
theorem lifted (os : Os) (started : os.Started) (H : Type) (enc : TypeId × Value → H) (F : Stop.Interp) :
    ReturnsInHanded {} Tryd.checked os 4 .any ((OpenSpec.ofChange Rows.schedSoonSpec).preRow enc Tryd.prog Tryd.f4 Rows.schedSoonRow.domain false Rows.schedSoonRow.laid) (((OpenSpec.ofChange Rows.schedSoonSpec).at F).post enc Tryd.prog Tryd.f4 false true false false) := by
  obtain ⟨places, hx⟩ := reads os enc
  refine returnsInHanded_of_row (C := Tryd.checked) (s := OpenSpec.ofChange Rows.schedSoonSpec) own started (by kernel_rfl) Tryd.func4
    (witness_row_atRef (enc := enc) (C := Tryd.checked) false (laidWorld os) #[.int .i64 0, .slice none 0 0, .slice none 0 0] rfl (by kernel_rfl) (by kernel_rfl) (by kernel_rfl)
      (OpenSpec.preRow_of_cond 8 hx (by kernel_rfl) (fun k hk => by cases hk) (by kernel_rfl) (laid_met os))) ?_
  intro W base args ds gs before hval hW _ _ _ hL _ _
  exact contract H enc W base args ds gs before hval hW hL

theorem said : Rows.SchedSoonSaid :=
  OpenClaim.holds_of_cond 4 Tryd.f4 rfl rfl rfl rfl rfl rfl rfl ⟨rfl, rfl, rfl, rfl, rfl⟩ rfl rfl rfl rfl rfl (by kernel_rfl) Tryd.func4 (by kernel_rfl)
    (of_decide_eq_true (by kernel_rfl)) (by unfold Func.isWrapper; first | (rw [if_pos (by decide +kernel)]; kernel_rfl) | (rw [if_neg (by decide +kernel)]; exact ⟨rfl, rfl⟩))
    (fun os started H enc _ F => by rw [OpenClaim.pre_eq_preRow]; exact lifted os started H enc F)

theorem plain (f : FuncId) (fn : Func) (hf : Tryd.pinned.checked.prog.funcNamed "ambler/amblerlaw20.SchedSoon" = some f) (hfn : Tryd.pinned.checked.prog.funcs[f]? = some fn) :
    true = Tryd.pinned.checked.prog.looks [] ∧ ∀ (j : Nat) t, fn.params[j]? = some t → Tryd.pinned.checked.prog.wantsStandIn t = false := by
  obtain rfl : f = 4 := Option.some.inj ((show Tryd.prog.funcNamed "ambler/amblerlaw20.SchedSoon" = some 4 by kernel_rfl).symm.trans hf) |>.symm
  obtain rfl : fn = Tryd.f4 := (Option.some.inj (Tryd.func4.symm.trans hfn)).symm
  refine ⟨by kernel_rfl, fun j t ht => ?_⟩
  rw [Tryd.params4] at ht
  have hm := Array.mem_of_getElem? ht
  have all : ∀ t ∈ (#[3, 43, 43] : Array TypeId), Tryd.prog.wantsStandIn t = false := by decide +kernel
  exact all t hm

theorem card : Rows.SchedSoonCardSaid :=
  Claim7.holds_tied_plain_at .later [] _ _ _ _ said (fun _ h => by cases h) (by kernel_rfl) (fun _ h => by cases h) schedSoon_row_tie rfl ⟨rfl, rfl⟩ (by kernel_rfl) rfl plain (by kernel_rfl)
end Go.Proofs.YtolhmibejhldkaaDoor.schedSoon
