/- CtrlApart, as the card states it: for every input the law answers true, and each argument reads as it did. No condition but the row's. -/
import Derived.Test.YtdlfkjpnbgobhaaDoorCards
import Derived.Test.YtdlfkjpnbgobhaaDoorTie
import Derived.WalkKit
import Derived.ProofKit
import Derived.OpenShut
import Derived.Deep.DeepHandedRow
import Derived.Deep.DeepWitnessRowRef
import Derived.LaidLaws
import Derived.Test.YtdlfkjpnbgobhaaDoorCard
import Derived.Test.YtdlfkjpnbgobhaaDoorU64
import Derived.Test.YtdlfkjpnbgobhaaDoorCtrlApart
namespace Go.Proofs.YtdlfkjpnbgobhaaDoor.ctrlApart
set_option linter.unusedVariables false
set_option linter.unusedSimpArgs false
open Go.ChangeShapes Go.WideShapes Go.ChangeAt Go.RowKit Go.Proofs.YtdlfkjpnbgobhaaDoor

theorem own : ownKnob Tryd.prog.godebug = none := by kernel_rfl

set_option maxRecDepth 100000 in
theorem contract (H : Type) (enc : TypeId × Value → H) (W : World) (base : Nat) (args : Array Value) (ds gs : List (DataW H)) (before : List MemPlace)
    (hval : ∀ (j : Nat) t v, Tryd.f8.params[j]? = some t → args[j]? = some v → Value.okWide Tryd.prog W .any base t v)
    (hW : DataW.Whole enc Tryd.prog Tryd.f8.params.toList Rows.ctrlApartSpec.vars false W args.toList ds gs before) (hL : laidMetH Tryd.prog Rows.ctrlApartRow.laid W) :
    Calls Tryd.prog 8 args W fun e W' => ∃ v, e = .returned v ∧ Rows.ctrlApartSpec.post enc Tryd.prog Tryd.f8 false true false false W args v W' := by
  have hW' := hW
  obtain ⟨p, q, hA0, hV, rfl, hfz, hnd⟩ := hW
  have hA : DataW.TrodAll enc Tryd.prog W 0 (fun _ => true) true Tryd.f8.params.toList args.toList ds p := hA0
  rw [Tryd.params8] at hA hval
  obtain ⟨v0, vs0, d0, ds0, p0, q0, hargs, rfl, rfl, h0, r0⟩ := trodAll_cons hA
  obtain ⟨v1, vs1, d1, ds1, p1, q1, rfl, rfl, rfl, h1, r1⟩ := trodAll_cons r0
  obtain ⟨v2, vs2, d2, ds2, p2, q2, rfl, rfl, rfl, h2, r2⟩ := trodAll_cons r1
  obtain ⟨rfl, rfl, rfl⟩ := trodAll_nil r2
  obtain rfl : args = #[v0, v1, v2] := by cases args; simp_all
  obtain ⟨rfl, rfl⟩ := trodVars_none hV
  obtain ⟨a0, rfl, rfl, rfl, w0⟩ := open_int Tryd.underlying22 (hval 0 22 v0 rfl rfl) h0
  obtain ⟨a1, rfl, rfl, rfl, w1⟩ := open_int Tryd.underlying3 (hval 1 3 v1 rfl rfl) h1
  obtain ⟨a2, rfl, rfl, rfl, w2⟩ := open_int Tryd.underlying5 (hval 2 5 v2 rfl rfl) h2
  have walk : Calls Tryd.prog 8 #[.int .u64 a0, .int .i64 a1, .int .u8 a2] W fun e w' => e = .returned (.bool true) ∧ Below W.heap.size W w' := by
    obtain ⟨E, hE⟩ := ec_of [1, 3] 2 (by decide) (show laidMet Tryd.prog Rows.ctrlApartRow.laid W from hL) (.cons (err_row _ _ _ _ _ (by kernel_rfl) (by kernel_rfl)) (.cons (err_row _ _ _ _ _ (by kernel_rfl) (by kernel_rfl)) (.nil)))
    obtain ⟨m, hm, rfl⟩ := u64_of w0
    obtain ⟨h, hh, rfl⟩ := u8_of w2
    exact ctrlApart_any m h _ hm hh E W hE
  refine walk.mono fun e W' ⟨he, hB⟩ => ⟨_, he, ?_⟩
  exact law_post (s := Rows.ctrlApartSpec) (tb := 4) hW' (by kernel_rfl) (by rw [Tryd.params8]; decide +kernel) rfl rfl Tryd.underlying4 rfl hB

theorem lowIs (os : Os) : (World.settled Tryd.prog os).heap.size = 23 := by kernel_rfl
noncomputable def laidWorld (os : Os) : World := { World.holding Tryd.prog os ⟨#[.cells #[.string ⟨#[97, 32, 110, 117, 109, 98, 101, 114, 32, 105, 115, 32, 111, 117, 116, 32, 111, 102, 32, 105, 116, 115, 32, 114, 97, 110, 103, 101]⟩] 197 (0, 0), .cells #[.string ⟨#[105, 116, 32, 105, 115, 32, 110, 111, 116, 32, 111, 102, 32, 105, 116, 115, 32, 102, 111, 114, 109]⟩] 197 (0, 0)], #[], []⟩ with heap := (((World.holding Tryd.prog os ⟨#[.cells #[.string ⟨#[97, 32, 110, 117, 109, 98, 101, 114, 32, 105, 115, 32, 111, 117, 116, 32, 111, 102, 32, 105, 116, 115, 32, 114, 97, 110, 103, 101]⟩] 197 (0, 0), .cells #[.string ⟨#[105, 116, 32, 105, 115, 32, 110, 111, 116, 32, 111, 102, 32, 105, 116, 115, 32, 102, 111, 114, 109]⟩] 197 (0, 0)], #[], []⟩).heap.modify 1 fun | .cells _ t fr => .cells #[.iface 173 (.pointer (some ⟨23, 0, none⟩))] t fr | o => o).modify 6 fun | .cells _ t fr => .cells #[.iface 173 (.pointer (some ⟨24, 0, none⟩))] t fr | o => o) }
theorem laid_met (os : Os) : laidMet Tryd.prog Rows.ctrlApartRow.laid ((laidWorld os).forCall (fun _ _ => 0) ⟨#[], #[.int .u64 0, .int .i64 0, .int .u8 0], []⟩).memory := laidMet_of_run' 8 (by kernel_rfl) (by kernel_rfl)
theorem reads (os : Os) {H : Type} (enc : TypeId × Value → H) : ∃ places, DataW.whole enc Tryd.prog ((laidWorld os).forCall (fun _ _ => 0) ⟨#[], #[.int .u64 0, .int .i64 0, .int .u8 0], []⟩).memory Tryd.f8.params.toList Rows.ctrlApartSpec.vars false (#[.int .u64 0, .int .i64 0, .int .u8 0] : Array Value).toList 8 = some ([.lit (.int .u64 0), .lit (.int .i64 0), .lit (.int .u8 0)], [], places) :=
  ⟨[], by kernel_rfl⟩

set_option maxRecDepth 100000 in
theorem lifted (os : Os) (started : os.Started) (H : Type) (enc : TypeId × Value → H) (F : Stop.Interp) :
    ReturnsInHanded {} Tryd.checked os 8 .any ((OpenSpec.ofChange Rows.ctrlApartSpec).preRow enc Tryd.prog Tryd.f8 Rows.ctrlApartRow.domain false Rows.ctrlApartRow.laid) (((OpenSpec.ofChange Rows.ctrlApartSpec).at F).post enc Tryd.prog Tryd.f8 false true false false) := by
  obtain ⟨places, hx⟩ := reads os enc
  refine returnsInHanded_of_row (C := Tryd.checked) (s := OpenSpec.ofChange Rows.ctrlApartSpec) own started (by kernel_rfl) Tryd.func8
    (witness_row_atRef (enc := enc) (C := Tryd.checked) false (laidWorld os) #[.int .u64 0, .int .i64 0, .int .u8 0] rfl (by kernel_rfl) (by kernel_rfl) (by kernel_rfl)
      (OpenSpec.preRow_of_cond 8 hx (by kernel_rfl) (fun k hk => by cases hk) (by kernel_rfl) (laid_met os))) ?_
  intro W base args ds gs before hval hW _ _ _ hL _ _
  exact contract H enc W base args ds gs before hval hW hL

theorem said : Rows.CtrlApartSaid :=
  OpenClaim.holds_of_cond 8 Tryd.f8 rfl rfl rfl rfl rfl rfl rfl ⟨rfl, rfl, rfl, rfl, rfl⟩ rfl rfl rfl rfl rfl (by kernel_rfl) Tryd.func8 (by kernel_rfl)
    (of_decide_eq_true (by kernel_rfl)) (by unfold Func.isWrapper; first | (rw [if_pos (by decide +kernel)]; kernel_rfl) | (rw [if_neg (by decide +kernel)]; exact ⟨rfl, rfl⟩))
    (fun os started H enc _ F => by rw [OpenClaim.pre_eq_preRow]; exact lifted os started H enc F)

theorem plain (f : FuncId) (fn : Func) (hf : Tryd.pinned.checked.prog.funcNamed "ambler/amblerlaw02.CtrlApart" = some f) (hfn : Tryd.pinned.checked.prog.funcs[f]? = some fn) :
    true = Tryd.pinned.checked.prog.looks [] ∧ ∀ (j : Nat) t, fn.params[j]? = some t → Tryd.pinned.checked.prog.wantsStandIn t = false := by
  obtain rfl : f = 8 := Option.some.inj ((show Tryd.prog.funcNamed "ambler/amblerlaw02.CtrlApart" = some 8 by kernel_rfl).symm.trans hf) |>.symm
  obtain rfl : fn = Tryd.f8 := (Option.some.inj (Tryd.func8.symm.trans hfn)).symm
  refine ⟨by kernel_rfl, fun j t ht => ?_⟩
  rw [Tryd.params8] at ht
  have hm := Array.mem_of_getElem? ht
  have all : ∀ t ∈ (#[22, 3, 5] : Array TypeId), Tryd.prog.wantsStandIn t = false := by decide +kernel
  exact all t hm

theorem card : Rows.CtrlApartCardSaid :=
  Claim7.holds_tied_plain_at .later [] _ _ _ _ said (fun _ h => by cases h) (by kernel_rfl) (fun _ h => by cases h) ctrlApart_row_tie rfl ⟨rfl, rfl⟩ (by kernel_rfl) rfl plain (by kernel_rfl)
end Go.Proofs.YtdlfkjpnbgobhaaDoor.ctrlApart
