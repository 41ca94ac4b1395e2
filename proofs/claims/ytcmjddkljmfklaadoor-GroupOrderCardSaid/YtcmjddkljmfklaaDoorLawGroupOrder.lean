/- GroupOrder, as the card states it: for every input the law answers true, and each argument reads as it did. No condition but the row's. -/
import Derived.Test.YtcmjddkljmfklaaDoorCards
import Derived.Test.YtcmjddkljmfklaaDoorTie
import Derived.WalkKit
import Derived.ProofKit
import Derived.OpenShut
import Derived.Deep.DeepHandedRow
import Derived.Deep.DeepWitnessRowRef
import Derived.LaidLaws
import Derived.ChangeMaps5
import Derived.Test.YtcmjddkljmfklaaDoorCard
import Derived.Test.YtcmjddkljmfklaaDoorGroupOrder
import Derived.Test.YtcmjddkljmfklaaDoorRowsNat
import Derived.Test.YtcmjddkljmfklaaDoorLaidTail
import Derived.Test.YtcmjddkljmfklaaDoorSwarTab
import Derived.Test.YtcmjddkljmfklaaDoorU64
namespace Go.Proofs.YtcmjddkljmfklaaDoor.groupOrder
set_option linter.unusedVariables false
set_option linter.unusedSimpArgs false
open Go.ChangeShapes Go.WideShapes Go.ChangeAt Go.RowKit Go.Proofs.YtcmjddkljmfklaaDoor

theorem own : ownKnob Tryd.prog.godebug = none := by kernel_rfl

set_option maxRecDepth 100000 in
theorem contract (H : Type) (enc : TypeId × Value → H) (W : World) (base : Nat) (args : Array Value) (ds gs : List (DataW H)) (before : List MemPlace)
    (hval : ∀ (j : Nat) t v, Tryd.f5.params[j]? = some t → args[j]? = some v → Value.okWide Tryd.prog W .any base t v)
    (hW : DataW.Whole enc Tryd.prog Tryd.f5.params.toList Rows.groupOrderSpec.vars false W args.toList ds gs before) (hL : laidMetH Tryd.prog Rows.groupOrderRow.laid W) :
    Calls Tryd.prog 5 args W fun e W' => ∃ v, e = .returned v ∧ Rows.groupOrderSpec.post enc Tryd.prog Tryd.f5 false true false false W args v W' := by
  have hW' := hW
  obtain ⟨p, q, hA0, hV, rfl, hfz, hnd⟩ := hW
  have hA : DataW.TrodAll enc Tryd.prog W 0 (fun _ => true) true Tryd.f5.params.toList args.toList ds p := hA0
  rw [Tryd.params5] at hA hval
  obtain ⟨v0, vs0, d0, ds0, p0, q0, hargs, rfl, rfl, h0, r0⟩ := trodAll_cons hA
  obtain ⟨v1, vs1, d1, ds1, p1, q1, rfl, rfl, rfl, h1, r1⟩ := trodAll_cons r0
  obtain ⟨rfl, rfl, rfl⟩ := trodAll_nil r1
  obtain rfl : args = #[v0, v1] := by cases args; simp_all
  obtain ⟨rfl, rfl⟩ := trodVars_none hV
  obtain ⟨a0, len0, cap0, rfl⟩ := okWide_slice Tryd.underlying60 (hval 0 60 v0 rfl rfl)
  have ok1 := hval 1 62 v1 rfl rfl
  obtain ⟨cs1, rfl, hz1, hrow1⟩ := okWide_row (by kernel_rfl) ok1
  have hsz1 : cs1.size = 3 := hz1.trans (by kernel_rfl)
  obtain ⟨x1_0, e1_0, ok1_0⟩ := row_cell (ts := [22, 22, 22]) (u := 22) hrow1 (by kernel_rfl) 0 (by omega) (by decide) rfl
  obtain ⟨a1_0, rfl, w1_0⟩ := cell_int Tryd.underlying22 ok1_0
  obtain ⟨x1_1, e1_1, ok1_1⟩ := row_cell (ts := [22, 22, 22]) (u := 22) hrow1 (by kernel_rfl) 1 (by omega) (by decide) rfl
  obtain ⟨a1_1, rfl, w1_1⟩ := cell_int Tryd.underlying22 ok1_1
  obtain ⟨x1_2, e1_2, ok1_2⟩ := row_cell (ts := [22, 22, 22]) (u := 22) hrow1 (by kernel_rfl) 2 (by omega) (by decide) rfl
  obtain ⟨a1_2, rfl, w1_2⟩ := cell_int Tryd.underlying22 ok1_2
  obtain rfl : cs1 = #[.int .u64 a1_0, .int .u64 a1_1, .int .u64 a1_2] := by
    apply Array.ext (by simpa using hsz1)
    intro i h1 h2
    have hi : i < 3 := by omega
    apply Option.some.inj; rw [← Array.getElem?_eq_getElem h1, ← Array.getElem?_eq_getElem h2]
    match i, hi with
    | 0, _ => exact e1_0
    | 1, _ => exact e1_1
    | 2, _ => exact e1_2
  have walk : Calls Tryd.prog 5 #[.slice a0 len0 cap0, .agg #[.int .u64 a1_0, .int .u64 a1_1, .int .u64 a1_2]] W fun e w' => e = .returned (.bool true) ∧ Below W.heap.size W w' := by
    obtain ⟨E, hE⟩ := ec_of [1, 3, 5] 3 (by decide) (laid_tail (show laidMet Tryd.prog Rows.groupOrderRow.laid W from hL)) (.cons (err_row _ _ _ _ _ (by kernel_rfl) (by kernel_rfl)) (.cons (err_row _ _ _ _ _ (by kernel_rfl) (by kernel_rfl)) (.cons (err_row _ _ _ _ _ (by kernel_rfl) (by kernel_rfl)) (.nil))))
    obtain ⟨f, hR⟩ := rowsAt_of' Tryd.underlying60 Tryd.underlying62 (by kernel_rfl) (by kernel_rfl) (by decide) (by kernel_rfl) h0
    obtain ⟨g, hg, hR2⟩ := rowsNat hR
    obtain ⟨xh, hxh, rfl⟩ := u64_of w1_2
    exact groupOrder_any _ _ g (fun i => hg i 2) _ _ xh hxh E W (hE.sub (by decide)) (tab64_of hL (by simp [Rows.groupOrderRow])) hR2
  refine walk.mono fun e W' ⟨he, hB⟩ => ⟨_, he, ?_⟩
  exact law_post (s := Rows.groupOrderSpec) (tb := 4) hW' (by kernel_rfl) (by rw [Tryd.params5]; decide +kernel) rfl rfl Tryd.underlying4 rfl hB

theorem lowIs (os : Os) : (World.settled Tryd.prog os).heap.size = 22 := by kernel_rfl
noncomputable def laidWorld (os : Os) : World := { World.holding Tryd.prog os ⟨#[.cells #[.string ⟨#[97, 32, 110, 117, 109, 98, 101, 114, 32, 105, 115, 32, 111, 117, 116, 32, 111, 102, 32, 105, 116, 115, 32, 114, 97, 110, 103, 101]⟩] 211 (0, 0), .cells #[.string ⟨#[105, 116, 32, 105, 115, 32, 110, 111, 116, 32, 111, 102, 32, 105, 116, 115, 32, 102, 111, 114, 109]⟩] 211 (0, 0), .cells #[.string ⟨#[105, 116, 32, 99, 97, 110, 32, 110, 111, 116, 32, 98, 101, 32, 100, 111, 110, 101, 32, 105, 110, 32, 116, 104, 105, 115, 32, 115, 116, 97, 116, 101]⟩] 211 (0, 0)], #[], []⟩ with heap := (((((World.holding Tryd.prog os ⟨#[.cells #[.string ⟨#[97, 32, 110, 117, 109, 98, 101, 114, 32, 105, 115, 32, 111, 117, 116, 32, 111, 102, 32, 105, 116, 115, 32, 114, 97, 110, 103, 101]⟩] 211 (0, 0), .cells #[.string ⟨#[105, 116, 32, 105, 115, 32, 110, 111, 116, 32, 111, 102, 32, 105, 116, 115, 32, 102, 111, 114, 109]⟩] 211 (0, 0), .cells #[.string ⟨#[105, 116, 32, 99, 97, 110, 32, 110, 111, 116, 32, 98, 101, 32, 100, 111, 110, 101, 32, 105, 110, 32, 116, 104, 105, 115, 32, 115, 116, 97, 116, 101]⟩] 211 (0, 0)], #[], []⟩).heap.modify 16 fun | .cells _ t fr => .cells #[.int .u8 0, .int .u8 1, .int .u8 56, .int .u8 2, .int .u8 57, .int .u8 49, .int .u8 28, .int .u8 3, .int .u8 61, .int .u8 58, .int .u8 42, .int .u8 50, .int .u8 38, .int .u8 29, .int .u8 17, .int .u8 4, .int .u8 62, .int .u8 47, .int .u8 59, .int .u8 36, .int .u8 45, .int .u8 43, .int .u8 51, .int .u8 22, .int .u8 53, .int .u8 39, .int .u8 33, .int .u8 30, .int .u8 24, .int .u8 18, .int .u8 12, .int .u8 5, .int .u8 63, .int .u8 55, .int .u8 48, .int .u8 27, .int .u8 60, .int .u8 41, .int .u8 37, .int .u8 16, .int .u8 46, .int .u8 35, .int .u8 44, .int .u8 21, .int .u8 52, .int .u8 32, .int .u8 23, .int .u8 11, .int .u8 54, .int .u8 26, .int .u8 40, .int .u8 15, .int .u8 34, .int .u8 20, .int .u8 31, .int .u8 10, .int .u8 25, .int .u8 14, .int .u8 19, .int .u8 9, .int .u8 13, .int .u8 8, .int .u8 7, .int .u8 6] t fr | o => o).modify 0 fun | .cells _ t fr => .cells #[.iface 187 (.pointer (some ⟨22, 0, none⟩))] t fr | o => o).modify 2 fun | .cells _ t fr => .cells #[.iface 187 (.pointer (some ⟨23, 0, none⟩))] t fr | o => o).modify 4 fun | .cells _ t fr => .cells #[.iface 187 (.pointer (some ⟨24, 0, none⟩))] t fr | o => o) }
theorem laid_met (os : Os) : laidMet Tryd.prog Rows.groupOrderRow.laid ((laidWorld os).forCall (fun _ _ => 0) ⟨#[], #[.slice none 0 0, .agg #[.int .u64 0, .int .u64 0, .int .u64 0]], []⟩).memory := laidMet_of_run' 8 (by kernel_rfl) (by kernel_rfl)
theorem reads (os : Os) {H : Type} (enc : TypeId × Value → H) : ∃ places, DataW.whole enc Tryd.prog ((laidWorld os).forCall (fun _ _ => 0) ⟨#[], #[.slice none 0 0, .agg #[.int .u64 0, .int .u64 0, .int .u64 0]], []⟩).memory Tryd.f5.params.toList Rows.groupOrderSpec.vars false (#[.slice none 0 0, .agg #[.int .u64 0, .int .u64 0, .int .u64 0]] : Array Value).toList 8 = some ([.nil, .agg [.lit (.int .u64 0), .lit (.int .u64 0), .lit (.int .u64 0)]], [], places) :=
  ⟨[], by kernel_rfl⟩

set_option maxRecDepth 100000 in
theorem lifted (os : Os) (started : os.Started) (H : Type) (enc : TypeId × Value → H) (F : Stop.Interp) :
    ReturnsInHanded {} Tryd.checked os 5 .any ((OpenSpec.ofChange Rows.groupOrderSpec).preRow enc Tryd.prog Tryd.f5 Rows.groupOrderRow.domain false Rows.groupOrderRow.laid) (((OpenSpec.ofChange Rows.groupOrderSpec).at F).post enc Tryd.prog Tryd.f5 false true false false) := by
  obtain ⟨places, hx⟩ := reads os enc
  refine returnsInHanded_of_row (C := Tryd.checked) (s := OpenSpec.ofChange Rows.groupOrderSpec) own started (by kernel_rfl) Tryd.func5
    (witness_row_atRef (enc := enc) (C := Tryd.checked) false (laidWorld os) #[.slice none 0 0, .agg #[.int .u64 0, .int .u64 0, .int .u64 0]] rfl (by kernel_rfl) (by kernel_rfl) (by kernel_rfl)
      (OpenSpec.preRow_of_cond 8 hx (by kernel_rfl) (fun k hk => by cases hk) (by kernel_rfl) (laid_met os))) ?_
  intro W base args ds gs before hval hW _ _ _ hL _ _
  exact contract H enc W base args ds gs before hval hW hL

theorem said : Rows.GroupOrderSaid :=
  OpenClaim.holds_of_cond 5 Tryd.f5 rfl rfl rfl rfl rfl rfl rfl ⟨rfl, rfl, rfl, rfl, rfl⟩ rfl rfl rfl rfl rfl (by kernel_rfl) Tryd.func5 (by kernel_rfl)
    (of_decide_eq_true (by kernel_rfl)) (by unfold Func.isWrapper; first | (rw [if_pos (by decide +kernel)]; kernel_rfl) | (rw [if_neg (by decide +kernel)]; exact ⟨rfl, rfl⟩))
    (fun os started H enc _ F => by rw [OpenClaim.pre_eq_preRow]; exact lifted os started H enc F)

theorem plain (f : FuncId) (fn : Func) (hf : Tryd.pinned.checked.prog.funcNamed "ambler/amblerlaw08.GroupOrder" = some f) (hfn : Tryd.pinned.checked.prog.funcs[f]? = some fn) :
    true = Tryd.pinned.checked.prog.looks [] ∧ ∀ (j : Nat) t, fn.params[j]? = some t → Tryd.pinned.checked.prog.wantsStandIn t = false := by
  obtain rfl : f = 5 := Option.some.inj ((show Tryd.prog.funcNamed "ambler/amblerlaw08.GroupOrder" = some 5 by kernel_rfl).symm.trans hf) |>.symm
  obtain rfl : fn = Tryd.f5 := (Option.some.inj (Tryd.func5.symm.trans hfn)).symm
  refine ⟨by kernel_rfl, fun j t ht => ?_⟩
  rw [Tryd.params5] at ht
  have hm := Array.mem_of_getElem? ht
  have all : ∀ t ∈ (#[60, 62] : Array TypeId), Tryd.prog.wantsStandIn t = false := by decide +kernel
  exact all t hm

theorem card : Rows.GroupOrderCardSaid :=
  Claim7.holds_tied_plain_at .later [] _ _ _ _ said (fun _ h => by cases h) (by kernel_rfl) (fun _ h => by cases h) groupOrder_row_tie rfl ⟨rfl, rfl⟩ (by kernel_rfl) rfl plain (by kernel_rfl)
end Go.Proofs.YtcmjddkljmfklaaDoor.groupOrder
