/- SwarBack, as the card states it: for every input the law answers true, and each argument reads as it did. No condition but the row's. -/
import Derived.Test.YtfdeoblciichmaaDoorCards
import Derived.Test.YtfdeoblciichmaaDoorTie
import Derived.WalkKit
import Derived.ProofKit
import Derived.OpenShut
import Derived.Deep.DeepHandedRow
import Derived.Deep.DeepWitnessRowRef
import Derived.LaidLaws
import Derived.Test.YtfdeoblciichmaaDoorCard
import Derived.Test.YtfdeoblciichmaaDoorSwarBack
import Derived.Test.YtfdeoblciichmaaDoorSwarTab
namespace Go.Proofs.YtfdeoblciichmaaDoor.swarBack
set_option linter.unusedVariables false
set_option linter.unusedSimpArgs false
open Go.ChangeShapes Go.WideShapes Go.ChangeAt Go.RowKit Go.Proofs.YtfdeoblciichmaaDoor

theorem own : ownKnob Tryd.prog.godebug = none := by kernel_rfl

set_option maxRecDepth 100000 in
theorem contract (H : Type) (enc : TypeId × Value → H) (W : World) (base : Nat) (args : Array Value) (ds gs : List (DataW H)) (before : List MemPlace)
    (hval : ∀ (j : Nat) t v, Tryd.f6.params[j]? = some t → args[j]? = some v → Value.okWide Tryd.prog W .any base t v)
    (hW : DataW.Whole enc Tryd.prog Tryd.f6.params.toList Rows.swarBackSpec.vars false W args.toList ds gs before) (hL : laidMetH Tryd.prog Rows.swarBackRow.laid W) :
    Calls Tryd.prog 6 args W fun e W' => ∃ v, e = .returned v ∧ Rows.swarBackSpec.post enc Tryd.prog Tryd.f6 false true false false W args v W' := by
  have hW' := hW
  obtain ⟨p, q, hA0, hV, rfl, hfz, hnd⟩ := hW
  have hA : DataW.TrodAll enc Tryd.prog W 0 (fun _ => true) true Tryd.f6.params.toList args.toList ds p := hA0
  rw [Tryd.params6] at hA hval
  obtain ⟨v0, vs0, d0, ds0, p0, q0, hargs, rfl, rfl, h0, r0⟩ := trodAll_cons hA
  obtain ⟨v1, vs1, d1, ds1, p1, q1, rfl, rfl, rfl, h1, r1⟩ := trodAll_cons r0
  obtain ⟨rfl, rfl, rfl⟩ := trodAll_nil r1
  obtain rfl : args = #[v0, v1] := by cases args; simp_all
  obtain ⟨rfl, rfl⟩ := trodVars_none hV
  have ok0 := hval 0 32 v0 rfl rfl
  obtain ⟨cs0, rfl, hz0, hrow0⟩ := okWide_row (by kernel_rfl) ok0
  have hsz0 : cs0.size = 8 := hz0.trans (by kernel_rfl)
  obtain ⟨x0_0, e0_0, ok0_0⟩ := row_cell (ts := [5, 5, 5, 5, 5, 5, 5, 5]) (u := 5) hrow0 (by kernel_rfl) 0 (by omega) (by decide) rfl
  obtain ⟨a0_0, rfl, w0_0⟩ := cell_int Tryd.underlying5 ok0_0
  obtain ⟨x0_1, e0_1, ok0_1⟩ := row_cell (ts := [5, 5, 5, 5, 5, 5, 5, 5]) (u := 5) hrow0 (by kernel_rfl) 1 (by omega) (by decide) rfl
  obtain ⟨a0_1, rfl, w0_1⟩ := cell_int Tryd.underlying5 ok0_1
  obtain ⟨x0_2, e0_2, ok0_2⟩ := row_cell (ts := [5, 5, 5, 5, 5, 5, 5, 5]) (u := 5) hrow0 (by kernel_rfl) 2 (by omega) (by decide) rfl
  obtain ⟨a0_2, rfl, w0_2⟩ := cell_int Tryd.underlying5 ok0_2
  obtain ⟨x0_3, e0_3, ok0_3⟩ := row_cell (ts := [5, 5, 5, 5, 5, 5, 5, 5]) (u := 5) hrow0 (by kernel_rfl) 3 (by omega) (by decide) rfl
  obtain ⟨a0_3, rfl, w0_3⟩ := cell_int Tryd.underlying5 ok0_3
  obtain ⟨x0_4, e0_4, ok0_4⟩ := row_cell (ts := [5, 5, 5, 5, 5, 5, 5, 5]) (u := 5) hrow0 (by kernel_rfl) 4 (by omega) (by decide) rfl
  obtain ⟨a0_4, rfl, w0_4⟩ := cell_int Tryd.underlying5 ok0_4
  obtain ⟨x0_5, e0_5, ok0_5⟩ := row_cell (ts := [5, 5, 5, 5, 5, 5, 5, 5]) (u := 5) hrow0 (by kernel_rfl) 5 (by omega) (by decide) rfl
  obtain ⟨a0_5, rfl, w0_5⟩ := cell_int Tryd.underlying5 ok0_5
  obtain ⟨x0_6, e0_6, ok0_6⟩ := row_cell (ts := [5, 5, 5, 5, 5, 5, 5, 5]) (u := 5) hrow0 (by kernel_rfl) 6 (by omega) (by decide) rfl
  obtain ⟨a0_6, rfl, w0_6⟩ := cell_int Tryd.underlying5 ok0_6
  obtain ⟨x0_7, e0_7, ok0_7⟩ := row_cell (ts := [5, 5, 5, 5, 5, 5, 5, 5]) (u := 5) hrow0 (by kernel_rfl) 7 (by omega) (by decide) rfl
  obtain ⟨a0_7, rfl, w0_7⟩ := cell_int Tryd.underlying5 ok0_7
  obtain rfl : cs0 = #[.int .u8 a0_0, .int .u8 a0_1, .int .u8 a0_2, .int .u8 a0_3, .int .u8 a0_4, .int .u8 a0_5, .int .u8 a0_6, .int .u8 a0_7] := by
    apply Array.ext (by simpa using hsz0)
    intro i h1 h2
    have hi : i < 8 := by omega
    apply Option.some.inj; rw [← Array.getElem?_eq_getElem h1, ← Array.getElem?_eq_getElem h2]
    match i, hi with
    | 0, _ => exact e0_0
    | 1, _ => exact e0_1
    | 2, _ => exact e0_2
    | 3, _ => exact e0_3
    | 4, _ => exact e0_4
    | 5, _ => exact e0_5
    | 6, _ => exact e0_6
    | 7, _ => exact e0_7
  obtain ⟨a1, rfl, rfl, rfl, w1⟩ := open_int Tryd.underlying3 (hval 1 3 v1 rfl rfl) h1
  have walk : Calls Tryd.prog 6 #[.agg #[.int .u8 a0_0, .int .u8 a0_1, .int .u8 a0_2, .int .u8 a0_3, .int .u8 a0_4, .int .u8 a0_5, .int .u8 a0_6, .int .u8 a0_7], .int .i64 a1] W fun e w' => e = .returned (.bool true) ∧ Below W.heap.size W w' := by
    obtain ⟨n0, h0, rfl⟩ := u8_nat w0_0
    obtain ⟨n1, h1, rfl⟩ := u8_nat w0_1
    obtain ⟨n2, h2, rfl⟩ := u8_nat w0_2
    obtain ⟨n3, h3, rfl⟩ := u8_nat w0_3
    obtain ⟨n4, h4, rfl⟩ := u8_nat w0_4
    obtain ⟨n5, h5, rfl⟩ := u8_nat w0_5
    obtain ⟨n6, h6, rfl⟩ := u8_nat w0_6
    obtain ⟨n7, h7, rfl⟩ := u8_nat w0_7
    have hl : ∀ i, i < 8 → (fun k : Nat => [n0, n1, n2, n3, n4, n5, n6, n7].getD k 0) i < 256 := by
      intro i hi
      rcases lt8 hi with rfl | rfl | rfl | rfl | rfl | rfl | rfl | rfl <;> assumption
    exact swarBack_any (fun k : Nat => [n0, n1, n2, n3, n4, n5, n6, n7].getD k 0) hl a1 W (tab64_of hL (by simp [Rows.swarBackRow]))
  refine walk.mono fun e W' ⟨he, hB⟩ => ⟨_, he, ?_⟩
  exact law_post (s := Rows.swarBackSpec) (tb := 4) hW' (by kernel_rfl) (by rw [Tryd.params6]; decide +kernel) rfl rfl Tryd.underlying4 rfl hB

noncomputable def laidWorld (os : Os) : World := { World.holding Tryd.prog os ⟨#[], #[], []⟩ with heap := ((World.holding Tryd.prog os ⟨#[], #[], []⟩).heap.modify 0 fun | .cells _ t fr => .cells #[.int .u8 0, .int .u8 1, .int .u8 56, .int .u8 2, .int .u8 57, .int .u8 49, .int .u8 28, .int .u8 3, .int .u8 61, .int .u8 58, .int .u8 42, .int .u8 50, .int .u8 38, .int .u8 29, .int .u8 17, .int .u8 4, .int .u8 62, .int .u8 47, .int .u8 59, .int .u8 36, .int .u8 45, .int .u8 43, .int .u8 51, .int .u8 22, .int .u8 53, .int .u8 39, .int .u8 33, .int .u8 30, .int .u8 24, .int .u8 18, .int .u8 12, .int .u8 5, .int .u8 63, .int .u8 55, .int .u8 48, .int .u8 27, .int .u8 60, .int .u8 41, .int .u8 37, .int .u8 16, .int .u8 46, .int .u8 35, .int .u8 44, .int .u8 21, .int .u8 52, .int .u8 32, .int .u8 23, .int .u8 11, .int .u8 54, .int .u8 26, .int .u8 40, .int .u8 15, .int .u8 34, .int .u8 20, .int .u8 31, .int .u8 10, .int .u8 25, .int .u8 14, .int .u8 19, .int .u8 9, .int .u8 13, .int .u8 8, .int .u8 7, .int .u8 6] t fr | o => o) }
theorem laid_met (os : Os) : laidMet Tryd.prog Rows.swarBackRow.laid ((laidWorld os).forCall (fun _ _ => 0) ⟨#[], #[.agg #[.int .u8 0, .int .u8 0, .int .u8 0, .int .u8 0, .int .u8 0, .int .u8 0, .int .u8 0, .int .u8 0], .int .i64 0], []⟩).memory := laidMet_of_run' 8 (by kernel_rfl) (by kernel_rfl)
theorem reads (os : Os) {H : Type} (enc : TypeId × Value → H) : ∃ places, DataW.whole enc Tryd.prog ((laidWorld os).forCall (fun _ _ => 0) ⟨#[], #[.agg #[.int .u8 0, .int .u8 0, .int .u8 0, .int .u8 0, .int .u8 0, .int .u8 0, .int .u8 0, .int .u8 0], .int .i64 0], []⟩).memory Tryd.f6.params.toList Rows.swarBackSpec.vars false (#[.agg #[.int .u8 0, .int .u8 0, .int .u8 0, .int .u8 0, .int .u8 0, .int .u8 0, .int .u8 0, .int .u8 0], .int .i64 0] : Array Value).toList 8 = some ([.agg [.lit (.int .u8 0), .lit (.int .u8 0), .lit (.int .u8 0), .lit (.int .u8 0), .lit (.int .u8 0), .lit (.int .u8 0), .lit (.int .u8 0), .lit (.int .u8 0)], .lit (.int .i64 0)], [], places) :=
  ⟨[], by kernel_rfl⟩

set_option maxRecDepth 100000 in
theorem lifted (os : Os) (started : os.Started) (H : Type) (enc : TypeId × Value → H) (F : Stop.Interp) :
    ReturnsInHanded {} Tryd.checked os 6 .any ((OpenSpec.ofChange Rows.swarBackSpec).preRow enc Tryd.prog Tryd.f6 Rows.swarBackRow.domain false Rows.swarBackRow.laid) (((OpenSpec.ofChange Rows.swarBackSpec).at F).post enc Tryd.prog Tryd.f6 false true false false) := by
  obtain ⟨places, hx⟩ := reads os enc
  refine returnsInHanded_of_row (C := Tryd.checked) (s := OpenSpec.ofChange Rows.swarBackSpec) own started (by kernel_rfl) Tryd.func6
    (witness_row_at (enc := enc) (C := Tryd.checked) false (laidWorld os) #[.agg #[.int .u8 0, .int .u8 0, .int .u8 0, .int .u8 0, .int .u8 0, .int .u8 0, .int .u8 0, .int .u8 0], .int .i64 0] rfl (by kernel_rfl) (by kernel_rfl) (by kernel_rfl)
      (OpenSpec.preRow_of_cond 8 hx (by kernel_rfl) (fun k hk => by cases hk) (by kernel_rfl) (laid_met os))) ?_
  intro W base args ds gs before hval hW _ _ _ hL _ _
  exact contract H enc W base args ds gs before hval hW hL

theorem said : Rows.SwarBackSaid :=
  OpenClaim.holds_of_cond 6 Tryd.f6 rfl rfl rfl rfl rfl rfl rfl ⟨rfl, rfl, rfl, rfl, rfl⟩ rfl rfl rfl rfl rfl (by kernel_rfl) Tryd.func6 (by kernel_rfl)
    (of_decide_eq_true (by kernel_rfl)) (by unfold Func.isWrapper; first | (rw [if_pos (by decide +kernel)]; kernel_rfl) | (rw [if_neg (by decide +kernel)]; exact ⟨rfl, rfl⟩))
    (fun os started H enc _ F => by rw [OpenClaim.pre_eq_preRow]; exact lifted os started H enc F)

theorem plain (f : FuncId) (fn : Func) (hf : Tryd.pinned.checked.prog.funcNamed "ambler/amblerlaw01.SwarBack" = some f) (hfn : Tryd.pinned.checked.prog.funcs[f]? = some fn) :
    false = Tryd.pinned.checked.prog.looks [] ∧ ∀ (j : Nat) t, fn.params[j]? = some t → Tryd.pinned.checked.prog.wantsStandIn t = false := by
  obtain rfl : f = 6 := Option.some.inj ((show Tryd.prog.funcNamed "ambler/amblerlaw01.SwarBack" = some 6 by kernel_rfl).symm.trans hf) |>.symm
  obtain rfl : fn = Tryd.f6 := (Option.some.inj (Tryd.func6.symm.trans hfn)).symm
  refine ⟨by kernel_rfl, fun j t ht => ?_⟩
  rw [Tryd.params6] at ht
  have hm := Array.mem_of_getElem? ht
  have all : ∀ t ∈ (#[32, 3] : Array TypeId), Tryd.prog.wantsStandIn t = false := by decide +kernel
  exact all t hm

theorem card : Rows.SwarBackCardSaid :=
  Claim7.holds_tied_plain_at .later [] _ _ _ _ said (fun _ h => by cases h) (by kernel_rfl) (fun _ h => by cases h) swarBack_row_tie rfl ⟨rfl, rfl⟩ (by kernel_rfl) rfl plain (by kernel_rfl)
end Go.Proofs.YtfdeoblciichmaaDoor.swarBack
