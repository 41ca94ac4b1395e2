/- slices.Collect and slices.AppendSeq at []int, over an iterator whose elements are known by their number. No condition but that they are few. -/
import Derived.Test.YtplimhllfbdocaaDoorProg
import Derived.Test.YtplimhllfbdocaaDoorRange
import Derived.Handy
import Derived.Lib.Hide
import Derived.Maps.AppendAt
namespace Go.Proofs.YtplimhllfbdocaaDoor
set_option linter.unusedVariables false
set_option linter.unusedSimpArgs false
open Go.RowKit Go.Proofs
attribute [local go_sem] Oper.semAt_some wide_depth round_depth wide_fn round_fn

theorem infoInt : (Tryd.prog.info? 3).map (fun i => (i.zero, i.size, i.bytes)) = some (some (.int .i64 0), 1, 8) := by kernel_rfl

def encI (xs : Nat → Int) (i : Nat) : Value := .int .i64 (xs i)
theorem encI_snoc (xs : Nat → Int) (i : Nat) : (List.range (i + 1)).map (encI xs) = (List.range i).map (encI xs) ++ [.int .i64 (xs i)] := by
  rw [List.range_succ, List.map_append]; rfl

set_option maxRecDepth 100000 in
set_option maxHeartbeats 2000000 in
theorem appendSeq_any (gf : Nat) (lb : Array Value) (xs : Nat → Int) (N : Nat) (S : Nat → Prop) (w : World) (hS : ∀ b, S b → b < w.heap.size) (hN : N ≤ 1000000)
    (eg : ∀ args w, (callFunc gf args).run Tryd.prog w = .ok (.enter gf args) w)
    (hseq : GivesAt Tryd.prog gf lb (fun i => #[.int .i64 (xs i)]) N S w) :
    Calls Tryd.prog 153 #[.slice none 0 0, .func (.func gf) #[] lb] w fun e w' => ∃ v, e = .returned v ∧
      w'.ownsRow w.heap.size 3 1 v N ((List.range N).map (encI xs)) ∧ (v = .slice none 0 0 ↔ N = 0) ∧ Below w.heap.size w w' := by
  obtain ⟨i0, hi, hz0, hz1, hz2⟩ := info_parts infoInt
  have hs := Lib.hid hseq
  have heg := Lib.hid eg
  clear hseq eg
  refine (callsIn_wide (n := 0)).1 ?_
  refine callsIn_of_wp_marks Tryd.func153 rfl trivial ?_
  simp only [Tryd.ntmps153, List.size_toArray, List.length_cons, List.length_nil, Nat.reduceAdd, Nat.reduceSub, Array.replicate_succ, Array.replicate_zero, List.push_toArray, List.append_toArray, List.nil_append, List.cons_append]
  gi_wp2
  have hB0 : Below w.heap.size w (w.alloc (.cells #[.slice none 0 0] 52)) := (Below.refl _ w).alloc (Nat.le_refl _) _
  refine wp_rangeAt rfl heg.out (hs.out.later (Same.of_below hB0 hS)) (fun b hb => by have := hS b hb; simp; omega) (fun _ => rfl)
    (fun i W => (∃ v, Boxed W w.heap.size 52 v ∧ W.ownsRow w.heap.size 3 1 v i ((List.range i).map (encI xs)) ∧ (v = .slice none 0 0 ↔ i = 0)) ∧ Below w.heap.size w W)
    (fun _ _ => False)
    (OwnFrom.and (Own.from (holdsRow_own w.heap.size w.heap.size 52 3 1 (fun i => i) (fun i => (List.range i).map (encI xs)) (fun i v => v = .slice none 0 0 ↔ i = 0)) _) (ownFrom_below (Nat.le_refl _) (by simp)))
    (fun _ _ _ _ hs _ _ => hs)
    ⟨⟨_, Boxed.new w _ _, World.ownsRow_nil _ _ _ _, by simp⟩, hB0⟩
    (fun T i a _ => a = { tmps := (T.setIfInBounds 7 (.int .i64 (xs i))).setIfInBounds 5 (.int .i64 (xs i)), defers := [] })
    ?assign (fun _ _ _ _ hs _ _ => hs) ?body ?done ?stop
  case assign =>
    intro l i W K hi hlt _ hK
    gi_wp2
    exact hK _ _ (KeepsFrom.refl _ _) (Same.refl _ _) hi rfl
  case body =>
    rintro l i a₁ W ⟨⟨v, hv, hrow, hnil⟩, hB⟩ hlt hsz rfl
    have hc := hv.cell
    simp only [List.setIfInBounds_toArray, List.set_cons_succ, List.set_cons_zero]
    gi_wp2_with (gi_at_builtin; refine wpListIn_append_own _ rfl _ _ 52 rfl w.heap.size 3 i0 (.int .i64 0) 1 8 Tryd.underlying52 hi hz0 hz1 hz2 rfl (by decide) _ _ _ rfl (hrow.alloc _) ⟨W.heap.size, 0, none⟩ 1 1 [.int .i64 (xs i)] rfl rfl (cell_one_new _ _ _) (by simp [Value.oneCell']) (by unfold maxLen; omega) (by omega) (by have := hB.size; simp; omega) ?_; intro v' w1 hown' hgrow _; obtain ⟨g', cap', rfl⟩ := ownsRow_succ hown'; obtain ⟨hv1, hv2, hr2, hk2, hb2⟩ := hv.appended (by decide) hrow hB.size (Nat.le_refl _) hown' hgrow; have hc1 := hv1.cell; have hf1 := hv1.frozen)
    exact ⟨hk2.from _, Same.of_below hb2 hS, ⟨_, hv2, by rw [encI_snoc]; exact hr2, by simp⟩, hB.trans hb2⟩
  case done =>
    rintro D W hD ⟨⟨v, hv, hrow, hnil⟩, hB⟩ hK
    have hc := hv.cell
    gi_wp2
    refine ⟨by simp, .inl ⟨_, _, rfl, run_takeDeferred hK, ?_⟩⟩
    exact ⟨_, results_tmp rfl _ _ _, v, rfl, ownsRow_putObj hrow _ hK rfl, hnil, hB.trans (below_putObj _ (by simp at hD; omega) hK)⟩
  case stop =>
    rintro D c W _ h _
    exact h.elim

set_option maxHeartbeats 1000000 in
theorem collect_any (gf : Nat) (lb : Array Value) (xs : Nat → Int) (N : Nat) (S : Nat → Prop) (w : World) (hS : ∀ b, S b → b < w.heap.size) (hN : N ≤ 1000000)
    (eg : ∀ args w, (callFunc gf args).run Tryd.prog w = .ok (.enter gf args) w)
    (hseq : GivesAt Tryd.prog gf lb (fun i => #[.int .i64 (xs i)]) N S w) :
    Calls Tryd.prog 111 #[.func (.func gf) #[] lb] w fun e w' => ∃ v, e = .returned v ∧
      w'.ownsRow w.heap.size 3 1 v N ((List.range N).map (encI xs)) ∧ (v = .slice none 0 0 ↔ N = 0) ∧ Below w.heap.size w w' := by
  have hc := Lib.hid (appendSeq_any gf lb xs N S w hS hN eg hseq)
  clear hseq eg
  go_enter Tryd.func111, Tryd.ntmps111
  go_wp2_with (go_at_call 153; refine hc.out.mono ?_; rintro e w' ⟨v, rfl, h1, h2, h3⟩; have H1 := Lib.hid h1; have H2 := Lib.hid h2; clear h1 h2)
  go_ret
  exact ⟨v, rfl, H1.out, H2.out, h3⟩

end Go.Proofs.YtplimhllfbdocaaDoor
