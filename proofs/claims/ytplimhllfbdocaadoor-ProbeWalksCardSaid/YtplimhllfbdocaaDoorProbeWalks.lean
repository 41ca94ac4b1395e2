/- The walk of ProbeWalks. Condition: the errors' cells. -/
import Derived.Test.YtplimhllfbdocaaDoorProbeAt
import Derived.Test.YtplimhllfbdocaaDoorGives
import Derived.Test.YtplimhllfbdocaaDoorRangeM
import Derived.Deep.DeepCutAuto
namespace Go.Proofs.YtplimhllfbdocaaDoor
set_option linter.unusedVariables false
set_option linter.unusedSimpArgs false
open Go.RowKit Go.Proofs
attribute [local go_sem] Oper.semAt_some wide_depth round_depth wide_fn round_fn

set_option maxRecDepth 100000 in
set_option maxHeartbeats 4000000 in
theorem probeWalks_go (h : Nat) (n i : Int) (hh : h < 18446744073709551616) (a b p q : Int) (ev ev2 : Value) (w : World)
    (AT : CGives w 32 #[.int .u64 (h : Int), .int .i64 n, .int .i64 i] (.tuple #[.int .i64 a, ev]))
    (RA : CGives w 33 #[.int .u64 (h : Int), .int .i64 n, .int .i64 i] (.tuple #[.int .i64 a, .int .i64 p]))
    (HO : CGives w 34 #[.int .u64 (h : Int), .int .i64 n] (.tuple #[.int .i64 b, ev2]))
    (RH : CGives w 33 #[.int .u64 (h : Int), .int .i64 n, .int .i64 0] (.tuple #[.int .i64 b, .int .i64 q]))
    (NU : CGives w 20 #[ev] (.int .i64 p)) (NU2 : CGives w 20 #[ev2] (.int .i64 q)) :
    Calls Tryd.prog 5 #[.int .u64 (h : Int), .int .i64 n, .int .i64 i] w fun e w' => e = .returned (.bool true) ∧ Below w.heap.size w w' := by
  obtain ⟨i0, hi, hz0, hz1, hz2⟩ := info_parts infoInt
  unfold CGives at AT RA HO RH NU NU2
  replace AT := Lib.hid AT
  replace RA := Lib.hid RA
  replace HO := Lib.hid HO
  replace RH := Lib.hid RH
  replace NU := Lib.hid NU
  replace NU2 := Lib.hid NU2
  have za : (a != a) = false := by simp
  have zb : (b != b) = false := by simp
  have zp : (p != p) = false := by simp
  have zq : (q != q) = false := by simp
  have RT := Lib.hid (fun w => right_any n w)
  have RR := Lib.hid (fun w => refRight_any n w)
  have hN64 := ordN_le n
  generalize hrb : rightB n = rb at RT RR
  have zr : (rb != rb) = false := by cases rb <;> rfl
  clear hrb
  refine (callsIn_wide (n := 0)).1 ?_
  refine callsIn_of_wp_marks Tryd.func5 rfl trivial ?_
  simp only [Tryd.ntmps5, List.size_toArray, List.length_cons, List.length_nil, Nat.reduceAdd, Nat.reduceSub, Array.replicate_succ, Array.replicate_zero, List.push_toArray, List.append_toArray, List.nil_append, List.cons_append]
  refine wpIn_wide.2 ?_
  go_upto_region 9 with (first
    | (go_at_call 31; refine (alive04_any _).mono ?_; rintro e w1 ⟨rfl, hb1⟩; have P0 := Lib.hid ((Blk.new w 4 #[.bool false]).below hb1 (by simp)); have hB1 : Below w.heap.size w w1 := (by first | exact hB1.trans (hb1.mono hB1.size) | exact hB1.trans (Below.undrew (hb1.mono hB1.size)) | exact hb1 | exact Below.trans (by go_grown) (hb1.mono (by simp <;> omega))))
    | (go_at_call 32; with_reducible refine (AT.out _ hB1).mono ?_; rintro e w1 ⟨rfl, hb1⟩; replace P0 := Lib.hid (P0.out.below hb1 P0.out.lt); have hB1 : Below w.heap.size w w1 := (by first | exact hB1.trans (hb1.mono hB1.size) | exact hB1.trans (Below.undrew (hb1.mono hB1.size)) | exact hb1 | exact Below.trans (by go_grown) (hb1.mono (by simp <;> omega))))
    | (go_at_call 33; with_reducible refine (RA.out _ hB1).mono ?_; rintro e w1 ⟨rfl, hb1⟩; replace P0 := Lib.hid (P0.out.below hb1 P0.out.lt); have hB1 : Below w.heap.size w w1 := (by first | exact hB1.trans (hb1.mono hB1.size) | exact hB1.trans (Below.undrew (hb1.mono hB1.size)) | exact hb1 | exact Below.trans (by go_grown) (hb1.mono (by simp <;> omega))))
    | (go_at_call 34; with_reducible refine (HO.out _ hB1).mono ?_; rintro e w1 ⟨rfl, hb1⟩; replace P0 := Lib.hid (P0.out.below hb1 P0.out.lt); have hB1 : Below w.heap.size w w1 := (by first | exact hB1.trans (hb1.mono hB1.size) | exact hB1.trans (Below.undrew (hb1.mono hB1.size)) | exact hb1 | exact Below.trans (by go_grown) (hb1.mono (by simp <;> omega))))
    | (go_at_call 33; with_reducible refine (RH.out _ hB1).mono ?_; rintro e w1 ⟨rfl, hb1⟩; replace P0 := Lib.hid (P0.out.below hb1 P0.out.lt); have hB1 : Below w.heap.size w w1 := (by first | exact hB1.trans (hb1.mono hB1.size) | exact hB1.trans (Below.undrew (hb1.mono hB1.size)) | exact hb1 | exact Below.trans (by go_grown) (hb1.mono (by simp <;> omega))))
    | (go_at_call 20; with_reducible refine (NU.out _ hB1).mono ?_; rintro e w1 ⟨rfl, hb1⟩; replace P0 := Lib.hid (P0.out.below hb1 P0.out.lt); have hB1 : Below w.heap.size w w1 := (by first | exact hB1.trans (hb1.mono hB1.size) | exact hB1.trans (Below.undrew (hb1.mono hB1.size)) | exact hb1 | exact Below.trans (by go_grown) (hb1.mono (by simp <;> omega))))
    | (go_at_call 20; with_reducible refine (NU2.out _ hB1).mono ?_; rintro e w1 ⟨rfl, hb1⟩; replace P0 := Lib.hid (P0.out.below hb1 P0.out.lt); have hB1 : Below w.heap.size w w1 := (by first | exact hB1.trans (hb1.mono hB1.size) | exact hB1.trans (Below.undrew (hb1.mono hB1.size)) | exact hb1 | exact Below.trans (by go_grown) (hb1.mono (by simp <;> omega))))
    | (go_at_call 35; refine (RT.out _).mono ?_; rintro e w' ⟨rfl, rfl⟩)
    | (go_at_call 36; refine (RR.out _).mono ?_; rintro e w' ⟨rfl, rfl⟩))
  refine wp_at (fun wE hE => ?_)
  subst hE
  have hz := hB1.size
  go_wp2_with (go_at_call 37; refine (walk_any _ _ _).mono ?_; rintro e w' ⟨rfl, rfl⟩)
  have hgv := walk_any_gives h n hh ((wE.alloc (.cells #[] 3)).alloc (.cells #[.slice (some ⟨wE.heap.size, 0, none⟩) 0 0] 52))
  obtain ⟨wL, hwL⟩ : ∃ W, W = (((wE.alloc (.cells #[] 3)).alloc (.cells #[.slice (some ⟨wE.heap.size, 0, none⟩) 0 0] 52)).alloc (.cells #[.int .u64 (h : Int)] 22)).alloc (.cells #[.int .i64 n] 3) := ⟨_, rfl⟩
  rw [← hwL] at hgv ⊢
  simp only [World.size_alloc] at hgv
  have hzL : wL.heap.size = wE.heap.size + 4 := by rw [hwL]; simp
  have HGV := Lib.hid hgv
  have HWL := Lib.hid hwL
  have HE := Lib.hid (show Below wE.heap.size wE wL by rw [hwL]; exact ((((Below.refl _ _).alloc (Nat.le_refl _) _).alloc (by simp) _).alloc (by simp <;> omega) _).alloc (by simp <;> omega) _)
  have HS := Lib.hid (encI_snoc (fun i => ((walkAt h n.toNat i : Nat) : Int)))
  clear hgv hwL
  refine (wpIn_wide (n := 0)).1 ?_
  refine wp_rangeAt rfl enters_walk HGV.out (fun b hb => by rcases hb with rfl | rfl <;> omega) (fun _ => rfl)
    (fun i W => (∃ v, Boxed W (wE.heap.size + 1) 52 v ∧ W.ownsRow wE.heap.size 3 1 v i ((List.range i).map (encI (fun i => ((walkAt h n.toNat i : Nat) : Int)))) ∧ v.ownBlock ≠ some (wE.heap.size + 1 + 1 + 1)) ∧ Blk W (wE.heap.size + 1 + 1) 22 #[.int .u64 (h : Int)] ∧ Blk W (wE.heap.size + 1 + 1 + 1) 3 #[.int .i64 n] ∧ Below wE.heap.size wE W)
    (fun _ _ => False)
    (OwnFrom.and (Own.from (holdsRow_own wE.heap.size (wE.heap.size + 1) 52 3 1 (fun i => i) (fun i => (List.range i).map (encI (fun i => ((walkAt h n.toNat i : Nat) : Int)))) (fun _ v => v.ownBlock ≠ some (wE.heap.size + 1 + 1 + 1))) _) (OwnFrom.and (Own.from (blk_own _ _ _) _) (OwnFrom.and (Own.from (blk_own _ _ _) _) (ownFrom_below (Nat.le_refl _) (by omega)))))
    (fun _ _ _ _ hs _ _ => hs)
    ?start
    (fun T i a _ => a = { tmps := (T.setIfInBounds 77 (.int .i64 ((walkAt h n.toNat i : Nat) : Int))).setIfInBounds 16 (.int .i64 ((walkAt h n.toNat i : Nat) : Int)), defers := [] })
    ?assign (fun _ _ _ _ hs _ _ => hs) ?body ?done ?stop
  case start =>
    refine ⟨⟨_, ?_, ownsRow_empty (g := wE.heap.size) ?_, by simp [Value.ownBlock]; omega⟩, ?_, ?_, HE.out⟩
    · rw [HWL.out]; exact ((Blk.new_at (W := wE.alloc (.cells #[] 3)) (by simp)).alloc _).alloc _
    · rw [HWL.out]; exact (((Blk.new wE _ _).alloc _).alloc _).alloc _
    · rw [HWL.out]; exact (Blk.new_at (by simp)).alloc _
    · rw [HWL.out]; exact Blk.new_at (by simp)
  case assign =>
    intro l i W K hi hlt _ hK
    gi_wp2
    exact hK _ _ (KeepsFrom.refl _ _) (Same.refl _ _) hi rfl
  case body =>
    rintro l i a₁ W ⟨⟨v, hv, hrow, hne⟩, hcap, hcap2, hB⟩ hlt hsz rfl
    have HC := Lib.hid hcap
    have HC2 := Lib.hid hcap2
    clear hcap hcap2
    obtain ⟨av, cv, rfl⟩ := ownsRow_slice hrow
    have HNE := Lib.hid hne
    clear hne
    have hc := hv.cell
    have hi8 : (i : Int) < 64 := by omega
    simp only [List.setIfInBounds_toArray, List.set_cons_succ, List.set_cons_zero]
    gi_wp2_with (gi_at_builtin; refine wpListIn_append_own2 _ rfl _ _ 52 rfl wE.heap.size 3 i0 (.int .i64 0) 1 8 Tryd.underlying52 hi hz0 hz1 hz2 rfl (by decide) _ _ _ rfl (hrow.alloc _) ⟨W.heap.size, 0, none⟩ 1 1 [.int .i64 ((walkAt h n.toNat i : Nat) : Int)] rfl rfl (cell_one_new _ _ _) (by simp [Value.oneCell']) (by unfold maxLen; omega) (by omega) (by have := hB.size; simp; omega) (by decide) ?_; intro v' w1 hown' hgrow hwhere; obtain ⟨g', cap', rfl⟩ := ownsRow_succ hown'; obtain ⟨hv1, hv2, hr2, hk2, hb2⟩ := hv.appended (by decide) hrow hB.size (by omega) hown' hgrow; have hk3 := Lib.hid (((HC.out.alloc _).kept hgrow ((HC.out.boxed).not_row (by decide) hrow)).other (B' := wE.heap.size + 1) (by omega) 0 (.slice (some ⟨g', 0, none⟩) (i + 1) cap')); have hk4 := Lib.hid (((HC2.out.alloc _).kept hgrow (fun e => HNE.out e.symm)).other (B' := wE.heap.size + 1) (by omega) 0 (.slice (some ⟨g', 0, none⟩) (i + 1) cap')); have hne2 := Lib.hid (show (Value.slice (some ⟨g', 0, none⟩) (i + 1) cap').ownBlock ≠ some (wE.heap.size + 1 + 1 + 1) from by rcases hwhere with e | e; exact (by rw [e]; exact HNE.out); exact (by rw [e]; simp; omega)); clear hwhere; have hc1 := hv1.cell; have hf1 := hv1.frozen)
    refine ⟨hk2.from _, ?_, ⟨_, hv2, by rw [HS.out]; exact hr2, hne2.out⟩, hk3.out, hk4.out, hB.trans hb2⟩
    rintro b (rfl | rfl)
    · exact (show _ = _ from hk3.out).trans (show _ = _ from HC.out).symm
    · exact (show _ = _ from hk4.out).trans (show _ = _ from HC2.out).symm
  case done =>
    rintro D W hD ⟨⟨v, hv, hrow, -⟩, -, -, hB⟩ hK
    have HK := Lib.hid hK
    have hDlt : D < W.heap.size := (Array.getElem?_eq_some_iff.1 hK).1
    clear hK
    have hN : (List.range (ordN n)).map (encI (fun i => ((walkAt h n.toNat i : Nat) : Int))) = (ordL h n).map (Value.int .i64) := (ordL_map h n).symm
    rw [hN] at hrow
    have R1 := Lib.hid (readsInts_own hrow)
    have c7 := hv.cell
    have p0 : Blk W w.heap.size 4 #[.bool false] := P0.out.below hB P0.out.lt
    have HP := Lib.hid p0
    have c0 : W.cell? ⟨w.heap.size, 0, none⟩ = some (.bool false) := p0.cell 0
    have f0 : W.frozen? ⟨w.heap.size, 0, none⟩ = false := p0.frozen 0
    have z0 := p0.lt
    have zc := hv.lt
    have HB := Lib.hid (hB1.trans (hB.mono hB1.size))
    have hlen : (ordL h n).length ≤ 64 := by rw [ordL_length]; exact hN64
    clear hrow hN hB p0 hv HS HE HWL HGV
    obtain ⟨a7, cap7, rfl, -⟩ := id R1.out
    have hlen' : (ordL h n).length < 9223372036854775807 := by omega
    have HL := Lib.hid hlen'
    clear hlen hlen'
    go_wp2_with (first
      | (go_at_call 38; refine (refOrder_any h n hh _).mono ?_; rintro e W1 ⟨v8, rfl, ho, hb8⟩; have R2 := Lib.hid (readsInts_own ho); obtain ⟨a8, cap8, rfl, -⟩ := id R2.out; replace R1 := Lib.hid (R1.out.later hb8); replace HP := Lib.hid (HP.out.below hb8 z0); have hz8 := hb8.size; clear ho; have c7' := (hb8.cell (p := ⟨wE.heap.size + 1, 0, none⟩) zc).trans c7; have c0' := HP.out.cell 0; have f0' := HP.out.frozen 0)
      | (go_at_call 39; with_reducible refine (sameInts_any _ _ _ _ _ R1.out R2.out HL.out).mono ?_; rw [decide_eq_true (rfl : ordL h n = ordL h n)]; rintro e w' ⟨rfl, rfl⟩)
      | (go_at_call 40; refine (order_any h n hh _).mono ?_; rintro e W2 ⟨v9, rfl, ho, hb9⟩; have R3 := Lib.hid (readsInts_own ho); obtain ⟨a9, cap9, rfl, -⟩ := id R3.out; replace R2 := Lib.hid (R2.out.later hb9); replace HP := Lib.hid (HP.out.below hb9 HP.out.lt); clear ho; have c0'' := HP.out.cell 0; have f0'' := HP.out.frozen 0)
      | (go_at_call 39; with_reducible refine (sameInts_any _ _ _ _ _ R3.out R2.out HL.out).mono ?_; rw [decide_eq_true (rfl : ordL h n = ordL h n)]; rintro e w' ⟨rfl, rfl⟩))
    have HB2 := HB.out.trans ((hb8.trans (hb9.mono hb8.size)).mono HB.out.size)
    have hk3 : W2.heap[D]? = some (.deferred (some [])) := (hb9.block D (Nat.lt_of_lt_of_le hDlt hb8.size)).trans ((hb8.block D hDlt).trans HK.out)
    have hzD : w.heap.size ≠ D := by have := hB1.size; omega
    refine end_mark (v := .bool true) ((KeepsOthers.setCell _ _ _).same D _ hk3 rfl) (results_cell1 rfl rfl (Blk.putObj (Blk.set HP.out 0 (.bool true)) hzD _).boxed.cell Tryd.isAgg4) ⟨rfl, ?_⟩ _ (.inl rfl)
    exact (HB2.setCell (by simp) _).trans (below_putObj _ (by omega) ((KeepsOthers.setCell _ _ _).same D _ hk3 rfl))
  case stop =>
    rintro D c W hD h _
    exact h.elim
theorem probeWalks_any (h : Nat) (n i : Int) (hh : h < 18446744073709551616) (E : Nat → Addr) (w : World) (hE : ErrsAre w E) :
    Calls Tryd.prog 5 #[.int .u64 (h : Int), .int .i64 n, .int .i64 i] w fun e w' => e = .returned (.bool true) ∧ Below w.heap.size w w' := by
  have nun : CGives w 20 #[.nilIface] (.int .i64 0) := CGives.of_same fun w _ => num_nil w
  have nue : CGives w 20 #[errAt E 1] (.int .i64 1) := fun w' hb => (num_err w' E (hE.below hb) 1 (by decide) (by decide)).mono (by rintro e w' ⟨rfl, rfl⟩; exact ⟨rfl, by go_grown⟩)
  have ec : ∀ w', Below w.heap.size w w' → EC w' E [1] := fun w' hb => (hE.below hb).ec.sub (by decide)
  by_cases hr : rightB n = true
  · obtain ⟨g, rfl⟩ := Int.eq_ofNat_of_zero_le (show 0 ≤ n by rw [rightB_iff] at hr; omega)
    have hg := right_bd hr
    have HO : CGives w 34 #[.int .u64 (h : Int), .int .i64 (g : Int)] (.tuple #[.int .i64 ((walkAt h g 0 : Nat) : Int), .nilIface]) := CGives.of_same fun w' _ => homeE_ok h g hr hh w'
    have RH : CGives w 33 #[.int .u64 (h : Int), .int .i64 (g : Int), .int .i64 0] (.tuple #[.int .i64 ((walkAt h g 0 : Nat) : Int), .int .i64 0]) := CGives.of_same fun w' _ => refAt_ok h g 0 hr hh (by omega) w'
    by_cases hi : 0 ≤ i ∧ i < g
    · obtain ⟨k, rfl⟩ := Int.eq_ofNat_of_zero_le hi.1
      exact probeWalks_go h g k hh _ _ 0 0 .nilIface .nilIface w (CGives.of_same fun w' _ => at_ok h g k hr hh (by omega) w') (CGives.of_same fun w' _ => refAt_ok h g k hr hh (by omega) w') HO RH nun nun
    · have hb : rightB (g : Int) = false ∨ i < 0 ∨ (g : Int) ≤ i := .inr (by omega)
      exact probeWalks_go h g i hh 0 _ 1 0 (errAt E 1) .nilIface w (fun w' hw => at_bad h g i hb w' E (ec w' hw)) (CGives.of_same fun w' _ => refAt_bad h g i hb w') HO RH nue nun
  · have hr' : rightB n = false := by simpa using hr
    exact probeWalks_go h n i hh 0 0 1 1 (errAt E 1) (errAt E 1) w (fun w' hw => at_bad h n i (.inl hr') w' E (ec w' hw)) (CGives.of_same fun w' _ => refAt_bad h n i (.inl hr') w')
      (fun w' hw => homeE_bad h n hr' w' E (ec w' hw)) (CGives.of_same fun w' _ => refAt_bad h n 0 (.inl hr') w') nue nue
end Go.Proofs.YtplimhllfbdocaaDoor
