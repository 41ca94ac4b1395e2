/- Texts joined: DualSteps. No condition but those that stand within. -/
import Derived.Deep.LoopGhost
import Derived.Deep.DeepCutAuto
import Derived.Deep.CutBlock
import Derived.Test.YtcbpiecloikkiaaDoorPkSwar
import Derived.Test.YtcbpiecloikkiaaDoorPkMeter
import Derived.Test.YtcbpiecloikkiaaDoorPkErrs
import Derived.Test.YtcbpiecloikkiaaDoorPkGroup
import Derived.Test.YtcbpiecloikkiaaDoorPkTab
import Derived.Test.YtcbpiecloikkiaaDoorPkTab2
import Derived.Test.YtcbpiecloikkiaaDoorPkTab3
import Derived.Test.YtcbpiecloikkiaaDoorPkTake
import Derived.Test.YtcbpiecloikkiaaDoorPkTabM
import Derived.Test.YtcbpiecloikkiaaDoorPkBuild
import Derived.Test.YtcbpiecloikkiaaDoorPkEvac
import Derived.Test.YtcbpiecloikkiaaDoorPkRef09
import Derived.Test.YtcbpiecloikkiaaDoorPkEvac2
import Derived.Test.YtcbpiecloikkiaaDoorPkActs
import Derived.Test.YtcbpiecloikkiaaDoorPkDual1
import Derived.Test.YtcbpiecloikkiaaDoorPkDual2
import Derived.Test.YtcbpiecloikkiaaDoorPkDual3
set_option linter.unusedVariables false
set_option linter.unusedSimpArgs false
namespace Go.Proofs.YtcbpiecloikkiaaDoor
open Go.RowKit Go.Proofs
attribute [local go_sem] neq_nilG eql_nilG
def arrD (D : Nat → Nat) (n : Nat) : Array Value := #[if 0 < n then .pointer (some ⟨D 0, 0, none⟩) else .pointer none, if 1 < n then .pointer (some ⟨D 1, 0, none⟩) else .pointer none, if 2 < n then .pointer (some ⟨D 2, 0, none⟩) else .pointer none]
theorem arrD_set (D : Nat → Nat) {j : Nat} (hj : j < 3) (d : Nat) : (arrD D j).setIfInBounds j (.pointer (some ⟨d, 0, none⟩)) = arrD (upd D j d) (j + 1) := by
  have : j = 0 ∨ j = 1 ∨ j = 2 := by omega
  rcases this with rfl | rfl | rfl <;> simp [arrD, upd]
theorem arrD_at (D : Nat → Nat) (n : Nat) {i : Nat} (hi : i < 3) : (arrD D n)[i]? = some (if i < n then .pointer (some ⟨D i, 0, none⟩) else .pointer none) := by
  have : i = 0 ∨ i = 1 ∨ i = 2 := by omega
  rcases this with rfl | rfl | rfl <;> rfl
theorem ix3 (d0 d1 d2 : Value) (w : World) : (Instr.index 46 (.agg #[d0, d1, d2]) (.int .i64 0)).run Tryd.prog w = .ok d0 w ∧ (Instr.index 46 (.agg #[d0, d1, d2]) (.int .i64 1)).run Tryd.prog w = .ok d1 w ∧ (Instr.index 46 (.agg #[d0, d1, d2]) (.int .i64 2)).run Tryd.prog w = .ok d2 w := ⟨by kernel_rfl, by kernel_rfl, by kernel_rfl⟩
theorem ix3_at (D : Nat → Nat) {i : Nat} (hi : i < 3) (w : World) : (Instr.index 46 (.agg #[.pointer (some ⟨D 0, 0, none⟩), .pointer (some ⟨D 1, 0, none⟩), .pointer (some ⟨D 2, 0, none⟩)]) (.int .i64 (i : Int))).run Tryd.prog w = .ok (.pointer (some ⟨D i, 0, none⟩)) w := by
  have : i = 0 ∨ i = 1 ∨ i = 2 := by omega
  rcases this with rfl | rfl | rfl
  · exact (ix3 _ _ _ w).1
  · exact (ix3 _ _ _ w).2.1
  · exact (ix3 _ _ _ w).2.2
def KD (C AR : Nat) (b : Nat) : Prop := b = C ∨ b = AR
structure D3 (w : World) (n C AR M : Nat) (D : Nat → Nat) (s : Nat → DuS) (mt : MeterS) (K : Nat → Prop) (cs : Array Value) (E : Nat → Addr) (w0 : World) : Prop where
  z : DZs w n D s false M mt K E w0
  c : Blk w C 38 cs
  a : Blk w AR 46 (arrD D n)
  k : K C ∧ K AR
section
variable {w w' w0 : World} {n C AR M : Nat} {D : Nat → Nat} {s : Nat → DuS} {mt : MeterS} {K : Nat → Prop} {cs : Array Value} {E : Nat → Addr}
theorem D3.later (h : D3 w n C AR M D s mt K cs E w0) (hb : Below w.heap.size w w') : D3 w' n C AR M D s mt K cs E w0 := ⟨h.z.later hb, h.c.below hb h.c.lt, h.a.below hb h.a.lt, h.k⟩
theorem D3.turn {s' : Nat → DuS} {mt' : MeterS} (h : D3 w n C AR M D s mt K cs E w0) (hz : DZs w' n D s' false M mt' K E w0) (hc : Chg (KC K w0.heap.size) w w') : D3 w' n C AR M D s' mt' K cs E w0 := ⟨hz, h.c.chg hc (fun e => e.2 h.k.1), h.a.chg hc (fun e => e.2 h.k.2), h.k⟩
theorem DZs.keep {tk : Bool} {K' : Nat → Prop} (h : DZs w n D s tk M mt K E w0) (hb : Below w.heap.size w w') (hK : ∀ b, K' b → K b ∨ (w.heap.size ≤ b ∧ b < w'.heap.size)) : DZs w' n D s tk M mt K' E w0 := by
  obtain ⟨a, h0, h1⟩ := h
  have h2 := h1.later hb
  refine ⟨a, h0, ⟨h2.v, h2.m, h2.ml, ⟨h2.mz.1, fun e => ?_⟩, fun i hi b hx => ⟨(h2.am i hi b hx).1, fun e => ?_⟩, h2.ap, fun b e => ?_, h2.hb⟩⟩
  · rcases hK _ e with e | e
    · exact h1.mz.2 e
    · have := h1.m.lt; omega
  · rcases hK _ e with e | e
    · exact (h1.am i hi b hx).2 e
    · have := ((h1.v i hi).xlt hx).1; omega
  · rcases hK _ e with e | e
    · exact h2.kz b e
    · exact e.2
theorem D3.keep {K' : Nat → Prop} (h : D3 w n C AR M D s mt K cs E w0) (hb : Below w.heap.size w w') (hK : ∀ b, K' b → K b ∨ (w.heap.size ≤ b ∧ b < w'.heap.size)) (hk : K' C ∧ K' AR) : D3 w' n C AR M D s mt K' cs E w0 := ⟨h.z.keep hb hK, h.c.below hb h.c.lt, h.a.below hb h.a.lt, hk⟩
theorem D3.cell (h : D3 w n C AR M D s mt K cs E w0) {i : Nat} (hi : i < 3) : w.cell? ⟨AR, i, none⟩ = some (if i < n then .pointer (some ⟨D i, 0, none⟩) else .pointer none) := by rw [h.a.cell i]; exact arrD_at D n hi
theorem D3.more {a2 : Nat → Nat} {s2 : DuS} (h : D3 w n C AR M D s mt K cs E w0) (hn : n < 3) (h0 : w0.heap.size ≤ AR) (hv : DuV w' a2 s2 false E w0) (hX : ∀ b, DuX a2 s2 b → w.heap.size ≤ b) (hb : Below w.heap.size w w') :
    D3 (w'.setCell ⟨AR, n, none⟩ (.pointer (some ⟨a2 0, 0, none⟩))) (n + 1) C AR M (upd D n (a2 0)) (upd s n s2) mt K cs E w0 ∨ C = AR := by
  by_cases e : C = AR
  · exact .inr e
  · refine .inl ⟨?_, (h.c.below hb h.c.lt).other e _ _, ?_, h.k⟩
    · exact (h.z.more hv hX hb).kept ((Chg.refl (fun b => b = AR) w').set1 n _) (fun b e => by rw [e]; exact ⟨h.k.2, h0⟩)
    · rw [← arrD_set D hn]; exact (h.a.below hb h.a.lt).set n _
end
theorem ds_new {w w1 w0 : World} {k d gn bcap O Q z : Nat} {depth : Int} {T : TabS} {s0 : DuS} {E : Nat → Addr} {a : Nat → Nat} (hkd : (k = 1 ∧ depth < 0 ∧ d = 0) ∨ (k = 2 ∧ depth = (d : Int) ∧ d ≤ 15)) (hrn : rightB (gn : Int) = true) (hA : DuA w a s0 bcap false E w0) (hs : s0 = DuS.newS k d gn T) (h1 : a 1 = O) (h2 : a 2 = Q) (hge : ∀ x, Used k false x → x ≠ 1 → x ≠ 2 → w1.heap.size ≤ a x) (hO : z ≤ O) (hQ : z ≤ Q) (hz : z ≤ w1.heap.size) :
    ∃ a', a' 0 = a 0 ∧ DuV w a' s0 false E w0 ∧ ∀ b, DuX a' s0 b → z ≤ b := by
  have hb0 : ¬ s0.bare = 0 := by have := hA.hb; omega
  have hok : DuOK s0 := by rw [hs]; exact DuOK.newS (by omega) hrn (by have := hA.t.good; rw [hs] at this; exact this)
  refine ⟨a, rfl, ⟨hok, .inl ⟨bcap, hA⟩⟩, fun b hb => ?_⟩
  obtain ⟨x, hx, rfl⟩ := hb
  rw [decide_eq_false hb0, show s0.k = k by rw [hs]; rfl] at hx
  by_cases e1 : x = 1
  · rw [e1, h1]; exact hO
  · by_cases e2 : x = 2
    · rw [e2, h2]; exact hQ
    · have := hge x hx e1 e2; omega
theorem upd_new {s : Nat → DuS} {i : Nat} {X : DuS} {Q R : DuS → Prop} (h1 : ∀ t, t < 3 → t < i → Q (s t)) (h2 : ∀ t, t < 3 → i ≤ t → R (s t)) (hX : Q X) : (∀ t, t < 3 → t < i + 1 → Q (upd s i X t)) ∧ (∀ t, t < 3 → i + 1 ≤ t → R (upd s i X t)) := by
  refine ⟨fun t ht hti => ?_, fun t ht hti => ?_⟩
  · by_cases e : t = i
    · subst e; rw [upd_same]; exact hX
    · rw [upd_other _ _ e]; exact h1 t ht (by omega)
  · rw [upd_other _ _ (by omega)]; exact h2 t ht (by omega)
set_option maxRecDepth 100000 in
set_option maxHeartbeats 16000000 in
theorem dualSteps_any (old new depth : Int) (v1 v2 v3 : Value) (n1 n2 n3 : Nat) (f1 f2 f3 : Nat → Nat → Int) (E : Nat → Addr) (w0 : World) (he : EC w0 E [1, 2, 4, 5, 14, 16]) (hT : Tab64 w0) (h1 : RowsAt w0 v1 n1 1 .u64 f1) (h2 : RowsAt w0 v2 n2 1 .i64 f2) (h3 : RowsAt w0 v3 n3 3 .i64 f3) :
    Calls Tryd.prog 4 #[.agg (caseD old new depth v1 v2), v3] w0 fun e w' => e = .returned (.bool true) ∧ Below w0.heap.size w0 w' := by
  have m2 := h2.2.2
  have m3 := h3.2.2
  unfold maxLen at m2 m3
  have HEC := Lib.hid he
  have HT := Lib.hid hT
  have AL := Lib.hid (fun (w' : World) (hb' : Below w0.heap.size w0 w') => alive13_any E w' (HEC.out.below hb') (hT.below hb'))
  obtain ⟨a2, cap2, rfl, hx2⟩ := h2.cellAt (by decide)
  obtain ⟨a3, cap3, rfl, hx3⟩ := h3.cellAt (by decide)
  have HX2 := Lib.hid hx2
  have HX3 := Lib.hid hx3
  clear he hT h2 h3 hx2 hx3
  by_cases hs : ¬ ShortD old new n1 n2
  · obtain ⟨a1, cap1, rfl, -⟩ := h1.cellAt (by decide)
    have LG := Lib.hid (fun (w' : World) => long13_any old new depth a1 a2 n1 n2 cap1 cap2 w')
    rw [decide_eq_false hs] at LG
    have CB := Lib.hid (Blk.new w0 38 #[.int .i64 old, .int .i64 new, .int .i64 depth, .slice a1 n1 cap1, .slice a2 n2 cap2])
    clear hs h1 HX2 HX3
    unfold caseD at LG ⊢
    go_enter Tryd.func4, Tryd.ntmps4
    go_wp2_with (first
      | (go_at_call 9; (with_reducible refine (AL.out _ ((Below.refl _ _).alloc (Nat.le_refl _) _)).mono ?_); rintro e w1 ⟨rfl, hb1⟩; have C1 := Lib.hid (CB.out.below hb1 CB.out.lt); have c1 := cased_cells C1.out; have c10 := c1.1; have c11 := c1.2.1; have c12 := c1.2.2.1; have c13 := c1.2.2.2.1; have c14 := c1.2.2.2.2.1; have zc1 := C1.out.lt; clear c1)
      | (go_at_call 10; (with_reducible refine (LG.out _).mono ?_); rintro e w2 ⟨rfl, hb2⟩; have C2 := Lib.hid (C1.out.below hb2 C1.out.lt); have c1 := cased_cells C2.out; have c20 := c1.1; have c21 := c1.2.1; have c22 := c1.2.2.1; have c23 := c1.2.2.2.1; have c24 := c1.2.2.2.2.1; have zc2 := C2.out.lt; clear c1))
    go_ret
    exact ⟨rfl, ((show Below w0.heap.size w0 _ by go_grown).trans (hb1.mono (by simp))).trans (hb2.mono (by have := hb1.size; simp at this; omega))⟩
  have hs := Classical.not_not.1 hs
  have LG0 := Lib.hid (fun (a1 : Option Addr) (cap1 : Nat) (w' : World) => long13_any old new depth a1 a2 n1 n2 cap1 cap2 w')
  rw [decide_eq_true hs] at LG0
  obtain ⟨k1, k2, k3, k5, k7, k8⟩ := hs
  obtain ⟨b1, o1, cap1, G, rfl, hb1z, hG, hc1⟩ := hashes_of h1 k1
  have LG := Lib.hid (LG0.out (some ⟨b1, o1, none⟩) cap1)
  have CB := Lib.hid (Blk.new w0 38 #[.int .i64 old, .int .i64 new, .int .i64 depth, .slice (some ⟨b1, o1, none⟩) n1 cap1, .slice a2 n2 cap2])
  obtain ⟨g, rfl⟩ := Int.eq_ofNat_of_zero_le (show 0 ≤ old by rw [rightB_iff] at k5; omega)
  have hgb := right_bd k5
  have e10 : IntKind.i64.wrap (6 * (g : Int)) = 6 * (g : Int) := by rw [IntKind.wrap_i64]; omega
  have HG := Lib.hid hG
  have HC := Lib.hid hc1
  have HK5 := Lib.hid k5
  have HK8 := Lib.hid k8
  clear LG0 h1 hG hc1 k5 k8
  by_cases g1 : 60 < n3
  · have g1I : (60 : Int) < (n3 : Int) := by omega
    unfold caseD at LG ⊢
    go_enter Tryd.func4, Tryd.ntmps4
    go_wp2_with (first
      | (go_at_call 9; (with_reducible refine (AL.out _ ((Below.refl _ _).alloc (Nat.le_refl _) _)).mono ?_); rintro e w1 ⟨rfl, hb1⟩; have C1 := Lib.hid (CB.out.below hb1 CB.out.lt); have c1 := cased_cells C1.out; have c10 := c1.1; have c11 := c1.2.1; have c12 := c1.2.2.1; have c13 := c1.2.2.2.1; have c14 := c1.2.2.2.2.1; have zc1 := C1.out.lt; clear c1)
      | (go_at_call 10; (with_reducible refine (LG.out _).mono ?_); rintro e w2 ⟨rfl, hb2⟩; have C2 := Lib.hid (C1.out.below hb2 C1.out.lt); have c1 := cased_cells C2.out; have c20 := c1.1; have c21 := c1.2.1; have c22 := c1.2.2.1; have c23 := c1.2.2.2.1; have c24 := c1.2.2.2.2.1; have zc2 := C2.out.lt; clear c1))
    go_ret
    exact ⟨rfl, ((show Below w0.heap.size w0 _ by go_grown).trans (hb1.mono (by simp))).trans (hb2.mono (by have := hb1.size; simp at this; omega))⟩
  have g1I : (n3 : Int) ≤ 60 := by omega
  have e9 : IntKind.i64.wrap ((n2 : Int) + (n3 : Int)) = (n2 : Int) + (n3 : Int) := by rw [IntKind.wrap_i64]; omega
  by_cases g2 : 6 * (g : Int) < (n2 : Int) + (n3 : Int)
  · skip
    unfold caseD at LG ⊢
    go_enter Tryd.func4, Tryd.ntmps4
    go_wp2_with (first
      | (go_at_call 9; (with_reducible refine (AL.out _ ((Below.refl _ _).alloc (Nat.le_refl _) _)).mono ?_); rintro e w1 ⟨rfl, hb1⟩; have C1 := Lib.hid (CB.out.below hb1 CB.out.lt); have c1 := cased_cells C1.out; have c10 := c1.1; have c11 := c1.2.1; have c12 := c1.2.2.1; have c13 := c1.2.2.2.1; have c14 := c1.2.2.2.2.1; have zc1 := C1.out.lt; clear c1)
      | (go_at_call 10; (with_reducible refine (LG.out _).mono ?_); rintro e w2 ⟨rfl, hb2⟩; have C2 := Lib.hid (C1.out.below hb2 C1.out.lt); have c1 := cased_cells C2.out; have c20 := c1.1; have c21 := c1.2.1; have c22 := c1.2.2.1; have c23 := c1.2.2.2.1; have c24 := c1.2.2.2.2.1; have zc2 := C2.out.lt; clear c1))
    go_ret
    exact ⟨rfl, ((show Below w0.heap.size w0 _ by go_grown).trans (hb1.mono (by simp))).trans (hb2.mono (by have := hb1.size; simp at this; omega))⟩
  have g2I : (n2 : Int) + (n3 : Int) ≤ 6 * (g : Int) := by omega
  by_cases g3 : new < (g : Int)
  · skip
    unfold caseD at LG ⊢
    go_enter Tryd.func4, Tryd.ntmps4
    go_wp2_with (first
      | (go_at_call 9; (with_reducible refine (AL.out _ ((Below.refl _ _).alloc (Nat.le_refl _) _)).mono ?_); rintro e w1 ⟨rfl, hb1⟩; have C1 := Lib.hid (CB.out.below hb1 CB.out.lt); have c1 := cased_cells C1.out; have c10 := c1.1; have c11 := c1.2.1; have c12 := c1.2.2.1; have c13 := c1.2.2.2.1; have c14 := c1.2.2.2.2.1; have zc1 := C1.out.lt; clear c1)
      | (go_at_call 10; (with_reducible refine (LG.out _).mono ?_); rintro e w2 ⟨rfl, hb2⟩; have C2 := Lib.hid (C1.out.below hb2 C1.out.lt); have c1 := cased_cells C2.out; have c20 := c1.1; have c21 := c1.2.1; have c22 := c1.2.2.1; have c23 := c1.2.2.2.1; have c24 := c1.2.2.2.2.1; have zc2 := C2.out.lt; clear c1))
    go_ret
    exact ⟨rfl, ((show Below w0.heap.size w0 _ by go_grown).trans (hb1.mono (by simp))).trans (hb2.mono (by have := hb1.size; simp at this; omega))⟩
  have g3I : (g : Int) ≤ new := by omega
  clear g2
  obtain ⟨gn, rfl⟩ := Int.eq_ofNat_of_zero_le (show 0 ≤ new by omega)
  have hgg : g ≤ gn := by omega
  have HHb := Lib.hid (show ∀ q, hashH n1 G q < 18446744073709551616 from hashH_lt k1 HG.out)
  obtain ⟨H, hH⟩ : ∃ H, H = hashH n1 G := ⟨_, rfl⟩
  have HH := Lib.hid (show ∀ x, x < n1 → H (x : Int) = G x from fun x hx => by rw [hH]; exact hashH_in hx)
  rw [← hH] at HHb
  clear hH
  obtain ⟨kx, hkx⟩ : ∃ kx : Nat → Int, kx = fun i => (keyI (f2 i 0) n1 : Int) := ⟨_, rfl⟩
  have HKX := Lib.hid hkx
  have OT := Lib.hid (fun x => oldT_ok (kx := kx) (v := 5) HK5.out HHb.out x)
  have OR := Lib.hid (fun (x : Nat) (hx : x < 7 * g) => oldT_room (kx := kx) (v := 5) HK5.out HHb.out x hx)
  have NWT := Lib.hid (fun (w' : World) => tnew_ok g HK5.out w')
  have EN := Lib.hid (fun (q val : Int) (w' : World) (hw' : Below w0.heap.size w0 w') => entry13_any (g : Int) (gn : Int) depth (.slice a2 n2 cap2) b1 o1 n1 cap1 k1 (by omega) G q val w' (Nat.lt_of_lt_of_le hb1z hw'.size) (HC.out w' hw') rfl)
  clear hkx
  have d1 : decide ((60 : Int) < (n3 : Int)) = false := by simp; omega
  have d2 : decide (6 * (g : Int) < (n2 : Int) + (n3 : Int)) = false := by simp; omega
  have d3 : decide ((gn : Int) < (g : Int)) = false := by simp; omega
  have d4 : decide (gn < g) = false := by simp; omega
  unfold caseD at LG EN ⊢
  go_enter Tryd.func4, Tryd.ntmps4
  go_upto_region 7 with (first
    | (go_at_call 9; (with_reducible refine (AL.out _ ((Below.refl _ _).alloc (Nat.le_refl _) _)).mono ?_); rintro e w1 ⟨rfl, hb1⟩; have C1 := Lib.hid (CB.out.below hb1 CB.out.lt); have c1 := cased_cells C1.out; have c10 := c1.1; have c11 := c1.2.1; have c12 := c1.2.2.1; have c13 := c1.2.2.2.1; have c14 := c1.2.2.2.2.1; have zc1 := C1.out.lt; clear c1)
    | (go_at_call 10; (with_reducible refine (LG.out _).mono ?_); rintro e w2 ⟨rfl, hb2⟩; have C2 := Lib.hid (C1.out.below hb2 C1.out.lt); have c1 := cased_cells C2.out; have c20 := c1.1; have c21 := c1.2.1; have c22 := c1.2.2.1; have c23 := c1.2.2.2.1; have c24 := c1.2.2.2.2.1; have zc2 := C2.out.lt; have B2 := Lib.hid (((show Below w0.heap.size w0 _ by go_grown).trans (hb1.mono (by simp))).trans (hb2.mono (by have := hb1.size; simp at this; omega))); clear c1))
  refine wp_at (fun w4 hw4 => ?_)
  obtain ⟨M, hM⟩ : ∃ M, M = w2.heap.size := ⟨_, rfl⟩
  obtain ⟨C, hC⟩ : ∃ C, C = w0.heap.size := ⟨_, rfl⟩
  obtain ⟨AR, hAR⟩ : ∃ AR, AR = M + 1 := ⟨_, rfl⟩
  have zB2 := B2.out.size
  have hCM : C < M ∧ C < AR ∧ M < AR ∧ w0.heap.size ≤ C := by omega
  have hb4 : Below w2.heap.size w2 w4 := by rw [hw4]; go_grown
  have B4 := Lib.hid (B2.out.trans (hb4.mono B2.out.size))
  have T0 := Lib.hid (show D3 w4 0 C AR M (fun _ => 0) (fun _ => DuS.newS 1 0 gn (TabS.new g)) MeterS.zero (KD C AR) (caseD (g : Int) (gn : Int) depth (.slice (some ⟨b1, o1, none⟩) n1 cap1) (.slice a2 n2 cap2)) E w0 from by
    have m4 : Blk w4 M 44 MeterS.zero.cells := by
      rw [hw4, hM]; simp only [MeterS.zero, MeterS.cells]; exact (Blk.new _ _ _).alloc _
    have a4 : Blk w4 AR 46 (arrD (fun _ => 0) 0) := by
      rw [hw4]; exact Blk.new_at (by rw [hAR, hM]; simp)
    have c4 : Blk w4 C 38 (caseD (g : Int) (gn : Int) depth (.slice (some ⟨b1, o1, none⟩) n1 cap1) (.slice a2 n2 cap2)) := by
      rw [hC]; exact C2.out.below hb4 C2.out.lt
    refine ⟨⟨fun _ _ => 0, fun i hi => by omega, ⟨fun i hi => by omega, m4, rfl, ⟨by omega, fun e => by rcases e with e | e <;> omega⟩, fun i hi => by omega, fun i j hi => by omega, fun b e => ?_, B4.out⟩⟩, c4, a4, .inl rfl, .inr rfl⟩
    rcases e with e | e
    · rw [e]; exact c4.lt
    · rw [e]; exact a4.lt)
  rw [← hM, ← hAR, ← hC]
  replace hw4 := Lib.hid hw4
  replace hM := Lib.hid hM
  replace hAR := Lib.hid hAR
  replace hC := Lib.hid hC
  obtain ⟨cs, hcs⟩ : ∃ cs, cs = caseD (g : Int) (gn : Int) depth (.slice (some ⟨b1, o1, none⟩) n1 cap1) (.slice a2 n2 cap2) := ⟨_, rfl⟩
  rw [← hcs] at T0
  have HCS := Lib.hid hcs
  clear hcs hb4 B2 zB2 C1 C2 c10 c11 c12 c13 c14 zc1 c20 c21 c22 c23 c24 zc2 hb1 hb2 AL LG CB e9 e10 d1 d2 d3 d4
  obtain ⟨k, hk⟩ : ∃ k : Nat, k = if depth < 0 then 1 else 2 := ⟨_, rfl⟩
  obtain ⟨d, hd⟩ : ∃ d : Nat, d = depth.toNat := ⟨_, rfl⟩
  have HKD := Lib.hid (show depth ≤ 15 → (k = 1 ∧ depth < 0 ∧ d = 0) ∨ (k = 2 ∧ depth = (d : Int) ∧ d ≤ 15) from fun h => by subst hk hd; split <;> omega)
  obtain ⟨s0, hs0⟩ : ∃ s0, s0 = DuS.newS k d gn (oldT g H kx 5 n2) := ⟨_, rfl⟩
  have HS0 := Lib.hid hs0
  obtain ⟨hCM1, hCM2, hCM3, hC0⟩ := hCM
  have hCA : C ≠ AR := by omega
  have hA0 : w0.heap.size ≤ AR := by omega
  clear hk hd hs0 hCM2
  go_wp2
  go_loopg [62] 3 (fun gk v62 wr => ∃ (j : Nat) (D : Nat → Nat) (s : Nat → DuS), j + gk = 3 ∧ v62 = .int .i64 (j : Int) ∧ (0 < j → rightB (gn : Int) = true ∧ depth ≤ 15) ∧ (∀ i, i < j → s i = s0) ∧ D3 wr j C AR M D s MeterS.zero (KD C AR) cs E w0)
  case atStart => exact ⟨0, _, _, by omega, rfl, fun h => by omega, fun i h => by omega, T0.out⟩
  case round =>
    clear T0
    obtain ⟨j, D, s, hj, rfl, hjb, hsj, hD3⟩ := hrel
    obtain ⟨ga, hga⟩ : ∃ ga, ga = gk := ⟨_, rfl⟩
    subst hga
    have HJB := Lib.hid hjb
    have HSJ := Lib.hid hsj
    have HD3 := Lib.hid hD3
    obtain ⟨wO, hwO⟩ : ∃ wO, wO = wr := ⟨_, rfl⟩
    subst hwO
    have bO := hD3.z.bel
    have hcc := hD3.c
    rw [HCS.out] at hcc
    have KC0 := Lib.hid hcc
    have BO := Lib.hid bO
    obtain ⟨r0, r1, r2, r3, r4, zC⟩ := cased_cells hcc
    clear hjb hsj hD3 hcc
    by_cases hlt : j < 3
    · have hltI : (j : Int) < 3 := by omega
      go_upto_region 13 with (go_at_call 6; (with_reducible refine (NWT.out wO).mono ?_); rintro e w5 ⟨O, Q, rfl, hO, hQ, ht, hb5⟩; have S5 := Lib.hid (TMW.new (w0 := w0) HK5.out HEC.out HT.out BO.out ht hb5 hO hQ); have B5 := Lib.hid hb5; have C5 := Lib.hid (KC0.out.below hb5 KC0.out.lt); have c5 := cased_cells C5.out; have c50 := c5.1; have c51 := c5.2.1; have c52 := c5.2.2.1; have c53 := c5.2.2.2.1; have c54 := c5.2.2.2.2.1; have zc5 := C5.out.lt; clear c5 ht hb5 r0 r1 r2 r3 r4 zC)
      go_wp2
      go_loopw [80] (fun v80 wx => ∃ x : Nat, x ≤ n2 ∧ v80 = .int .i64 (x : Int) ∧ TN wx O Q (oldT g H kx 5 x) E w0 ∧ Below wO.heap.size wO wx) (fun v80 _ => n2 - (intOf v80).toNat)
      case atStart => exact ⟨0, Nat.zero_le _, rfl, S5.out, B5.out⟩
      case round =>
        clear S5 B5 C5 c50 c51 c52 c53 c54 zc5
        obtain ⟨x, hx, rfl, hTx, hBx⟩ := hrel
        have KT := Lib.hid hTx
        have KB := Lib.hid hBx
        have B0 := Lib.hid (BO.out.trans (hBx.mono BO.out.size))
        have CX := KC0.out.below hBx KC0.out.lt
        have KC1 := Lib.hid CX
        obtain ⟨r0, r1, r2, r3, r4, zC⟩ := cased_cells CX
        clear hTx hBx CX
        by_cases hxn : x < n2
        · have hxI : (x : Int) < (n2 : Int) := by omega
          obtain ⟨kb, ko, rfl, hkz, hkc⟩ := HX2.out (by omega)
          have kc : wr.cell? ⟨kb, ko + x, none⟩ = some (.int .i64 (f2 x 0)) := by simpa using hkc wr B0.out x hxn 0 (by decide)
          have hkz2 : kb < wr.heap.size := Nat.lt_of_lt_of_le hkz B0.out.size
          have EQ := Lib.hid (EN.out (f2 x 0) 5)
          have hkx : kx x = ((keyI (f2 x 0) n1 : Nat) : Int) := by rw [HKX.out]
          have hxk := keyI_lt (f2 x 0) n1 k1
          have hnx := OR.out x (by omega)
          have hsx : oldT g H kx 5 (x + 1) = (oldT g H kx 5 x).putT (kx x) 5 (H (kx x)) := rfl
          rw [hkx] at hnx hsx
          generalize keyI (f2 x 0) n1 = xk at *
          generalize f2 x 0 = q at *
          rw [HH.out xk hxk] at hnx hsx
          have hGx := HG.out xk hxk
          obtain ⟨h, hh⟩ : ∃ h, h = G xk := ⟨_, rfl⟩
          rw [← hh] at hnx hsx hGx EQ
          have PU := Lib.hid (fun (w' : World) (h' : TN w' O Q (oldT g H kx 5 x) E w0) => TN.put h' (xk : Int) 5 h hGx)
          rw [hnx, errN_0] at PU
          rw [← hsx] at PU
          generalize (oldT g H kx 5 x).putB (xk : Int) h = pb at *
          clear hkc hkx hnx hsx hh hkz
          go_wp2_with (first
            | (go_at_call 12; (with_reducible refine (EQ.out _ B0.out).mono ?_); rintro e w6 ⟨rfl, hb6⟩; have T6 := Lib.hid (KT.out.later hb6); have B6 := Lib.hid (KB.out.trans (hb6.mono KB.out.size)))
            | (go_at_call 11; (with_reducible refine (PU.out _ T6.out).mono ?_); rintro e w7 ⟨rfl, ht7, hc7⟩; have T7 := Lib.hid ht7; have B7 := Lib.hid (B6.out.trans (hc7.below B6.out.size (fun b hb e => by rcases e with e | e <;> omega))); clear ht7 hc7))
          go_roundw
          case rel => exact ⟨x + 1, by omega, by go_num, T7.out, B7.out⟩
          case measure => simp [intOf]; omega
        · obtain rfl : x = n2 := by omega
          by_cases hbad : rightB (gn : Int) = true ∧ depth ≤ 15
          · obtain ⟨hrn, hdp⟩ := hbad
            have hkd := HKD.out hdp
            have NW := Lib.hid (fun (w' : World) (h' : TN w' O Q (oldT g H kx 5 x) E w0) => dualNew_ok (w := w') depth hkd hrn h')
            rw [← HS0.out] at NW
            have HKD2 := Lib.hid hkd
            clear hkd
            go_wp2_with (go_at_call 13; (with_reducible refine (NW.out _ KT.out).mono ?_); rintro e w6 ⟨a, bcap, rfl, hA, ha1, ha2, hge, hb6⟩; have D6 := Lib.hid (HD3.out.later (KB.out.trans (hb6.mono KB.out.size))); have q6 := D6.out.cell hlt; have zA := D6.out.a.lt; have fA := fun o => D6.out.a.frozen o; have NEW := Lib.hid (ds_new HKD2.out hrn hA HS0.out ha1 ha2 hge hO hQ KB.out.size); have B6 := Lib.hid (KB.out.trans (hb6.mono KB.out.size)); (generalize a 0 = D0 at *); clear hA ha1 ha2 hge hb6)
            go_roundg (ga - 1)
            case rel =>
              obtain ⟨a', e0, hv, hX⟩ := NEW.out
              refine ⟨j + 1, upd D j D0, upd s j s0, by omega, by go_num, fun _ => ⟨hrn, hdp⟩, fun i hi => ?_, ?_⟩
              · by_cases e : i = j
                · subst e; rw [upd_same]
                · rw [upd_other _ _ e]; exact HSJ.out i (by omega)
              · rcases HD3.out.more hlt hA0 hv hX B6.out with h | h
                · rw [e0] at h; exact h
                · exact absurd h hCA
            case measure => omega
          · have NW := Lib.hid (dualNew_bad (w := wr) (O := O) (Q := Q) (T := oldT g H kx 5 x) (E := E) (w0 := w0) (gn : Int) depth (by by_cases e : rightB (gn : Int) = true; exact .inl (by simp only [e, true_and] at hbad; omega); exact .inr (by simpa using e)) KT.out)
            unfold errAt at NW
            go_wp2_with (go_at_call 13; (with_reducible refine NW.out.mono ?_); rintro e w6 ⟨rfl, hb6⟩)
            go_ret
            exact ⟨rfl, B0.out.trans (hb6.mono B0.out.size)⟩
    · obtain rfl : j = 3 := by omega
      obtain ⟨hrn, hdp⟩ := HJB.out (by omega)
      have hkd := HKD.out hdp
      obtain ⟨c0, P0, V0, hK0⟩ := DuK.new (kx := kx) (v := 5) (k := k) (d := d) (gn := gn) (by omega) hrn HK5.out HHb.out n2
      rw [← HS0.out] at hK0
      have HK0 := Lib.hid (show ∀ i, i < 3 → DuK (s i) H g gn (n2 : Int) c0 P0 V0 from fun i hi => by rw [HSJ.out i hi]; exact hK0)
      have hnn : (n2 : Int) + (n3 : Int) ≤ 6 * (gn : Int) := by omega
      clear hkd hK0 hrn hdp HKD HJB HSJ HS0 NWT OT OR r0 r1 r2 r3 r4 zC hlt
      go_wp2
      go_loopg [120] (s 0).left (fun gk v120 wr => ∃ (s : Nat → DuS) (mt : MeterS), D3 wr 3 C AR M D s mt (KD C AR) cs E w0 ∧ (∀ i, i < 3 → DuK (s i) H g gn (n2 : Int) c0 P0 V0) ∧ (s 0).left = gk)
      case atStart => exact ⟨s, _, HD3.out, HK0.out, rfl⟩
      case round =>
        clear HD3 HK0 BO KC0
        obtain ⟨s, mt, hD, hK, hl⟩ := hrel
        have HD := Lib.hid hD
        have HKK := Lib.hid hK
        have HL := Lib.hid hl
        have q0 := hD.cell (show 0 < 3 by decide)
        rw [if_pos (by decide : 0 < 3)] at q0
        have zA := hD.a.lt
        obtain ⟨ev, st1, st2⟩ := (hK 0 (by decide)).stp HHb.out (by omega)
        have EV := Lib.hid ev
        have ST1 := Lib.hid st1
        have ST2 := Lib.hid st2
        have ST := Lib.hid (hD.z.step (show 0 < 3 by decide) ev)
        rw [hl] at ST
        obtain ⟨D0, hD0⟩ : ∃ D0, D0 = D 0 := ⟨_, rfl⟩
        rw [← hD0] at q0 ST
        replace hD0 := Lib.hid hD0
        clear hD hK hl ev st1 st2
        by_cases h0 : 0 < gk
        · rw [decide_eq_true h0] at ST
          go_wp2_with (go_at_call 14; (with_reducible refine ST.out.mono ?_); rintro e w5 ⟨rfl, hz5, hc5⟩; have D5 := Lib.hid (HD.out.turn hz5 hc5); clear hz5 hc5)
          go_roundg (gk - 1)
          case measure => omega
          case rel =>
            refine ⟨_, _, D5.out, fun i hi => ?_, ?_⟩
            · by_cases e : i = 0
              · subst e; rw [upd_same]; exact ST1.out
              · rw [upd_other _ _ e]; exact HKK.out i hi
            · rw [upd_same, ST2.out, HL.out]
        · rw [decide_eq_false h0] at ST
          go_upto_region 26 with (go_at_call 14; (with_reducible refine ST.out.mono ?_); rintro e w5 ⟨rfl, hz5, hc5⟩; have D5 := Lib.hid (HD.out.turn hz5 hc5); clear hz5 hc5)
          have K5 := Lib.hid (show ∀ i, i < 3 → DuK (upd s 0 (s 0).stp i) H g gn (n2 : Int) c0 P0 V0 from fun i hi => by
            by_cases e : i = 0
            · subst e; rw [upd_same]; exact ST1.out
            · rw [upd_other _ _ e]; exact HKK.out i hi)
          obtain ⟨s5, hs5⟩ : ∃ s5, s5 = upd s 0 (s 0).stp := ⟨_, rfl⟩
          rw [← hs5] at D5 K5
          clear hs5 ST1 ST2 EV HKK HD HL ST q0 zA h0
          go_wp2
          go_loopg [123] n3 (fun gk v123 wr => ∃ (j : Nat) (s : Nat → DuS) (mt : MeterS) (c : Int) (P : Int → Bool) (V : Int → EntS), j + gk = n3 ∧ v123 = .int .i64 (j : Int) ∧ D3 wr 3 C AR M D s mt (KD C AR) cs E w0 ∧ ∀ i, i < 3 → DuK (s i) H g gn ((n2 : Int) + (j : Int)) c P V)
          case atStart => exact ⟨0, s5, _, _, _, _, by omega, rfl, D5.out, by simpa using K5.out⟩
          case round =>
            clear D5 K5
            obtain ⟨j, s, mt, c, P, V, hj, rfl, hD, hK⟩ := hrel
            obtain ⟨gb, hgb⟩ : ∃ gb, gb = gk := ⟨_, rfl⟩
            subst hgb
            have HD := Lib.hid hD
            have HKK := Lib.hid hK
            have BD := Lib.hid hD.z.bel
            have hcc := hD.c
            rw [HCS.out] at hcc
            have KC0 := Lib.hid hcc
            obtain ⟨r0, r1, r2, r3, r4, zC⟩ := cased_cells hcc
            obtain ⟨wO, hwO⟩ : ∃ wO, wO = wr := ⟨_, rfl⟩
            subst hwO
            clear hD hK hcc
            by_cases hlt : j < n3
            · have hltI : (j : Int) < (n3 : Int) := by omega
              obtain ⟨ab, ao, rfl, haz, hac⟩ := HX3.out (by omega)
              have t0 : wO.cell? ⟨ab, ao + j * 3, none⟩ = some (.int .i64 (f3 j 0)) := by simpa using hac wO BD.out j hlt 0 (by decide)
              have t1 : wO.cell? ⟨ab, ao + j * 3 + 1, none⟩ = some (.int .i64 (f3 j 1)) := by simpa [Nat.add_assoc] using hac wO BD.out j hlt 1 (by decide)
              have t2 : wO.cell? ⟨ab, ao + j * 3 + 2, none⟩ = some (.int .i64 (f3 j 2)) := by simpa [Nat.add_assoc] using hac wO BD.out j hlt 2 (by decide)
              have haz2 : ab < wO.heap.size := Nat.lt_of_lt_of_le haz BD.out.size
              generalize f3 j 0 = kd at t0
              generalize f3 j 1 = ky at t1
              generalize f3 j 2 = vN at t2
              have hxk := keyI_lt ky n1 k1
              have EQ := Lib.hid (EN.out ky (valI vN))
              have hv0 : IntKind.u64.wrap vN = valI vN := rfl
              generalize keyI ky n1 = x at *
              generalize valI vN = vv at *
              have hGx := HG.out x hxk
              have hHx := HH.out x hxk
              obtain ⟨h, hh⟩ : ∃ h, h = G x := ⟨_, rfl⟩
              rw [← hh] at EQ hGx hHx
              have HHx := Lib.hid hHx
              have hm1 : (n2 : Int) + (j : Int) < 7 * (gn : Int) ∧ (n2 : Int) + (j : Int) < 7 * (g : Int) := by omega
              have ACT := Lib.hid (show ∀ s' : DuS, DuK s' H g gn ((n2 : Int) + (j : Int)) c P V → DuK (s'.act kd (x : Int) vv h) H g gn ((n2 : Int) + ((j + 1 : Nat) : Int)) (actC kd P (x : Int) c) (actP kd P (x : Int)) (actV kd V (x : Int) vv h) from fun s' h' => by
                have := h'.act hm1.1 hm1.2 kd (x : Int) vv (by rw [HHx.out]; exact hGx)
                rw [HHx.out] at this
                rw [show (n2 : Int) + ((j + 1 : Nat) : Int) = (n2 : Int) + (j : Int) + 1 by omega]
                exact this)
              generalize actC kd P (x : Int) c = c1 at *
              generalize actP kd P (x : Int) = P1 at *
              generalize actV kd V (x : Int) vv h = V1 at *
              clear hac hh hHx hm1 haz
              go_upto_region 30 with (go_at_call 12; (with_reducible refine (EQ.out _ (BD.out.trans ((Below.refl _ _).alloc BD.out.size _))).mono ?_); rintro e w5 ⟨rfl, hb5⟩; have B5 := Lib.hid hb5; have A5 := Lib.hid ((Blk.new wO 59 #[.int .i64 kd, .int .i64 ky, .int .i64 vN]).below hb5 (by simp)))
              refine wp_at (fun w6 hw6 => ?_)
              obtain ⟨A, hA⟩ : ∃ A, A = wO.heap.size := ⟨_, rfl⟩
              obtain ⟨X, hX⟩ : ∃ X, X = w5.heap.size := ⟨_, rfl⟩
              have B56 : Below w5.heap.size w5 w6 := by rw [hw6]; go_grown
              have hz5 := B5.out.size
              simp only [World.size_alloc] at hz5
              have BO6 := Lib.hid (show Below wO.heap.size wO w6 from (((Below.refl wO.heap.size wO).alloc (Nat.le_refl _) _).trans (B5.out.mono (by simp))).trans (B56.mono (by omega)))
              have X6 := Lib.hid (show Blk w6 X 53 #[.int .u64 (x : Int), .int .u64 vv, .int .u64 (h : Int)] by rw [hw6, hX]; exact Blk.new _ _ _)
              have A6 := Lib.hid (show Blk w6 A 59 #[.int .i64 kd, .int .i64 ky, .int .i64 vN] by rw [hA]; exact A5.out.below B56 A5.out.lt)
              have D6 := Lib.hid (HD.out.keep (K' := fun b => KD C AR b ∨ b = A ∨ b = X) BO6.out (fun b e => by
                rcases e with e | e | e
                · exact .inl e
                · exact .inr ⟨by omega, by rw [e]; exact A6.out.lt⟩
                · exact .inr ⟨by omega, by rw [e]; exact X6.out.lt⟩) ⟨.inl (.inl rfl), .inl (.inr rfl)⟩)
              have hAX : w0.heap.size ≤ A ∧ w0.heap.size ≤ X := by have := BD.out.size; omega
              rw [← hA, ← hX]
              replace hw6 := Lib.hid hw6
              replace hA := Lib.hid hA
              replace hX := Lib.hid hX
              have g0 := D6.out.cell (show 0 < 3 by decide)
              have g1' := D6.out.cell (show 1 < 3 by decide)
              have g2 := D6.out.cell (show 2 < 3 by decide)
              rw [if_pos (by decide : 0 < 3)] at g0
              rw [if_pos (by decide : 1 < 3)] at g1'
              rw [if_pos (by decide : 2 < 3)] at g2
              have zA6 := D6.out.a.lt
              have IX := Lib.hid (fun (i : Nat) (hi : i < 3) (w : World) => ix3_at D hi w)
              obtain ⟨d0, hd0⟩ : ∃ d0, d0 = D 0 := ⟨_, rfl⟩
              obtain ⟨d1, hd1⟩ : ∃ d1, d1 = D 1 := ⟨_, rfl⟩
              obtain ⟨d2, hd2⟩ : ∃ d2, d2 = D 2 := ⟨_, rfl⟩
              rw [← hd0] at g0
              rw [← hd1] at g1'
              rw [← hd2] at g2
              rw [← hd0, ← hd1, ← hd2] at IX
              replace hd0 := Lib.hid hd0
              replace hd1 := Lib.hid hd1
              replace hd2 := Lib.hid hd2
              clear B56 hz5 A5 B5 hb5 t0 t1 t2 haz2 r0 r1 r2 r3 r4 zC HD BO6
              obtain ⟨K', hK'⟩ : ∃ K' : Nat → Prop, K' = fun b => KD C AR b ∨ b = A ∨ b = X := ⟨_, rfl⟩
              rw [← hK'] at D6
              have HKK' := Lib.hid (show K' A ∧ K' X ∧ ∀ b, KD C AR b → K' b from by rw [hK']; exact ⟨.inr (.inl rfl), .inr (.inr rfl), fun b e => .inl e⟩)
              clear hK'
              go_wp2
              go_loopg [135] 3 (fun gk v135 wx => ∃ (i : Nat) (s' : Nat → DuS) (mt' : MeterS), i + gk = 3 ∧ v135 = .int .i64 (i : Int) ∧ D3 wx 3 C AR M D s' mt' K' cs E w0 ∧ Blk wx A 59 #[.int .i64 kd, .int .i64 ky, .int .i64 vN] ∧ Blk wx X 53 #[.int .u64 (x : Int), .int .u64 vv, .int .u64 (h : Int)] ∧
                  (∀ t, t < 3 → t < i → DuK (s' t) H g gn ((n2 : Int) + ((j + 1 : Nat) : Int)) c1 P1 V1) ∧ (∀ t, t < 3 → i ≤ t → DuK (s' t) H g gn ((n2 : Int) + (j : Int)) c P V))
              case atStart => exact ⟨0, s, mt, by omega, rfl, D6.out, A6.out, X6.out, fun t _ h => by omega, fun t ht _ => HKK.out t ht⟩
              case round =>
                clear D6 A6 X6 g0 g1' g2 zA6 HKK
                obtain ⟨i, s', mt', hi, rfl, hD, hAb, hXb, hnew, hold⟩ := hrel
                obtain ⟨gc, hgc⟩ : ∃ gc, gc = gk := ⟨_, rfl⟩
                subst hgc
                have HD := Lib.hid hD
                have KA := Lib.hid hAb
                have KX := Lib.hid hXb
                have HN := Lib.hid hnew
                have HO := Lib.hid hold
                clear hD hnew hold
                by_cases hi3 : i < 3
                · have hiI : (i : Int) < 3 := by omega
                  have ix := IX.out i hi3
                  have ho := HO.out i hi3 (Nat.le_refl _)
                  have hN0 : (s' i).putN (x : Int) h true = 0 := by
                    have hok := ho.okm (by omega) (by omega) (x : Int)
                    have h2 := (ho.l.f.putB_eq (x : Int)).2
                    rw [hok, if_pos rfl, HHx.out] at h2
                    exact h2
                  have ha := ACT.out _ ho
                  obtain ⟨di, hdi⟩ : ∃ di, di = D i := ⟨_, rfl⟩
                  rw [← hdi] at ix
                  have HDI := Lib.hid hdi.symm
                  have PU := Lib.hid (fun (w' : World) (h' : D3 w' 3 C AR M D s' mt' K' cs E w0) => h'.z.put hi3 (x : Int) vv h hGx true 1 0 0)
                  have DE := Lib.hid (fun (w' : World) (h' : D3 w' 3 C AR M D s' mt' K' cs E w0) => h'.z.del hi3 (x : Int) h hGx 1 0 0)
                  rw [← hdi, hN0, errN_0] at PU
                  rw [← hdi] at DE
                  have a0 := hAb.cell 0
                  have zA := hAb.lt
                  obtain ⟨x0, x1, x2⟩ := cells3 hXb
                  have zX := hXb.lt
                  have SX := Lib.hid (show ∀ Xs : DuS, DuK Xs H g gn ((n2 : Int) + ((j + 1 : Nat) : Int)) c1 P1 V1 → Xs.evOk ∧ DuK Xs.stp H g gn ((n2 : Int) + ((j + 1 : Nat) : Int)) c1 P1 V1 from fun Xs h' => by
                    have := h'.stp HHb.out (by omega)
                    exact ⟨this.1, this.2.1⟩)
                  clear ho hN0 hAb hXb hdi
                  by_cases q0 : kd = 0
                  · subst q0
                    obtain ⟨Xs, hXs⟩ : ∃ Xs, Xs = (s' i).put (x : Int) vv h true := ⟨_, rfl⟩
                    rw [← hXs] at PU
                    have HXs := Lib.hid (show DuK Xs H g gn ((n2 : Int) + ((j + 1 : Nat) : Int)) c1 P1 V1 from by rw [hXs]; exact ha)
                    generalize (s' i).putB (x : Int) h true = pb at *
                    clear ha hXs DE
                    go_upto_region 35 with (fail)
                    refine wp_region_seq (fun _ => False) #[⟨0, 0, 22300745198530623141535718272648361505980416, 524288, 0⟩, ⟨0, 0, 44601490397061246283071436545296723011960832, 32, 0⟩, ⟨2, 2, 89202980794122492566142873090593446023921664, 44601490397061246283071436545296723011960832, 2⟩, ⟨0, 0, 178405961588244985132285746181186892047843328, 131072, 1⟩, ⟨13, 15, 356811923176489970264571492362373784095686656, 289909687580898100839964337544428699577745408, 3⟩, ⟨16, 31, 11150372599265311570767859136324180752990208, 356811923176489970264571492362373784095686656, 0⟩, ⟨32, 63, 713623846352979940529142984724747568191373312, 11150372599265311570767859136324180752990208, 0⟩, ⟨32, 63, 1427247692705959881058285969449495136382746624, 11150372599265311570767859136324180752990208, 0⟩, ⟨127, 127, 1048576, 713623846352979940529142984724747568191373312, 0⟩, ⟨511, 511, 2097152, 1427247692705959881058285969449495136382746624, 0⟩] 8 [(0, 0), (1, 0), (3, 1), (2, 2), (4, 3), (5, 0), (6, 0), (7, 0), (8, 0), (9, 0)] (by kernel_rfl) (by kernel_rfl) (by kernel_rfl) (by kernel_rfl) (by kernel_rfl) (by kernel_rfl) (fun c a d v w h => by cases d <;> exact h) ?_
                    refine seq_calcA (h := ?_)
                    try simp only [Act.put, List.setIfInBounds_toArray, List.set_cons_zero, List.set_cons_succ]
                    refine seq_calcA (h := ?_)
                    try simp only [Act.put, List.setIfInBounds_toArray, List.set_cons_zero, List.set_cons_succ]
                    refine seq_loadsA [_, _, _] (hu := Tryd.underlying53) (h := ?_)
                    try simp only [Act.put, List.setIfInBounds_toArray, List.set_cons_zero, List.set_cons_succ]
                    refine seq_doA (h := fun K hK => ?_); go_wp2_with (first | (go_at_call 16; (with_reducible refine (probing_any _ _).mono ?_); rintro e w7 ⟨rfl, hb7⟩; have D7 := Lib.hid ((HD.out.later (Below.refl _ _).drew).later hb7); have A7 := Lib.hid (KA.out.drew.below hb7 KA.out.drew.lt); have X7 := Lib.hid (KX.out.drew.below hb7 KX.out.drew.lt)) | (go_at_call 15; (with_reducible refine (PU.out _ D7.out).mono ?_); rintro e w8 ⟨rfl, hz8, hc8⟩; have D8 := Lib.hid (D7.out.turn hz8 hc8); have A8 := Lib.hid (A7.out.chg hc8 (fun e => e.2 HKK'.out.1)); have X8 := Lib.hid (X7.out.chg hc8 (fun e => e.2 HKK'.out.2.1)))); refine hkA hK (h := ?_); clear hK K
                    try simp only [Act.put, List.setIfInBounds_toArray, List.set_cons_zero, List.set_cons_succ]
                    refine seq_lastA (h := fun K hK => ?_); go_wp2_with (first | (go_at_call 16; (with_reducible refine (probing_any _ _).mono ?_); rintro e w7 ⟨rfl, hb7⟩; have D7 := Lib.hid ((HD.out.later (Below.refl _ _).drew).later hb7); have A7 := Lib.hid (KA.out.drew.below hb7 KA.out.drew.lt); have X7 := Lib.hid (KX.out.drew.below hb7 KX.out.drew.lt)) | (go_at_call 15; (with_reducible refine (PU.out _ D7.out).mono ?_); rintro e w8 ⟨rfl, hz8, hc8⟩; have D8 := Lib.hid (D7.out.turn hz8 hc8); have A8 := Lib.hid (A7.out.chg hc8 (fun e => e.2 HKK'.out.1)); have X8 := Lib.hid (X7.out.chg hc8 (fun e => e.2 HKK'.out.2.1)))); refine hK.out _ _ ?_; clear hK K
                    try simp only [Act.put, List.setIfInBounds_toArray, List.set_cons_zero, List.set_cons_succ]
                    refine seq_calcA (h := ?_)
                    try simp only [Act.put, List.setIfInBounds_toArray, List.set_cons_zero, List.set_cons_succ]
                    refine seq_calcA (h := ?_)
                    try simp only [Act.put, List.setIfInBounds_toArray, List.set_cons_zero, List.set_cons_succ]
                    refine seq_calcA (h := ?_)
                    try simp only [Act.put, List.setIfInBounds_toArray, List.set_cons_zero, List.set_cons_succ]
                    refine seq_calcA (h := ?_)
                    try simp only [Act.put, List.setIfInBounds_toArray, List.set_cons_zero, List.set_cons_succ]
                    refine seq_calcA (h := ?_)
                    try simp only [Act.put, List.setIfInBounds_toArray, List.set_cons_zero, List.set_cons_succ]
                    refine seq_nil ?_
                    have ST := Lib.hid (fun (mt9 : MeterS) (w' : World) (h' : D3 w' 3 C AR M D (upd s' i Xs) mt9 K' cs E w0) => h'.z.step hi3 (by rw [upd_same]; exact (SX.out _ HXs.out).1))
                    simp only [upd_same, upd_upd] at ST
                    rw [HDI.out] at ST
                    by_cases hi1 : i = 1
                    · have e1 : ((i : Int) == 1) = true := by simp [hi1]
                      go_wp2_with (go_at_call 14; (with_reducible refine (ST.out _ _ D8.out).mono ?_); rintro e w9 ⟨rfl, hz9, hc9⟩; have D9 := Lib.hid (D8.out.turn hz9 hc9); have A9 := Lib.hid (A8.out.chg hc9 (fun e => e.2 HKK'.out.1)); have X9 := Lib.hid (X8.out.chg hc9 (fun e => e.2 HKK'.out.2.1)))
                      go_roundg (gc - 1)
                      case rel => exact ⟨i + 1, _, _, by omega, by go_num, D9.out, A9.out, X9.out, upd_new (Q := fun u => DuK u H g gn ((n2 : Int) + ((j + 1 : Nat) : Int)) c1 P1 V1) (R := fun u => DuK u H g gn ((n2 : Int) + (j : Int)) c P V) HN.out HO.out (SX.out _ HXs.out).2⟩
                      case measure => omega
                    · have e1 : ((i : Int) == 1) = false := by simp; omega
                      go_wp2
                      go_roundg (gc - 1)
                      case rel => exact ⟨i + 1, _, _, by omega, by go_num, D8.out, A8.out, X8.out, upd_new (Q := fun u => DuK u H g gn ((n2 : Int) + ((j + 1 : Nat) : Int)) c1 P1 V1) (R := fun u => DuK u H g gn ((n2 : Int) + (j : Int)) c P V) HN.out HO.out HXs.out⟩
                      case measure => omega
                  · have q0' : (kd == 0) = false := by simpa using q0
                    by_cases q2 : kd = 2
                    · subst q2
                      obtain ⟨Xs, hXs⟩ : ∃ Xs, Xs = (s' i).del (x : Int) h := ⟨_, rfl⟩
                      rw [← hXs] at DE
                      have HXs := Lib.hid (show DuK Xs H g gn ((n2 : Int) + ((j + 1 : Nat) : Int)) c1 P1 V1 from by rw [hXs]; exact ha)
                      generalize (s' i).has (x : Int) h = hs' at *
                      generalize ((s' i).ent (x : Int) h).key = k0 at *
                      generalize ((s' i).ent (x : Int) h).val = k1' at *
                      generalize ((s' i).ent (x : Int) h).hash = k2' at *
                      clear ha hXs PU q0 q0'
                      go_upto_region 39 with (fail)
                      refine wp_region_seq (fun _ => False) #[⟨0, 0, 91343852333181432387730302044767688728495783936, 524288, 0⟩, ⟨0, 0, 182687704666362864775460604089535377456991567872, 32, 0⟩, ⟨2, 2, 365375409332725729550921208179070754913983135744, 182687704666362864775460604089535377456991567872, 2⟩, ⟨0, 0, 730750818665451459101842416358141509827966271488, 131072, 0⟩, ⟨8, 8, 1461501637330902918203684832716283019655932542976, 730750818665451459101842416358141509827966271488, 1⟩, ⟨0, 0, 2923003274661805836407369665432566039311865085952, 131072, 0⟩, ⟨32, 32, 5846006549323611672814739330865132078623730171904, 2923003274661805836407369665432566039311865085952, 1⟩, ⟨85, 127, 11692013098647223345629478661730264157247460343808, 7764227448320421752957075673805253541922141634560, 3⟩, ⟨128, 255, 45671926166590716193865151022383844364247891968, 11692013098647223345629478661730264157247460343808, 0⟩, ⟨256, 511, 23384026197294446691258957323460528314494920687616, 45671926166590716193865151022383844364247891968, 0⟩, ⟨256, 511, 46768052394588893382517914646921056628989841375232, 45671926166590716193865151022383844364247891968, 0⟩] 80 [(0, 0), (1, 0), (3, 0), (4, 1), (5, 0), (6, 1), (2, 2), (7, 3), (8, 0), (9, 0), (10, 0)] (by kernel_rfl) (by kernel_rfl) (by kernel_rfl) (by kernel_rfl) (by kernel_rfl) (by kernel_rfl) (fun c a d v w h => by cases d <;> exact h) ?_
                      refine seq_calcA (h := ?_)
                      try simp only [Act.put, List.setIfInBounds_toArray, List.set_cons_zero, List.set_cons_succ]
                      refine seq_calcA (h := ?_)
                      try simp only [Act.put, List.setIfInBounds_toArray, List.set_cons_zero, List.set_cons_succ]
                      refine seq_calcA (h := ?_)
                      try simp only [Act.put, List.setIfInBounds_toArray, List.set_cons_zero, List.set_cons_succ]
                      refine seq_load1A (hu := Tryd.underlying51) (h := ?_)
                      try simp only [Act.put, List.setIfInBounds_toArray, List.set_cons_zero, List.set_cons_succ]
                      refine seq_calcA (h := ?_)
                      try simp only [Act.put, List.setIfInBounds_toArray, List.set_cons_zero, List.set_cons_succ]
                      refine seq_load1A (hu := Tryd.underlying51) (h := ?_)
                      try simp only [Act.put, List.setIfInBounds_toArray, List.set_cons_zero, List.set_cons_succ]
                      refine seq_doA (h := fun K hK => ?_); go_wp2_with (first | (go_at_call 16; (with_reducible refine (probing_any _ _).mono ?_); rintro e w7 ⟨rfl, hb7⟩; have D7 := Lib.hid ((HD.out.later (Below.refl _ _).drew).later hb7); have A7 := Lib.hid (KA.out.drew.below hb7 KA.out.drew.lt); have X7 := Lib.hid (KX.out.drew.below hb7 KX.out.drew.lt)) | (go_at_call 17; (with_reducible refine (DE.out _ D7.out).mono ?_); rintro e w8 ⟨rfl, hz8, hc8⟩; have D8 := Lib.hid (D7.out.turn hz8 hc8); have A8 := Lib.hid (A7.out.chg hc8 (fun e => e.2 HKK'.out.1)); have X8 := Lib.hid (X7.out.chg hc8 (fun e => e.2 HKK'.out.2.1)))); refine hkA hK (h := ?_); clear hK K
                      try simp only [Act.put, List.setIfInBounds_toArray, List.set_cons_zero, List.set_cons_succ]
                      refine seq_lastA (h := fun K hK => ?_); go_wp2_with (first | (go_at_call 16; (with_reducible refine (probing_any _ _).mono ?_); rintro e w7 ⟨rfl, hb7⟩; have D7 := Lib.hid ((HD.out.later (Below.refl _ _).drew).later hb7); have A7 := Lib.hid (KA.out.drew.below hb7 KA.out.drew.lt); have X7 := Lib.hid (KX.out.drew.below hb7 KX.out.drew.lt)) | (go_at_call 17; (with_reducible refine (DE.out _ D7.out).mono ?_); rintro e w8 ⟨rfl, hz8, hc8⟩; have D8 := Lib.hid (D7.out.turn hz8 hc8); have A8 := Lib.hid (A7.out.chg hc8 (fun e => e.2 HKK'.out.1)); have X8 := Lib.hid (X7.out.chg hc8 (fun e => e.2 HKK'.out.2.1)))); refine hK.out _ _ ?_; clear hK K
                      try simp only [Act.put, List.setIfInBounds_toArray, List.set_cons_zero, List.set_cons_succ]
                      refine seq_calcA (h := ?_)
                      try simp only [Act.put, List.setIfInBounds_toArray, List.set_cons_zero, List.set_cons_succ]
                      refine seq_calcA (h := ?_)
                      try simp only [Act.put, List.setIfInBounds_toArray, List.set_cons_zero, List.set_cons_succ]
                      refine seq_calcA (h := ?_)
                      try simp only [Act.put, List.setIfInBounds_toArray, List.set_cons_zero, List.set_cons_succ]
                      refine seq_nil ?_
                      have ST := Lib.hid (fun (mt9 : MeterS) (w' : World) (h' : D3 w' 3 C AR M D (upd s' i Xs) mt9 K' cs E w0) => h'.z.step hi3 (by rw [upd_same]; exact (SX.out _ HXs.out).1))
                      simp only [upd_same, upd_upd] at ST
                      rw [HDI.out] at ST
                      by_cases hi1 : i = 1
                      · have e1 : ((i : Int) == 1) = true := by simp [hi1]
                        go_wp2_with (go_at_call 14; (with_reducible refine (ST.out _ _ D8.out).mono ?_); rintro e w9 ⟨rfl, hz9, hc9⟩; have D9 := Lib.hid (D8.out.turn hz9 hc9); have A9 := Lib.hid (A8.out.chg hc9 (fun e => e.2 HKK'.out.1)); have X9 := Lib.hid (X8.out.chg hc9 (fun e => e.2 HKK'.out.2.1)))
                        go_roundg (gc - 1)
                        case rel => exact ⟨i + 1, _, _, by omega, by go_num, D9.out, A9.out, X9.out, upd_new (Q := fun u => DuK u H g gn ((n2 : Int) + ((j + 1 : Nat) : Int)) c1 P1 V1) (R := fun u => DuK u H g gn ((n2 : Int) + (j : Int)) c P V) HN.out HO.out (SX.out _ HXs.out).2⟩
                        case measure => omega
                      · have e1 : ((i : Int) == 1) = false := by simp; omega
                        go_wp2
                        go_roundg (gc - 1)
                        case rel => exact ⟨i + 1, _, _, by omega, by go_num, D8.out, A8.out, X8.out, upd_new (Q := fun u => DuK u H g gn ((n2 : Int) + ((j + 1 : Nat) : Int)) c1 P1 V1) (R := fun u => DuK u H g gn ((n2 : Int) + (j : Int)) c P V) HN.out HO.out HXs.out⟩
                        case measure => omega
                    · have q2' : (kd == 2) = false := by simpa using q2
                      obtain ⟨Xs, hXs⟩ : ∃ Xs, Xs = s' i := ⟨_, rfl⟩
                      have HXs := Lib.hid (show DuK Xs H g gn ((n2 : Int) + ((j + 1 : Nat) : Int)) c1 P1 V1 from by
                        unfold DuS.act at ha
                        rw [if_neg q0, if_neg q2] at ha
                        rw [hXs]; exact ha)
                      have D8 := Lib.hid (show D3 wr 3 C AR M D (upd s' i Xs) mt' K' cs E w0 from by rw [hXs, upd_self]; exact HD.out)
                      have A8 := Lib.hid KA.out
                      have X8 := Lib.hid KX.out
                      clear ha hXs PU DE
                      go_upto_region 40 with (fail)
                      have ST := Lib.hid (fun (mt9 : MeterS) (w' : World) (h' : D3 w' 3 C AR M D (upd s' i Xs) mt9 K' cs E w0) => h'.z.step hi3 (by rw [upd_same]; exact (SX.out _ HXs.out).1))
                      simp only [upd_same, upd_upd] at ST
                      rw [HDI.out] at ST
                      by_cases hi1 : i = 1
                      · have e1 : ((i : Int) == 1) = true := by simp [hi1]
                        go_wp2_with (go_at_call 14; (with_reducible refine (ST.out _ _ D8.out).mono ?_); rintro e w9 ⟨rfl, hz9, hc9⟩; have D9 := Lib.hid (D8.out.turn hz9 hc9); have A9 := Lib.hid (A8.out.chg hc9 (fun e => e.2 HKK'.out.1)); have X9 := Lib.hid (X8.out.chg hc9 (fun e => e.2 HKK'.out.2.1)))
                        go_roundg (gc - 1)
                        case rel => exact ⟨i + 1, _, _, by omega, by go_num, D9.out, A9.out, X9.out, upd_new (Q := fun u => DuK u H g gn ((n2 : Int) + ((j + 1 : Nat) : Int)) c1 P1 V1) (R := fun u => DuK u H g gn ((n2 : Int) + (j : Int)) c P V) HN.out HO.out (SX.out _ HXs.out).2⟩
                        case measure => omega
                      · have e1 : ((i : Int) == 1) = false := by simp; omega
                        go_wp2
                        go_roundg (gc - 1)
                        case rel => exact ⟨i + 1, _, _, by omega, by go_num, D8.out, A8.out, X8.out, upd_new (Q := fun u => DuK u H g gn ((n2 : Int) + ((j + 1 : Nat) : Int)) c1 P1 V1) (R := fun u => DuK u H g gn ((n2 : Int) + (j : Int)) c P V) HN.out HO.out HXs.out⟩
                        case measure => omega
                · obtain rfl : i = 3 := by omega
                  go_wp2
                  go_roundg (gb - 1)
                  case rel => exact ⟨j + 1, s', mt', c1, P1, V1, by omega, by go_num, HD.out.keep (Below.refl _ _) (fun b e => .inl (HKK'.out.2.2 b e)) ⟨.inl rfl, .inr rfl⟩, fun t ht => HN.out t ht ht⟩
                  case measure => omega
            · obtain rfl : j = n3 := by omega
              clear hlt
              go_wp2
              go_loopg [173] 3 (fun gk v173 wr => ∃ (i : Nat) (s : Nat → DuS) (mt : MeterS), i + gk = 3 ∧ v173 = .int .i64 (i : Int) ∧ D3 wr 3 C AR M D s mt (KD C AR) cs E w0 ∧ (∀ t, t < 3 → DuK (s t) H g gn ((n2 : Int) + (j : Int)) c P V) ∧ ∀ t, t < i → (s t).left = 0)
              case atStart => exact ⟨0, s, mt, by omega, rfl, HD.out, HKK.out, fun t h => by omega⟩
              case round =>
                clear HD HKK BD KC0 r0 r1 r2 r3 r4 zC
                obtain ⟨i, s, mt, hi, rfl, hD, hK, hL⟩ := hrel
                obtain ⟨gd, hgd⟩ : ∃ gd, gd = gk := ⟨_, rfl⟩
                subst hgd
                have HD := Lib.hid hD
                have HKK := Lib.hid hK
                have HL := Lib.hid hL
                clear hD hK hL
                obtain ⟨wP, hwP⟩ : ∃ wP, wP = wr := ⟨_, rfl⟩
                subst hwP
                by_cases hi3 : i < 3
                · have hiI : (i : Int) < 3 := by omega
                  go_wp2
                  go_loopg [180] (s i).left (fun gk v180 wr => ∃ (s : Nat → DuS) (mt : MeterS), D3 wr 3 C AR M D s mt (KD C AR) cs E w0 ∧ (∀ t, t < 3 → DuK (s t) H g gn ((n2 : Int) + (j : Int)) c P V) ∧ (∀ t, t < i → (s t).left = 0) ∧ (s i).left = gk)
                  case atStart => exact ⟨s, mt, HD.out, HKK.out, HL.out, rfl⟩
                  case round =>
                    clear HD HKK HL
                    obtain ⟨s, mt, hD, hK, hL, hl⟩ := hrel
                    have HD := Lib.hid hD
                    have HKK := Lib.hid hK
                    have HL := Lib.hid hL
                    have HLI := Lib.hid hl
                    have q0 := hD.cell hi3
                    rw [if_pos hi3] at q0
                    have zA := hD.a.lt
                    obtain ⟨ev, st1, st2⟩ := (hK i hi3).stp HHb.out (by omega)
                    have ST1 := Lib.hid st1
                    have ST2 := Lib.hid st2
                    have ST := Lib.hid (hD.z.step hi3 ev)
                    rw [hl] at ST
                    obtain ⟨D0, hD0⟩ : ∃ D0, D0 = D i := ⟨_, rfl⟩
                    rw [← hD0] at q0 ST
                    replace hD0 := Lib.hid hD0
                    have K5 := Lib.hid (show ∀ t, t < 3 → DuK (upd s i (s i).stp t) H g gn ((n2 : Int) + (j : Int)) c P V from fun t ht => by
                      by_cases e : t = i
                      · subst e; rw [upd_same]; exact ST1.out
                      · rw [upd_other _ _ e]; exact HKK.out t ht)
                    have L5 := Lib.hid (show ∀ t, t < i → (upd s i (s i).stp t).left = 0 from fun t ht => by rw [upd_other _ _ (by omega)]; exact HL.out t ht)
                    clear hD hK hL hl ev st1 st2
                    by_cases h0 : 0 < gk
                    · rw [decide_eq_true h0] at ST
                      go_wp2_with (go_at_call 14; (with_reducible refine ST.out.mono ?_); rintro e w5 ⟨rfl, hz5, hc5⟩; have D5 := Lib.hid (HD.out.turn hz5 hc5); clear hz5 hc5)
                      go_roundg (gk - 1)
                      case measure => omega
                      case rel => exact ⟨_, _, D5.out, K5.out, L5.out, by rw [upd_same, ST2.out, HLI.out]⟩
                    · rw [decide_eq_false h0] at ST
                      go_wp2_with (go_at_call 14; (with_reducible refine ST.out.mono ?_); rintro e w5 ⟨rfl, hz5, hc5⟩; have D5 := Lib.hid (HD.out.turn hz5 hc5); clear hz5 hc5)
                      go_roundg (gd - 1)
                      case rel => exact ⟨i + 1, _, _, by omega, by go_num, D5.out, K5.out, fun t ht => by
                        by_cases e : t = i
                        · subst e; rw [upd_same, ST2.out, HLI.out]; omega
                        · exact L5.out t (by omega)⟩
                      case measure => omega
                · obtain rfl : i = 3 := by omega
                  have BD := Lib.hid HD.out.z.bel
                  have hcc := HD.out.c
                  rw [HCS.out] at hcc
                  have KC0 := Lib.hid hcc
                  obtain ⟨r0, r1, r2, r3, r4, zC⟩ := cased_cells hcc
                  obtain ⟨d0, hd0⟩ : ∃ d0, d0 = D 0 := ⟨_, rfl⟩
                  obtain ⟨d1, hd1⟩ : ∃ d1, d1 = D 1 := ⟨_, rfl⟩
                  obtain ⟨d2, hd2⟩ : ∃ d2, d2 = D 2 := ⟨_, rfl⟩
                  have GC := Lib.hid (show ∀ (w' : World), D3 w' 3 C AR M D s mt (KD C AR) cs E w0 → w'.cell? ⟨AR, 0, none⟩ = some (.pointer (some ⟨d0, 0, none⟩)) ∧ w'.cell? ⟨AR, 1, none⟩ = some (.pointer (some ⟨d1, 0, none⟩)) ∧ w'.cell? ⟨AR, 2, none⟩ = some (.pointer (some ⟨d2, 0, none⟩)) ∧ AR < w'.heap.size from fun w' h' => by
                    have g0 := h'.cell (show 0 < 3 by decide)
                    have g1 := h'.cell (show 1 < 3 by decide)
                    have g2 := h'.cell (show 2 < 3 by decide)
                    rw [if_pos (by decide : 0 < 3), ← hd0] at g0
                    rw [if_pos (by decide : 1 < 3), ← hd1] at g1
                    rw [if_pos (by decide : 2 < 3), ← hd2] at g2
                    exact ⟨g0, g1, g2, h'.a.lt⟩)
                  have hV := fun (i : Nat) (hi : i < 3) => (HKK.out i hi).l
                  have F0 := Lib.hid (fun (q : Int) (hh : H q < 18446744073709551616) (w' : World) (h' : D3 w' 3 C AR M D s mt (KD C AR) cs E w0) => h'.z.findN (show 0 < 3 by decide) q (H q) hh 0 0 0)
                  have F1 := Lib.hid (fun (q : Int) (hh : H q < 18446744073709551616) (w' : World) (h' : D3 w' 3 C AR M D s mt (KD C AR) cs E w0) => h'.z.findN (show 1 < 3 by decide) q (H q) hh 0 0 0)
                  have F2 := Lib.hid (fun (q : Int) (hh : H q < 18446744073709551616) (w' : World) (h' : D3 w' 3 C AR M D s mt (KD C AR) cs E w0) => h'.z.findN (show 2 < 3 by decide) q (H q) hh 0 0 0)
                  have L0 := Lib.hid (fun (w' : World) (h' : D3 w' 3 C AR M D s mt (KD C AR) cs E w0) => h'.z.len (show 0 < 3 by decide))
                  have L1 := Lib.hid (fun (w' : World) (h' : D3 w' 3 C AR M D s mt (KD C AR) cs E w0) => h'.z.len (show 1 < 3 by decide))
                  have L2 := Lib.hid (fun (w' : World) (h' : D3 w' 3 C AR M D s mt (KD C AR) cs E w0) => h'.z.len (show 2 < 3 by decide))
                  have LF := Lib.hid (fun (w' : World) (h' : D3 w' 3 C AR M D s mt (KD C AR) cs E w0) => h'.z.left (show 0 < 3 by decide))
                  simp only [(hV 0 (by decide)).p, (hV 0 (by decide)).e, ← hd0] at F0
                  simp only [(hV 1 (by decide)).p, (hV 1 (by decide)).e, ← hd1] at F1
                  simp only [(hV 2 (by decide)).p, (hV 2 (by decide)).e, ← hd2] at F2
                  simp only [(hV 0 (by decide)).len, ← hd0] at L0
                  simp only [(hV 1 (by decide)).len, ← hd1] at L1
                  simp only [(hV 2 (by decide)).len, ← hd2] at L2
                  simp only [HL.out 0 (by decide), ← hd0, show ((0 : Nat) : Int) = 0 from rfl] at LF
                  clear hV hd0 hd1 hd2 hcc
                  go_wp2
                  go_loopg [185] n1 (fun gk v185 wr => ∃ k : Nat, k + gk = n1 ∧ v185 = .int .i64 (k : Int) ∧ Below wP.heap.size wP wr)
                  case atStart => exact ⟨0, by omega, rfl, Below.refl _ _⟩
                  case round =>
                    clear r0 r1 r2 r3 r4 zC
                    obtain ⟨k, hk, rfl, hB⟩ := hrel
                    obtain ⟨ge, hge⟩ : ∃ ge, ge = gk := ⟨_, rfl⟩
                    subst hge
                    have KB := Lib.hid hB
                    have DK := Lib.hid (HD.out.later hB)
                    have B0 := Lib.hid (BD.out.trans (hB.mono BD.out.size))
                    have CK := Lib.hid (KC0.out.below hB KC0.out.lt)
                    obtain ⟨g0, g1', g2, zA⟩ := GC.out _ DK.out
                    obtain ⟨r0, r1, r2, r3, r4, zC⟩ := cased_cells CK.out
                    clear hB
                    by_cases hlt : k < n1
                    · have hltI : (k : Int) < (n1 : Int) := by omega
                      have hGk := HHb.out (k : Int)
                      have F0k := Lib.hid (F0.out (k : Int) hGk)
                      have F1k := Lib.hid (F1.out (k : Int) hGk)
                      have F2k := Lib.hid (F2.out (k : Int) hGk)
                      rw [HH.out k hlt] at F0k F1k F2k
                      have gk := HC.out wr B0.out k hlt
                      have zb := Nat.lt_of_lt_of_le hb1z B0.out.size
                      generalize G k = gx at *
                      generalize P (k : Int) = pk at *
                      generalize (V (k : Int)).key = vk0 at *
                      generalize (V (k : Int)).val = vk1 at *
                      generalize (V (k : Int)).hash = vk2 at *
                      clear F0 F1 F2 L0 L1 L2 LF hGk
                      go_wp2_with (first
                        | (go_at_call 18; (with_reducible refine (F0k.out _ DK.out).mono ?_); rintro e w5 ⟨rfl, hb5⟩; have B5 := Lib.hid (KB.out.trans (hb5.mono KB.out.size)); have D5 := Lib.hid ((HD.out.later B5.out).later ((Below.refl w5.heap.size w5).alloc (Nat.le_refl _) (.cells #[.int .u64 vk0, .int .u64 vk1, .int .u64 vk2] 53))); have g5 := GC.out _ (HD.out.later B5.out); have g51 := g5.2.1; have zA5 := g5.2.2.2; clear g5)
                        | (go_at_call 18; (with_reducible refine (F1k.out _ D5.out).mono ?_); rintro e w6 ⟨rfl, hb6⟩; have E6 := Lib.hid ((Blk.new w5 53 #[.int .u64 vk0, .int .u64 vk1, .int .u64 vk2]).below hb6 (by simp)); have e6 := cells3 E6.out; have e60 := e6.1; have e61 := e6.2.1; have e62 := e6.2.2; have ze6 := E6.out.lt; have B6 := Lib.hid ((B5.out.alloc B5.out.size (.cells #[.int .u64 vk0, .int .u64 vk1, .int .u64 vk2] 53)).trans (hb6.mono (by have := B5.out.size; simp; omega))); have D6 := Lib.hid ((HD.out.later B6.out).later ((Below.refl w6.heap.size w6).alloc (Nat.le_refl _) (.cells #[.int .u64 vk0, .int .u64 vk1, .int .u64 vk2] 53))); have g6 := GC.out _ (HD.out.later B6.out); have g61 := g6.2.2.1; have zA6 := g6.2.2.2; clear g6 e6)
                        | (go_at_call 18; (with_reducible refine (F2k.out _ D6.out).mono ?_); rintro e w7 ⟨rfl, hb7⟩; have E7 := Lib.hid ((Blk.new w6 53 #[.int .u64 vk0, .int .u64 vk1, .int .u64 vk2]).below hb7 (by simp)); have e7 := cells3 E7.out; have e70 := e7.1; have e71 := e7.2.1; have e72 := e7.2.2; have ze7 := E7.out.lt; have F7 := Lib.hid ((E6.out.alloc (.cells #[.int .u64 vk0, .int .u64 vk1, .int .u64 vk2] 53)).below hb7 (by have := E6.out.lt; simp; omega)); have f7 := cells3 F7.out; have f70 := f7.1; have f71 := f7.2.1; have f72 := f7.2.2; have zf7 := F7.out.lt; have B7 := Lib.hid ((B6.out.alloc B6.out.size (.cells #[.int .u64 vk0, .int .u64 vk1, .int .u64 vk2] 53)).trans (hb7.mono (by have := B6.out.size; simp; omega))); clear f7 e7 e60 e61 e62))
                      go_roundg (ge - 1)
                      case rel => exact ⟨k + 1, by omega, by go_num, B7.out.alloc B7.out.size _⟩
                      case measure => omega
                    · obtain rfl : k = n1 := by omega
                      clear F0 F1 F2 hlt r0 r1 r2 r3 r4 zC
                      go_upto_region 58 with (fail)
                      refine wp_region_seq (fun _ => False) #[⟨0, 0, 883423532389192164791648750371459257913741948437809479060803100646309888, 64, 0⟩, ⟨1, 1, 1766847064778384329583297500742918515827483896875618958121606201292619776, 883423532389192164791648750371459257913741948437809479060803100646309888, 1⟩, ⟨2, 3, 3533694129556768659166595001485837031654967793751237916243212402585239552, 1766847064778384329583297500742918515827483896875618958121606201292619776, 2⟩, ⟨0, 0, 7067388259113537318333190002971674063309935587502475832486424805170479104, 64, 0⟩, ⟨8, 8, 14134776518227074636666380005943348126619871175004951664972849610340958208, 7067388259113537318333190002971674063309935587502475832486424805170479104, 1⟩, ⟨20, 31, 28269553036454149273332760011886696253239742350009903329945699220681916416, 14134776518227074636666380005943348126619871175004951664972849610340958208, 2⟩, ⟨36, 63, 56539106072908298546665520023773392506479484700019806659891398441363832832, 31803247166010917932499355013372533284894710143761141246188911623267155968, 0⟩, ⟨96, 127, 113078212145816597093331040047546785012958969400039613319782796882727665664, 56539106072908298546665520023773392506479484700019806659891398441363832832, 0⟩, ⟨128, 255, 226156424291633194186662080095093570025917938800079226639565593765455331328, 113078212145816597093331040047546785012958969400039613319782796882727665728, 0⟩, ⟨384, 511, 452312848583266388373324160190187140051835877600158453279131187530910662656, 339234636437449791279993120142640355038876908200118839959348390648182996992, 1⟩, ⟨640, 1023, 904625697166532776746648320380374280103671755200316906558262375061821325312, 565391060729082985466655200237733925064794847000198066598913984413638328320, 2⟩, ⟨128, 255, 1809251394333065553493296640760748560207343510400633813116524750123642650624, 113078212145816597093331040047546785012958969400039613319782796882727665728, 0⟩, ⟨2176, 2303, 3618502788666131106986593281521497120414687020801267626233049500247285301248, 1922329606478882150586627680808295345220302479800673426436307547006370316288, 1⟩, ⟨5248, 8191, 7237005577332262213973186563042994240829374041602535252466099000494570602496, 3731581000811947704079924321569043905427645990201307239552832297130012966912, 2⟩, ⟨9344, 16383, 14474011154664524427946373126085988481658748083205070504932198000989141204992, 8254709486644611587813165923470915305946004766202891772344144172439119593472, 0⟩, ⟨16512, 32767, 28948022309329048855892746252171976963317496166410141009864396001978282409984, 14587089366810341025039704166133535266671707052605110118251980797871868870656, 0⟩, ⟨40960, 65535, 57896044618658097711785492504343953926634992332820282019728792003956564819968, 28948022309329048855892746252171976963317496166410141009864396001978282409984, 0⟩, ⟨65536, 131071, 115792089237316195423570985008687907853269984665640564039457584007913129639936, 57896044618658097711785492504343953926634992332820282019728792003956564820032, 0⟩, ⟨196608, 262143, 231584178474632390847141970017375815706539969331281128078915168015826259279872, 173688133855974293135356477513031861779904976998460846059186376011869694459904, 1⟩, ⟨327680, 524287, 463168356949264781694283940034751631413079938662562256157830336031652518559744, 289480223093290488558927462521719769633174961664101410098643960019782824099840, 3⟩, ⟨589824, 1048575, 926336713898529563388567880069503262826159877325124512315660672063305037119488, 521064401567922879406069432539095585339714930995382538177559128035609083379712, 0⟩, ⟨1114112, 2097151, 1852673427797059126777135760139006525652319754650249024631321344126610074238976, 984232758517187661100353372573847216752794869657944794335389464067261601939456, 0⟩, ⟨4194303, 4194303, 16, 1852673427797059126777135760139006525652319754650249024631321344126610074238976, 0⟩] 266770 [(0, 0), (1, 1), (3, 0), (4, 1), (2, 2), (5, 2), (6, 0), (7, 0), (8, 0), (9, 1), (11, 0), (12, 1), (10, 2), (13, 2), (14, 0), (15, 0), (16, 0), (17, 0), (18, 1), (19, 3), (20, 0), (21, 0), (22, 0)] (by kernel_rfl) (by kernel_rfl) (by kernel_rfl) (by kernel_rfl) (by kernel_rfl) (by kernel_rfl) (fun c a d v w h => by cases d <;> exact h) ?_
                      refine seq_calcA (h := ?_)
                      try simp only [Act.put, List.setIfInBounds_toArray, List.set_cons_zero, List.set_cons_succ]
                      refine seq_load1A (hu := Tryd.underlying45) (h := ?_)
                      try simp only [Act.put, List.setIfInBounds_toArray, List.set_cons_zero, List.set_cons_succ]
                      refine seq_calcA (h := ?_)
                      try simp only [Act.put, List.setIfInBounds_toArray, List.set_cons_zero, List.set_cons_succ]
                      refine seq_load1A (hu := Tryd.underlying45) (h := ?_)
                      try simp only [Act.put, List.setIfInBounds_toArray, List.set_cons_zero, List.set_cons_succ]
                      refine seq_doA (h := fun K hK => ?_); go_wp2_with (first | (go_at_call 19; (with_reducible refine (L0.out _ (DK.out.later (Below.refl _ _).drew)).mono ?_); rintro e w5 ⟨rfl, hb5⟩; have D5 := Lib.hid ((DK.out.later (Below.refl _ _).drew).later hb5); have g5 := GC.out _ D5.out; have g50 := g5.1; have g51 := g5.2.1; have g52 := g5.2.2.1; have zA5 := g5.2.2.2; clear g5) | (go_at_call 19; (with_reducible refine (L1.out _ D5.out).mono ?_); rintro e w6 ⟨rfl, hb6⟩; have D6 := Lib.hid (D5.out.later hb6); have g5 := GC.out _ D6.out; have g60 := g5.1; have g61 := g5.2.1; have g62 := g5.2.2.1; have zA6 := g5.2.2.2; clear g5) | (go_at_call 19; (with_reducible refine (L0.out _ D6.out).mono ?_); rintro e w7 ⟨rfl, hb7⟩; have D7 := Lib.hid (D6.out.later hb7); have g5 := GC.out _ D7.out; have g70 := g5.1; have g71 := g5.2.1; have g72 := g5.2.2.1; have zA7 := g5.2.2.2; clear g5) | (go_at_call 19; (with_reducible refine (L2.out _ D7.out).mono ?_); rintro e w8 ⟨rfl, hb8⟩; have D8 := Lib.hid (D7.out.later hb8); have g5 := GC.out _ D8.out; have g80 := g5.1; have g81 := g5.2.1; have g82 := g5.2.2.1; have zA8 := g5.2.2.2; clear g5) | (go_at_call 20; (with_reducible refine (LF.out _ D8.out).mono ?_); rintro e w9 ⟨rfl, hb9⟩; have D9 := Lib.hid (D8.out.later hb9))); refine hkA hK (h := ?_); clear hK K
                      try simp only [Act.put, List.setIfInBounds_toArray, List.set_cons_zero, List.set_cons_succ]
                      refine seq_doA (h := fun K hK => ?_); go_wp2_with (first | (go_at_call 19; (with_reducible refine (L0.out _ (DK.out.later (Below.refl _ _).drew)).mono ?_); rintro e w5 ⟨rfl, hb5⟩; have D5 := Lib.hid ((DK.out.later (Below.refl _ _).drew).later hb5); have g5 := GC.out _ D5.out; have g50 := g5.1; have g51 := g5.2.1; have g52 := g5.2.2.1; have zA5 := g5.2.2.2; clear g5) | (go_at_call 19; (with_reducible refine (L1.out _ D5.out).mono ?_); rintro e w6 ⟨rfl, hb6⟩; have D6 := Lib.hid (D5.out.later hb6); have g5 := GC.out _ D6.out; have g60 := g5.1; have g61 := g5.2.1; have g62 := g5.2.2.1; have zA6 := g5.2.2.2; clear g5) | (go_at_call 19; (with_reducible refine (L0.out _ D6.out).mono ?_); rintro e w7 ⟨rfl, hb7⟩; have D7 := Lib.hid (D6.out.later hb7); have g5 := GC.out _ D7.out; have g70 := g5.1; have g71 := g5.2.1; have g72 := g5.2.2.1; have zA7 := g5.2.2.2; clear g5) | (go_at_call 19; (with_reducible refine (L2.out _ D7.out).mono ?_); rintro e w8 ⟨rfl, hb8⟩; have D8 := Lib.hid (D7.out.later hb8); have g5 := GC.out _ D8.out; have g80 := g5.1; have g81 := g5.2.1; have g82 := g5.2.2.1; have zA8 := g5.2.2.2; clear g5) | (go_at_call 20; (with_reducible refine (LF.out _ D8.out).mono ?_); rintro e w9 ⟨rfl, hb9⟩; have D9 := Lib.hid (D8.out.later hb9))); refine hkA hK (h := ?_); clear hK K
                      try simp only [Act.put, List.setIfInBounds_toArray, List.set_cons_zero, List.set_cons_succ]
                      refine seq_calcA (h := ?_)
                      try simp only [Act.put, List.setIfInBounds_toArray, List.set_cons_zero, List.set_cons_succ]
                      refine seq_calcA (h := ?_)
                      try simp only [Act.put, List.setIfInBounds_toArray, List.set_cons_zero, List.set_cons_succ]
                      first
                        | (refine seq_skipA (h := ?_))
                        | (refine seq_calcA (h := ?_))
                      try simp only [Act.put, List.setIfInBounds_toArray, List.set_cons_zero, List.set_cons_succ]
                      first
                        | (refine seq_skipA (h := ?_))
                        | (refine seq_load1A (hu := Tryd.underlying45) (h := ?_))
                      try simp only [Act.put, List.setIfInBounds_toArray, List.set_cons_zero, List.set_cons_succ]
                      first
                        | (refine seq_skipA (h := ?_))
                        | (refine seq_calcA (h := ?_))
                      try simp only [Act.put, List.setIfInBounds_toArray, List.set_cons_zero, List.set_cons_succ]
                      first
                        | (refine seq_skipA (h := ?_))
                        | (refine seq_load1A (hu := Tryd.underlying45) (h := ?_))
                      try simp only [Act.put, List.setIfInBounds_toArray, List.set_cons_zero, List.set_cons_succ]
                      first
                        | (refine seq_skipA (h := ?_))
                        | (refine seq_doA (h := fun K hK => ?_); go_wp2_with (first | (go_at_call 19; (with_reducible refine (L0.out _ (DK.out.later (Below.refl _ _).drew)).mono ?_); rintro e w5 ⟨rfl, hb5⟩; have D5 := Lib.hid ((DK.out.later (Below.refl _ _).drew).later hb5); have g5 := GC.out _ D5.out; have g50 := g5.1; have g51 := g5.2.1; have g52 := g5.2.2.1; have zA5 := g5.2.2.2; clear g5) | (go_at_call 19; (with_reducible refine (L1.out _ D5.out).mono ?_); rintro e w6 ⟨rfl, hb6⟩; have D6 := Lib.hid (D5.out.later hb6); have g5 := GC.out _ D6.out; have g60 := g5.1; have g61 := g5.2.1; have g62 := g5.2.2.1; have zA6 := g5.2.2.2; clear g5) | (go_at_call 19; (with_reducible refine (L0.out _ D6.out).mono ?_); rintro e w7 ⟨rfl, hb7⟩; have D7 := Lib.hid (D6.out.later hb7); have g5 := GC.out _ D7.out; have g70 := g5.1; have g71 := g5.2.1; have g72 := g5.2.2.1; have zA7 := g5.2.2.2; clear g5) | (go_at_call 19; (with_reducible refine (L2.out _ D7.out).mono ?_); rintro e w8 ⟨rfl, hb8⟩; have D8 := Lib.hid (D7.out.later hb8); have g5 := GC.out _ D8.out; have g80 := g5.1; have g81 := g5.2.1; have g82 := g5.2.2.1; have zA8 := g5.2.2.2; clear g5) | (go_at_call 20; (with_reducible refine (LF.out _ D8.out).mono ?_); rintro e w9 ⟨rfl, hb9⟩; have D9 := Lib.hid (D8.out.later hb9))); refine hkA hK (h := ?_); clear hK K)
                      try simp only [Act.put, List.setIfInBounds_toArray, List.set_cons_zero, List.set_cons_succ]
                      first
                        | (refine seq_skipA (h := ?_))
                        | (refine seq_doA (h := fun K hK => ?_); go_wp2_with (first | (go_at_call 19; (with_reducible refine (L0.out _ (DK.out.later (Below.refl _ _).drew)).mono ?_); rintro e w5 ⟨rfl, hb5⟩; have D5 := Lib.hid ((DK.out.later (Below.refl _ _).drew).later hb5); have g5 := GC.out _ D5.out; have g50 := g5.1; have g51 := g5.2.1; have g52 := g5.2.2.1; have zA5 := g5.2.2.2; clear g5) | (go_at_call 19; (with_reducible refine (L1.out _ D5.out).mono ?_); rintro e w6 ⟨rfl, hb6⟩; have D6 := Lib.hid (D5.out.later hb6); have g5 := GC.out _ D6.out; have g60 := g5.1; have g61 := g5.2.1; have g62 := g5.2.2.1; have zA6 := g5.2.2.2; clear g5) | (go_at_call 19; (with_reducible refine (L0.out _ D6.out).mono ?_); rintro e w7 ⟨rfl, hb7⟩; have D7 := Lib.hid (D6.out.later hb7); have g5 := GC.out _ D7.out; have g70 := g5.1; have g71 := g5.2.1; have g72 := g5.2.2.1; have zA7 := g5.2.2.2; clear g5) | (go_at_call 19; (with_reducible refine (L2.out _ D7.out).mono ?_); rintro e w8 ⟨rfl, hb8⟩; have D8 := Lib.hid (D7.out.later hb8); have g5 := GC.out _ D8.out; have g80 := g5.1; have g81 := g5.2.1; have g82 := g5.2.2.1; have zA8 := g5.2.2.2; clear g5) | (go_at_call 20; (with_reducible refine (LF.out _ D8.out).mono ?_); rintro e w9 ⟨rfl, hb9⟩; have D9 := Lib.hid (D8.out.later hb9))); refine hkA hK (h := ?_); clear hK K)
                      try simp only [Act.put, List.setIfInBounds_toArray, List.set_cons_zero, List.set_cons_succ]
                      first
                        | (refine seq_skipA (h := ?_))
                        | (refine seq_calcA (h := ?_))
                      try simp only [Act.put, List.setIfInBounds_toArray, List.set_cons_zero, List.set_cons_succ]
                      refine seq_calcA (h := ?_)
                      try simp only [Act.put, List.setIfInBounds_toArray, List.set_cons_zero, List.set_cons_succ]
                      refine seq_calcA (h := ?_)
                      try simp only [Act.put, List.setIfInBounds_toArray, List.set_cons_zero, List.set_cons_succ]
                      first
                        | (refine seq_skipA (h := ?_))
                        | (refine seq_calcA (h := ?_))
                      try simp only [Act.put, List.setIfInBounds_toArray, List.set_cons_zero, List.set_cons_succ]
                      first
                        | (refine seq_skipA (h := ?_))
                        | (refine seq_load1A (hu := Tryd.underlying45) (h := ?_))
                      try simp only [Act.put, List.setIfInBounds_toArray, List.set_cons_zero, List.set_cons_succ]
                      first
                        | (refine seq_skipA (h := ?_))
                        | (refine seq_lastA (h := fun K hK => ?_); go_wp2_with (first | (go_at_call 19; (with_reducible refine (L0.out _ (DK.out.later (Below.refl _ _).drew)).mono ?_); rintro e w5 ⟨rfl, hb5⟩; have D5 := Lib.hid ((DK.out.later (Below.refl _ _).drew).later hb5); have g5 := GC.out _ D5.out; have g50 := g5.1; have g51 := g5.2.1; have g52 := g5.2.2.1; have zA5 := g5.2.2.2; clear g5) | (go_at_call 19; (with_reducible refine (L1.out _ D5.out).mono ?_); rintro e w6 ⟨rfl, hb6⟩; have D6 := Lib.hid (D5.out.later hb6); have g5 := GC.out _ D6.out; have g60 := g5.1; have g61 := g5.2.1; have g62 := g5.2.2.1; have zA6 := g5.2.2.2; clear g5) | (go_at_call 19; (with_reducible refine (L0.out _ D6.out).mono ?_); rintro e w7 ⟨rfl, hb7⟩; have D7 := Lib.hid (D6.out.later hb7); have g5 := GC.out _ D7.out; have g70 := g5.1; have g71 := g5.2.1; have g72 := g5.2.2.1; have zA7 := g5.2.2.2; clear g5) | (go_at_call 19; (with_reducible refine (L2.out _ D7.out).mono ?_); rintro e w8 ⟨rfl, hb8⟩; have D8 := Lib.hid (D7.out.later hb8); have g5 := GC.out _ D8.out; have g80 := g5.1; have g81 := g5.2.1; have g82 := g5.2.2.1; have zA8 := g5.2.2.2; clear g5) | (go_at_call 20; (with_reducible refine (LF.out _ D8.out).mono ?_); rintro e w9 ⟨rfl, hb9⟩; have D9 := Lib.hid (D8.out.later hb9))); refine hK.out _ _ ?_; clear hK K)
                      try simp only [Act.put, List.setIfInBounds_toArray, List.set_cons_zero, List.set_cons_succ]
                      first
                        | (refine seq_skipA (h := ?_))
                        | (refine seq_calcA (h := ?_))
                      try simp only [Act.put, List.setIfInBounds_toArray, List.set_cons_zero, List.set_cons_succ]
                      refine seq_calcA (h := ?_)
                      try simp only [Act.put, List.setIfInBounds_toArray, List.set_cons_zero, List.set_cons_succ]
                      refine seq_calcA (h := ?_)
                      try simp only [Act.put, List.setIfInBounds_toArray, List.set_cons_zero, List.set_cons_succ]
                      refine seq_nil ?_
                      go_wp2
                      go_ret
                      exact ⟨rfl, D9.out.z.bel⟩
end Go.Proofs.YtcbpiecloikkiaaDoor
