/- Texts joined: DualFunction. No condition but those that stand within. -/
import Derived.Deep.LoopGhost
import Derived.Deep.DeepCutAuto
import Derived.Deep.CutBlock
import Derived.Test.YtcnkgiapidlbkaaGreatDoorPkSwar
import Derived.Test.YtcnkgiapidlbkaaGreatDoorPkMeter
import Derived.Test.YtcnkgiapidlbkaaGreatDoorPkErrs
import Derived.Test.YtcnkgiapidlbkaaGreatDoorPkGroup
import Derived.Test.YtcnkgiapidlbkaaGreatDoorPkTab
import Derived.Test.YtcnkgiapidlbkaaGreatDoorPkTab2
import Derived.Test.YtcnkgiapidlbkaaGreatDoorPkTab3
import Derived.Test.YtcnkgiapidlbkaaGreatDoorPkTab4
import Derived.Test.YtcnkgiapidlbkaaGreatDoorPkTake
import Derived.Test.YtcnkgiapidlbkaaGreatDoorPkTabM
import Derived.Test.YtcnkgiapidlbkaaGreatDoorPkBuild
import Derived.Test.YtcnkgiapidlbkaaGreatDoorPkEvac
import Derived.Test.YtcnkgiapidlbkaaGreatDoorPkSound
import Derived.Test.YtcnkgiapidlbkaaGreatDoorPkRef09
import Derived.Test.YtcnkgiapidlbkaaGreatDoorPkEvac2
import Derived.Test.YtcnkgiapidlbkaaGreatDoorPkSound2
import Derived.Test.YtcnkgiapidlbkaaGreatDoorPkActs
import Derived.Test.YtcnkgiapidlbkaaGreatDoorPkDual1
import Derived.Test.YtcnkgiapidlbkaaGreatDoorPkDual2
import Derived.Test.YtcnkgiapidlbkaaGreatDoorPkDual3
import Derived.Test.YtcnkgiapidlbkaaGreatDoorPkDual4
set_option linter.unusedVariables false
set_option linter.unusedSimpArgs false
namespace Go.Proofs.YtcnkgiapidlbkaaGreatDoor
open Go.RowKit Go.Proofs
attribute [local go_sem] neq_nilG eql_nilG
def KF (C VB VU : Nat) (b : Nat) : Prop := b = C ∨ b = VB ∨ b = VU
def KP (K : Nat → Prop) (P : Nat) (b : Nat) : Prop := K b ∨ b = P
structure DFs (w : World) (C D M VB VU n : Nat) (s : DuS) (mt : MeterS) (K : Nat → Prop) (cs : Array Value) (th : Nat → Bool) (va : Nat → Int) (E : Nat → Addr) (w0 : World) : Prop where
  z : D1s w D s false M mt K E w0
  c : Blk w C 25 cs
  v : TV w VB VU n th va
  k : K C ∧ K VB ∧ K VU
  v0 : w0.heap.size ≤ VB ∧ w0.heap.size ≤ VU ∧ C ≠ VB ∧ C ≠ VU
section
variable {w w' w0 : World} {C D M VB VU n : Nat} {s : DuS} {tk : Bool} {mt : MeterS} {K : Nat → Prop} {cs : Array Value} {th : Nat → Bool} {va : Nat → Int} {E : Nat → Addr}
theorem D1s.keep {K' : Nat → Prop} (h : D1s w D s tk M mt K E w0) (hb : Below w.heap.size w w') (hK : ∀ b, K' b → K b ∨ (w.heap.size ≤ b ∧ b < w'.heap.size)) : D1s w' D s tk M mt K' E w0 := by
  obtain ⟨a, h0, h1⟩ := h
  have h2 := h1.later hb
  refine ⟨a, h0, ⟨h2.v, h2.m, h2.ml, ⟨h2.mz.1, fun e => ?_⟩, fun i hi b hx => ⟨(h2.am i hi b hx).1, fun e => ?_⟩, h2.ap, fun b e => ?_, h2.hb⟩⟩
  · rcases hK _ e with e | e
    · exact h1.mz.2 e
    · have := h1.m.lt; omega
  · rcases hK _ e with e | e
    · exact (h1.am i hi b hx).2 e
    · have := ((h1.v i hi).xlt hx).1; omega
  · rcases hK _ e with e | e
    · exact h2.kz b e
    · exact e.2
theorem D1s.m (h : D1s w D s tk M mt K E w0) : Blk w M 36 mt.cells := by obtain ⟨a, -, h1⟩ := h; exact h1.m
theorem D1s.ok (h : D1s w D s tk M mt K E w0) : DuOK s := by obtain ⟨a, -, h1⟩ := h.v; exact h1.ok
theorem DFs.later (h : DFs w C D M VB VU n s mt K cs th va E w0) (hb : Below w.heap.size w w') : DFs w' C D M VB VU n s mt K cs th va E w0 := ⟨h.z.later hb, h.c.below hb h.c.lt, h.v.later hb, h.k, h.v0⟩
theorem DFs.drew (h : DFs w C D M VB VU n s mt K cs th va E w0) : DFs w.drew C D M VB VU n s mt K cs th va E w0 := h.later (Below.refl _ _).drew
theorem DFs.turn {s' : DuS} {mt' : MeterS} (h : DFs w C D M VB VU n s mt K cs th va E w0) (hz : D1s w' D s' false M mt' K E w0) (hc : Chg (KC K w0.heap.size) w w') : DFs w' C D M VB VU n s' mt' K cs th va E w0 :=
  ⟨hz, h.c.chg hc (fun e => e.2 h.k.1), h.v.chg hc (fun e => e.2 h.k.2.1) (fun e => e.2 h.k.2.2), h.k, h.v0⟩
theorem DFs.keep {K' : Nat → Prop} (h : DFs w C D M VB VU n s mt K cs th va E w0) (hb : Below w.heap.size w w') (hK : ∀ b, K' b → K b ∨ (w.heap.size ≤ b ∧ b < w'.heap.size)) (hk : K' C ∧ K' VB ∧ K' VU) : DFs w' C D M VB VU n s mt K' cs th va E w0 := ⟨h.z.keep hb hK, h.c.below hb h.c.lt, h.v.later hb, hk, h.v0⟩
theorem DFs.keepP (h : DFs w C D M VB VU n s mt K cs th va E w0) (o : Obj) : DFs (w.alloc o) C D M VB VU n s mt (KP K w.heap.size) cs th va E w0 :=
  h.keep ((Below.refl _ _).alloc (Nat.le_refl _) o) (fun b e => by
    rcases e with e | e
    · exact .inl e
    · exact .inr ⟨by omega, by rw [e]; simp⟩) ⟨.inl h.k.1, .inl h.k.2.1, .inl h.k.2.2⟩
theorem DFs.setP {P : Nat} (h : DFs w C D M VB VU n s mt (KP K P) cs th va E w0) (hk : K C ∧ K VB ∧ K VU) (hP : P ≠ C ∧ P ≠ VB ∧ P ≠ VU ∧ w0.heap.size ≤ P) (hc : Chg (fun b => b = P) w w') : DFs w' C D M VB VU n s mt K cs th va E w0 := by
  have h1 := h.z.kept hc (fun b e => ⟨.inr e, by rw [e]; exact hP.2.2.2⟩)
  exact ⟨h1.keep (Below.refl _ _) (fun b e => .inl (.inl e)), h.c.chg hc (fun e => hP.1 e.symm), h.v.chg hc (fun e => hP.2.1 e.symm) (fun e => hP.2.2.1 e.symm), hk, h.v0⟩
theorem DFs.setB (h : DFs w C D M VB VU n s mt K cs th va E w0) {x : Nat} (hx : x < n) (t : Bool) : DFs (w.setCell ⟨VB, x, none⟩ (.bool t)) C D M VB VU n s mt K cs (upd th x t) va E w0 :=
  ⟨h.z.kept ((Chg.refl (fun b => b = VB) w).set1 x _) (fun b e => by rw [e]; exact ⟨h.k.2.1, h.v0.1⟩), h.c.other h.v0.2.2.1 _ _, h.v.setB hx t, h.k, h.v0⟩
theorem DFs.setU (h : DFs w C D M VB VU n s mt K cs th va E w0) {x : Nat} (hx : x < n) (v : Int) : DFs (w.setCell ⟨VU, x, none⟩ (.int .u64 v)) C D M VB VU n s mt K cs th (upd va x v) E w0 :=
  ⟨h.z.kept ((Chg.refl (fun b => b = VU) w).set1 x _) (fun b e => by rw [e]; exact ⟨h.k.2.2, h.v0.2.1⟩), h.c.other h.v0.2.2.2 _ _, h.v.setU hx v, h.k, h.v0⟩
theorem D1s.take (h : D1s w D s false M mt K E w0) (hn : s.left = 0) : Calls Tryz.prog 23 #[.pointer (some ⟨D, 0, none⟩)] w fun e w' =>
    ∃ (a : Nat → Nat) (v : Value), a 0 = D ∧ e = .returned (.tuple #[v, .nilIface]) ∧ w'.ownsRow w.heap.size 74 1 v s.k ((List.range s.k).map (fun i => Value.pointer (some ⟨a (8 + 3 * i), 0, none⟩))) ∧ (∀ i, i < s.k → TN w' (a (8 + 3 * i)) (a (9 + 3 * i)) (s.U i) E w0) ∧ DuV w' a s true E w0 := by
  obtain ⟨a, h0, hv⟩ := h.v
  rcases hv.m with ⟨b, hA⟩ | ⟨b, f, c, hB⟩
  · have := hA.hb
    unfold DuS.left at hn
    omega
  · rw [← h0]
    refine (hB.take hv.ok hn).mono ?_
    rintro e w' ⟨v, rfl, h1, h2, h3⟩
    exact ⟨a, v, rfl, rfl, h1, h2.u, hv.ok, .inr ⟨b, f, c, h2⟩⟩
end
theorem lvSum_bd {U : Nat → TabS} {k : Nat} (h : ∀ q, q < k → 0 ≤ (U q).lv ∧ (U q).lv ≤ 512) : ∀ i, i ≤ k → 0 ≤ lvSum U i ∧ lvSum U i ≤ 512 * (i : Int)
  | 0, _ => ⟨Int.le_refl _, by simp [lvSum]⟩
  | i + 1, hi => by
    have h1 := lvSum_bd h i (by omega)
    have h2 := h i (by omega)
    have h3 : lvSum U (i + 1) = lvSum U i + (U i).lv := by simp [lvSum, List.range_succ]
    omega
theorem lvSum_succ (U : Nat → TabS) (i : Nat) : lvSum U (i + 1) = lvSum U i + (U i).lv := by simp [lvSum, List.range_succ]
theorem stpM_a2 {s : DuS} {mt : MeterS} {n : Nat} (h : mt.a2 = (n : Int)) (hn : n < 100000) : (0 < s.left → (s.stpM mt).a2 = ((n + 1 : Nat) : Int)) ∧ (s.left = 0 → (s.stpM mt).a2 = (n : Int)) := by
  have h0 : ∀ z : Nat, z < 200000 → sumZ (z : Int) 0 = (z : Int) := fun z hz => by rw [sumZ_add (by omega) (by omega) (by omega)]; omega
  have h1 : sumZ mt.a2 1 = ((n + 1 : Nat) : Int) := by rw [h, sumZ_add (by omega) (by omega) (by omega)]; omega
  have hc : sumZ ((n + 1 : Nat) : Int) 0 = ((n + 1 : Nat) : Int) := h0 (n + 1) (by omega)
  have h2 : (mt.add 0 0 1).a2 = ((n + 1 : Nat) : Int) := h1
  unfold DuS.stpM DuS.left
  by_cases hb : s.bare = 0
  · rw [if_pos hb]
    by_cases hx : s.nx < s.T.n
    · rw [if_pos hx]
      exact ⟨fun _ => (addN_a2 (by rw [h2, hc]) 0 1 _).trans h2, fun e => by omega⟩
    · rw [if_neg hx]; exact ⟨fun e => by omega, fun _ => h⟩
  · rw [if_neg hb]
    refine ⟨fun _ => ?_, fun e => by omega⟩
    show sumZ (sumZ mt.a2 0) 1 = _
    rw [h, h0 n (by omega), ← h]; exact h1
theorem probe_a2 {mt : MeterS} {n : Nat} (h : mt.a2 = (n : Int)) (hn : n < 100000) (p : Nat) : (addN mt 1 0 0 p).a2 = (n : Int) :=
  (addN_a2 (by rw [h, sumZ_add (by omega) (by omega) (by omega)]; omega) 1 0 p).trans h
theorem put_left (s : DuS) (q v : Int) (h : Nat) (more : Bool) : (s.put q v h more).left = s.left := by
  obtain ⟨-, e1⟩ := put_kb s q v h more
  obtain ⟨-, e2, e3⟩ := put_gn s q v h more
  unfold DuS.left
  rw [e1, e2, e3]
theorem del_left (s : DuS) (q : Int) (h : Nat) : (s.del q h).left = s.left := by
  obtain ⟨-, e1⟩ := del_kb s q h
  obtain ⟨-, e2, e3⟩ := del_gn s q h
  unfold DuS.left
  rw [e1, e2, e3]
theorem df_new {w w1 w0 : World} {O Q bcap : Nat} {s0 : DuS} {k : Nat} {K : Nat → Prop} {E : Nat → Addr} {a : Nat → Nat} (hA : DuA w a s0 bcap false E w0) (hs : s0.k = k ∧ DuOK s0) (h1 : a 1 = O) (h2 : a 2 = Q) (hge : ∀ x, Used k false x → x ≠ 1 → x ≠ 2 → w1.heap.size ≤ a x) (hK : ∀ b, K b → b < w1.heap.size) (hKO : ∀ b, K b → b ≠ O ∧ b ≠ Q) (hz : w1.heap.size ≤ w.heap.size) (h0 : w0.heap.size ≤ w.heap.size) :
    D1s (w.alloc (.cells #[.int .i64 0, .int .i64 0, .int .i64 0, .int .i64 0, .int .i64 0, .int .i64 0, .bool false, .int .i64 0] 36)) (a 0) s0 false w.heap.size MeterS.zero K E w0 := by
  have hb0 : ¬ s0.bare = 0 := by have := hA.hb; omega
  have hv : DuV w a s0 false E w0 := ⟨hs.2, .inl ⟨bcap, hA⟩⟩
  refine D1s.mk (hv.later ((Below.refl _ _).alloc (Nat.le_refl _) _)) (by simp only [MeterS.zero, MeterS.cells]; exact Blk.new _ _ _) rfl ⟨h0, fun e => by have := hK _ e; omega⟩ (fun b hb => ⟨fun e => ?_, fun e => ?_⟩) (fun b e => by have := hK b e; simp; omega)
  · have := (hv.xlt hb).1; omega
  · obtain ⟨x, hx, rfl⟩ := hb
    rw [decide_eq_false hb0, hs.1] at hx
    by_cases e1 : x = 1
    · rw [e1, h1] at e; exact (hKO _ e).1 rfl
    · by_cases e2 : x = 2
      · rw [e2, h2] at e; exact (hKO _ e).2 rfl
      · have := hge x hx e1 e2; have := hK _ e; omega
set_option maxRecDepth 100000 in
set_option maxHeartbeats 16000000 in
theorem dualFunction_any (old new depth : Int) (v1 v2 v3 : Value) (n1 n2 n3 : Nat) (f1 f2 f3 : Nat → Nat → Int) (E : Nat → Addr) (w0 : World) (he : EC w0 E [1, 2, 4, 5, 14, 16]) (hT : Tab64 w0) (h1 : RowsAt w0 v1 n1 1 .u64 f1) (h2 : RowsAt w0 v2 n2 1 .i64 f2) (h3 : RowsAt w0 v3 n3 3 .i64 f3) :
    Calls Tryz.prog 4 #[.agg (caseD old new depth v1 v2), v3] w0 fun e w' => e = .returned (.bool true) ∧ Below w0.heap.size w0 w' := by
  have m2 := h2.2.2
  have m3 := h3.2.2
  unfold maxLen at m2 m3
  obtain ⟨iB, hiB, hzB0, hzB1, hzB2⟩ := info_parts infoB
  obtain ⟨iU, hiU, hzU0, hzU1, hzU2⟩ := info_parts infoU
  have HEC := Lib.hid he
  have HT := Lib.hid hT
  have AL := Lib.hid (fun (w' : World) (hb' : Below w0.heap.size w0 w') => alive13_any E w' (HEC.out.below hb') (hT.below hb'))
  obtain ⟨a2, cap2, rfl, hx2⟩ := h2.cellAt (by decide)
  obtain ⟨a3, cap3, rfl, hx3⟩ := h3.cellAt (by decide)
  have HX2 := Lib.hid hx2
  have HX3 := Lib.hid hx3
  clear he hT h2 h3 hx2 hx3
  by_cases hs : ¬ ShortD old new n1 n2
  · obtain ⟨a1, cap1, rfl, -⟩ := h1.cellAt (by decide)
    have LG := Lib.hid (fun (w' : World) => long13_any old new depth a1 a2 n1 n2 cap1 cap2 w')
    rw [decide_eq_false hs] at LG
    have CB := Lib.hid (Blk.new w0 25 #[.int .i64 old, .int .i64 new, .int .i64 depth, .slice a1 n1 cap1, .slice a2 n2 cap2])
    clear hs h1 HX2 HX3
    unfold caseD at LG ⊢
    go_enter Tryz.func4, Tryz.ntmps4
    go_wp2_with (first
      | (go_at_call 5; (with_reducible refine (AL.out _ ((Below.refl _ _).alloc (Nat.le_refl _) _)).mono ?_); rintro e w1 ⟨rfl, hb1⟩; have C1 := Lib.hid (CB.out.below hb1 CB.out.lt); have c1 := cased_cells C1.out; have c10 := c1.1; have c11 := c1.2.1; have c12 := c1.2.2.1; have c13 := c1.2.2.2.1; have c14 := c1.2.2.2.2.1; have zc1 := C1.out.lt; clear c1)
      | (go_at_call 6; (with_reducible refine (LG.out _).mono ?_); rintro e w2 ⟨rfl, hb2⟩; have C2 := Lib.hid (C1.out.below hb2 C1.out.lt); have c1 := cased_cells C2.out; have c20 := c1.1; have c21 := c1.2.1; have c22 := c1.2.2.1; have c23 := c1.2.2.2.1; have c24 := c1.2.2.2.2.1; have zc2 := C2.out.lt; clear c1))
    go_ret
    exact ⟨rfl, ((show Below w0.heap.size w0 _ by go_grown).trans (hb1.mono (by simp))).trans (hb2.mono (by have := hb1.size; simp at this; omega))⟩
  have hs := Classical.not_not.1 hs
  have LG0 := Lib.hid (fun (a1 : Option Addr) (cap1 : Nat) (w' : World) => long13_any old new depth a1 a2 n1 n2 cap1 cap2 w')
  rw [decide_eq_true hs] at LG0
  obtain ⟨k1, k2, k3, k5, k7, k8⟩ := hs
  obtain ⟨b1, o1, cap1, G, rfl, hb1z, hG, hc1⟩ := hashes_of h1 k1
  have LG := Lib.hid (LG0.out (some ⟨b1, o1, none⟩) cap1)
  have CB := Lib.hid (Blk.new w0 25 #[.int .i64 old, .int .i64 new, .int .i64 depth, .slice (some ⟨b1, o1, none⟩) n1 cap1, .slice a2 n2 cap2])
  obtain ⟨g, rfl⟩ := Int.eq_ofNat_of_zero_le (show 0 ≤ old by rw [rightB_iff] at k5; omega)
  have hgb := right_bd k5
  obtain ⟨z, hz⟩ : ∃ z, z = IntKind.i64.wrap (6 * new) := ⟨_, rfl⟩
  have e10 : IntKind.i64.wrap (6 * new) = z := hz.symm
  have HZ := Lib.hid (show rightB new = true → z = 6 * new ∧ 0 ≤ new from fun hr => by rw [hz, IntKind.wrap_i64]; rw [rightB_iff] at hr; omega)
  have HG := Lib.hid hG
  have HC := Lib.hid hc1
  have HK5 := Lib.hid k5
  have HK8 := Lib.hid k8
  clear LG0 h1 hG hc1 k5 k8 hz
  by_cases g1 : 120 < n3
  · have g1I : (120 : Int) < (n3 : Int) := by omega
    unfold caseD at LG ⊢
    go_enter Tryz.func4, Tryz.ntmps4
    go_wp2_with (first
      | (go_at_call 5; (with_reducible refine (AL.out _ ((Below.refl _ _).alloc (Nat.le_refl _) _)).mono ?_); rintro e w1 ⟨rfl, hb1⟩; have C1 := Lib.hid (CB.out.below hb1 CB.out.lt); have c1 := cased_cells C1.out; have c10 := c1.1; have c11 := c1.2.1; have c12 := c1.2.2.1; have c13 := c1.2.2.2.1; have c14 := c1.2.2.2.2.1; have zc1 := C1.out.lt; clear c1)
      | (go_at_call 6; (with_reducible refine (LG.out _).mono ?_); rintro e w2 ⟨rfl, hb2⟩; have C2 := Lib.hid (C1.out.below hb2 C1.out.lt); have c1 := cased_cells C2.out; have c20 := c1.1; have c21 := c1.2.1; have c22 := c1.2.2.1; have c23 := c1.2.2.2.1; have c24 := c1.2.2.2.2.1; have zc2 := C2.out.lt; clear c1))
    go_ret
    exact ⟨rfl, ((show Below w0.heap.size w0 _ by go_grown).trans (hb1.mono (by simp))).trans (hb2.mono (by have := hb1.size; simp at this; omega))⟩
  have g1I : (n3 : Int) ≤ 120 := by omega
  have e9 : IntKind.i64.wrap ((n2 : Int) + (n3 : Int)) = (n2 : Int) + (n3 : Int) := by rw [IntKind.wrap_i64]; omega
  by_cases g2 : z < (n2 : Int) + (n3 : Int)
  · skip
    unfold caseD at LG ⊢
    go_enter Tryz.func4, Tryz.ntmps4
    go_wp2_with (first
      | (go_at_call 5; (with_reducible refine (AL.out _ ((Below.refl _ _).alloc (Nat.le_refl _) _)).mono ?_); rintro e w1 ⟨rfl, hb1⟩; have C1 := Lib.hid (CB.out.below hb1 CB.out.lt); have c1 := cased_cells C1.out; have c10 := c1.1; have c11 := c1.2.1; have c12 := c1.2.2.1; have c13 := c1.2.2.2.1; have c14 := c1.2.2.2.2.1; have zc1 := C1.out.lt; clear c1)
      | (go_at_call 6; (with_reducible refine (LG.out _).mono ?_); rintro e w2 ⟨rfl, hb2⟩; have C2 := Lib.hid (C1.out.below hb2 C1.out.lt); have c1 := cased_cells C2.out; have c20 := c1.1; have c21 := c1.2.1; have c22 := c1.2.2.1; have c23 := c1.2.2.2.1; have c24 := c1.2.2.2.2.1; have zc2 := C2.out.lt; clear c1))
    go_ret
    exact ⟨rfl, ((show Below w0.heap.size w0 _ by go_grown).trans (hb1.mono (by simp))).trans (hb2.mono (by have := hb1.size; simp at this; omega))⟩
  have g2I : (n2 : Int) + (n3 : Int) ≤ z := by omega
  clear g2
  have HHb := Lib.hid (show ∀ q, hashH n1 G q < 18446744073709551616 from hashH_lt k1 HG.out)
  obtain ⟨H, hH⟩ : ∃ H, H = hashH n1 G := ⟨_, rfl⟩
  have HH := Lib.hid (show ∀ x, x < n1 → H (x : Int) = G x from fun x hx => by rw [hH]; exact hashH_in hx)
  rw [← hH] at HHb
  clear hH
  have NWT := Lib.hid (fun (w' : World) => tnew_ok g HK5.out w')
  have EN := Lib.hid (fun (q val : Int) (w' : World) (hw' : Below w0.heap.size w0 w') => entry13_any (g : Int) new depth (.slice a2 n2 cap2) b1 o1 n1 cap1 k1 (by omega) G q val w' (Nat.lt_of_lt_of_le hb1z hw'.size) (HC.out w' hw') rfl)
  have d1 : decide ((120 : Int) < (n3 : Int)) = false := by simp; omega
  have d2 : decide (z < (n2 : Int) + (n3 : Int)) = false := by simp; omega
  unfold caseD at LG EN ⊢
  go_enter Tryz.func4, Tryz.ntmps4
  go_upto_region 8 with (first
    | (go_at_call 5; (with_reducible refine (AL.out _ ((Below.refl _ _).alloc (Nat.le_refl _) _)).mono ?_); rintro e w1 ⟨rfl, hb1⟩; have C1 := Lib.hid (CB.out.below hb1 CB.out.lt); have c1 := cased_cells C1.out; have c10 := c1.1; have c11 := c1.2.1; have c12 := c1.2.2.1; have c13 := c1.2.2.2.1; have c14 := c1.2.2.2.2.1; have zc1 := C1.out.lt; clear c1)
    | (go_at_call 6; (with_reducible refine (LG.out _).mono ?_); rintro e w2 ⟨rfl, hb2⟩; have C2 := Lib.hid (C1.out.below hb2 C1.out.lt); have c1 := cased_cells C2.out; have c20 := c1.1; have c21 := c1.2.1; have c22 := c1.2.2.1; have c23 := c1.2.2.2.1; have c24 := c1.2.2.2.2.1; have zc2 := C2.out.lt; have B2 := Lib.hid (((show Below w0.heap.size w0 _ by go_grown).trans (hb1.mono (by simp))).trans (hb2.mono (by have := hb1.size; simp at this; omega))); clear c1)
    | (go_at_call 39; (with_reducible refine (NWT.out w2).mono ?_); rintro e w3 ⟨O, Q, rfl, hO, hQ, ht, hb3⟩; have S3 := Lib.hid (TMW.new (w0 := w0) HK5.out HEC.out HT.out B2.out ht hb3 hO hQ); have B3 := Lib.hid hb3; have C3 := Lib.hid (C2.out.below hb3 C2.out.lt); have c3 := cased_cells C3.out; have c30 := c3.1; have c31 := c3.2.1; have c32 := c3.2.2.1; have c33 := c3.2.2.2.1; have c34 := c3.2.2.2.2.1; have zc3 := C3.out.lt; clear c3 ht hb3))
  go_cut [7, 8] (fun v7 v8 wx => ∃ VB VU, v7 = .slice (some ⟨VB, 0, none⟩) n1 n1 ∧ v8 = .slice (some ⟨VU, 0, none⟩) n1 n1 ∧ TV wx VB VU n1 (fun _ => false) (fun _ => 0) ∧ w3.heap.size ≤ VB ∧ w3.heap.size ≤ VU ∧ Below w3.heap.size w3 wx)
  case first =>
    refine wp_region_T (fun _ => False) #[⟨0, 0, 36893488147419103232, 4, 0⟩, ⟨1, 1, 73786976294838206464, 36893488147419103232, 1⟩, ⟨2, 3, 147573952589676412928, 73786976294838206464, 0⟩, ⟨4, 7, 295147905179352825856, 147573952589676412928, 2⟩, ⟨0, 0, 590295810358705651712, 4, 0⟩, ⟨16, 16, 1180591620717411303424, 590295810358705651712, 1⟩, ⟨32, 48, 2361183241434822606848, 1180591620717411303424, 0⟩, ⟨64, 112, 4722366482869645213696, 2361183241434822606848, 2⟩, ⟨15, 15, 128, 295147905179352825856, 0⟩, ⟨511, 511, 256, 4722366482869645213696, 0⟩] 34 (.step 0 0 (.step 1 1 (.step 2 0 (.step 4 0 (.step 5 1 (.step 6 0 (.fork (.alt 3 (.step 8 0 (.step 7 2 (.step 9 0 Plan.done))) (.alt 7 (.step 3 2 (.step 8 0 (.step 9 0 Plan.done))) Plan.none))))))))) (by kernel_rfl) (by kernel_rfl) (by kernel_rfl) (by kernel_rfl) (by kernel_rfl) (by kernel_rfl) (fun c a d v w h => by cases d <;> exact h) ?_
    refine T_calcA (h := ?_)
    try simp only [Act.put, List.setIfInBounds_toArray, List.set_cons_zero, List.set_cons_succ]
    refine T_load1A (hu := Tryz.underlying22) (h := ?_)
    try simp only [Act.put, List.setIfInBounds_toArray, List.set_cons_zero, List.set_cons_succ]
    refine T_calcA (h := ?_)
    try simp only [Act.put, List.setIfInBounds_toArray, List.set_cons_zero, List.set_cons_succ]
    refine T_calcA (h := ?_)
    try simp only [Act.put, List.setIfInBounds_toArray, List.set_cons_zero, List.set_cons_succ]
    refine T_load1A (hu := Tryz.underlying22) (h := ?_)
    try simp only [Act.put, List.setIfInBounds_toArray, List.set_cons_zero, List.set_cons_succ]
    refine T_calcA (h := ?_)
    try simp only [Act.put, List.setIfInBounds_toArray, List.set_cons_zero, List.set_cons_succ]
    refine T_fork (T_alt (by simp only [List.getElem?_toArray, List.getElem?_cons_succ, List.getElem?_cons_zero]; rfl) (by rfl) (fun K hK => ?_) (T_alt (by simp only [List.getElem?_toArray, List.getElem?_cons_succ, List.getElem?_cons_zero]; rfl) (by rfl) (fun K hK => ?_) T_none))
    ((first | (refine wp_make_full _ _ 87 rfl w3.heap.size 4 iB (.bool false) 1 Tryz.underlying87 hiB hzB0 hzB1 .i64 .i64 _ _ n1 rfl rfl rfl rfl (by rw [hzB2]; omega) (by unfold maxLen; omega) (by first | exact Nat.le_refl _ | assumption) ?_; intro wB hoB hgB; have hVB := Lib.hid (made_one hoB); have hVBz := (made_one hoB).lt; have hBB : Below _ _ wB := (Below.refl _ _).grown hgB (Nat.le_refl _) (fun k e => by cases e); have hzB := hBB.size; (try have hVU2 := Lib.hid (hVU.out.below hBB hVU.out.lt)); (try have hzB' := Nat.le_trans hzU hzB); clear hoB hgB) | (refine wp_make_full _ _ 22 rfl w3.heap.size 39 iU (.int .u64 0) 1 Tryz.underlying22 hiU hzU0 hzU1 .i64 .i64 _ _ n1 rfl rfl rfl rfl (by rw [hzU2]; omega) (by unfold maxLen; omega) (by first | exact Nat.le_refl _ | assumption) ?_; intro wU hoU hgU; have hVU := Lib.hid (made_one hoU); have hVUz := (made_one hoU).lt; have hBU : Below _ _ wU := (Below.refl _ _).grown hgU (Nat.le_refl _) (fun k e => by cases e); have hzU := hBU.size; (try have hVB2 := Lib.hid (hVB.out.below hBU hVB.out.lt)); (try have hzU' := Nat.le_trans hzB hzU); clear hoU hgU)); refine hkI hK (h := ?_); clear hK K)
    try simp only [Act.put, List.setIfInBounds_toArray, List.set_cons_zero, List.set_cons_succ]
    refine T_calcA (h := ?_)
    try simp only [Act.put, List.setIfInBounds_toArray, List.set_cons_zero, List.set_cons_succ]
    refine T_doA (h := fun K hK => ?_); (first | (refine wp_make_full _ _ 87 rfl w3.heap.size 4 iB (.bool false) 1 Tryz.underlying87 hiB hzB0 hzB1 .i64 .i64 _ _ n1 rfl rfl rfl rfl (by rw [hzB2]; omega) (by unfold maxLen; omega) (by first | exact Nat.le_refl _ | assumption) ?_; intro wB hoB hgB; have hVB := Lib.hid (made_one hoB); have hVBz := (made_one hoB).lt; have hBB : Below _ _ wB := (Below.refl _ _).grown hgB (Nat.le_refl _) (fun k e => by cases e); have hzB := hBB.size; (try have hVU2 := Lib.hid (hVU.out.below hBB hVU.out.lt)); (try have hzB' := Nat.le_trans hzU hzB); clear hoB hgB) | (refine wp_make_full _ _ 22 rfl w3.heap.size 39 iU (.int .u64 0) 1 Tryz.underlying22 hiU hzU0 hzU1 .i64 .i64 _ _ n1 rfl rfl rfl rfl (by rw [hzU2]; omega) (by unfold maxLen; omega) (by first | exact Nat.le_refl _ | assumption) ?_; intro wU hoU hgU; have hVU := Lib.hid (made_one hoU); have hVUz := (made_one hoU).lt; have hBU : Below _ _ wU := (Below.refl _ _).grown hgU (Nat.le_refl _) (fun k e => by cases e); have hzU := hBU.size; (try have hVB2 := Lib.hid (hVB.out.below hBU hVB.out.lt)); (try have hzU' := Nat.le_trans hzB hzU); clear hoU hgU)); refine hkI hK (h := ?_); clear hK K
    try simp only [Act.put, List.setIfInBounds_toArray, List.set_cons_zero, List.set_cons_succ]
    refine T_calcA (h := ?_)
    try simp only [Act.put, List.setIfInBounds_toArray, List.set_cons_zero, List.set_cons_succ]
    refine T_done ?_
    rotate_left 1
    ((first | (refine wp_make_full _ _ 87 rfl w3.heap.size 4 iB (.bool false) 1 Tryz.underlying87 hiB hzB0 hzB1 .i64 .i64 _ _ n1 rfl rfl rfl rfl (by rw [hzB2]; omega) (by unfold maxLen; omega) (by first | exact Nat.le_refl _ | assumption) ?_; intro wB hoB hgB; have hVB := Lib.hid (made_one hoB); have hVBz := (made_one hoB).lt; have hBB : Below _ _ wB := (Below.refl _ _).grown hgB (Nat.le_refl _) (fun k e => by cases e); have hzB := hBB.size; (try have hVU2 := Lib.hid (hVU.out.below hBB hVU.out.lt)); (try have hzB' := Nat.le_trans hzU hzB); clear hoB hgB) | (refine wp_make_full _ _ 22 rfl w3.heap.size 39 iU (.int .u64 0) 1 Tryz.underlying22 hiU hzU0 hzU1 .i64 .i64 _ _ n1 rfl rfl rfl rfl (by rw [hzU2]; omega) (by unfold maxLen; omega) (by first | exact Nat.le_refl _ | assumption) ?_; intro wU hoU hgU; have hVU := Lib.hid (made_one hoU); have hVUz := (made_one hoU).lt; have hBU : Below _ _ wU := (Below.refl _ _).grown hgU (Nat.le_refl _) (fun k e => by cases e); have hzU := hBU.size; (try have hVB2 := Lib.hid (hVB.out.below hBU hVB.out.lt)); (try have hzU' := Nat.le_trans hzB hzU); clear hoU hgU)); refine hkI hK (h := ?_); clear hK K)
    try simp only [Act.put, List.setIfInBounds_toArray, List.set_cons_zero, List.set_cons_succ]
    refine T_doA (h := fun K hK => ?_); (first | (refine wp_make_full _ _ 87 rfl w3.heap.size 4 iB (.bool false) 1 Tryz.underlying87 hiB hzB0 hzB1 .i64 .i64 _ _ n1 rfl rfl rfl rfl (by rw [hzB2]; omega) (by unfold maxLen; omega) (by first | exact Nat.le_refl _ | assumption) ?_; intro wB hoB hgB; have hVB := Lib.hid (made_one hoB); have hVBz := (made_one hoB).lt; have hBB : Below _ _ wB := (Below.refl _ _).grown hgB (Nat.le_refl _) (fun k e => by cases e); have hzB := hBB.size; (try have hVU2 := Lib.hid (hVU.out.below hBB hVU.out.lt)); (try have hzB' := Nat.le_trans hzU hzB); clear hoB hgB) | (refine wp_make_full _ _ 22 rfl w3.heap.size 39 iU (.int .u64 0) 1 Tryz.underlying22 hiU hzU0 hzU1 .i64 .i64 _ _ n1 rfl rfl rfl rfl (by rw [hzU2]; omega) (by unfold maxLen; omega) (by first | exact Nat.le_refl _ | assumption) ?_; intro wU hoU hgU; have hVU := Lib.hid (made_one hoU); have hVUz := (made_one hoU).lt; have hBU : Below _ _ wU := (Below.refl _ _).grown hgU (Nat.le_refl _) (fun k e => by cases e); have hzU := hBU.size; (try have hVB2 := Lib.hid (hVB.out.below hBU hVB.out.lt)); (try have hzU' := Nat.le_trans hzB hzU); clear hoU hgU)); refine hkI hK (h := ?_); clear hK K
    try simp only [Act.put, List.setIfInBounds_toArray, List.set_cons_zero, List.set_cons_succ]
    refine T_calcA (h := ?_)
    try simp only [Act.put, List.setIfInBounds_toArray, List.set_cons_zero, List.set_cons_succ]
    refine T_calcA (h := ?_)
    try simp only [Act.put, List.setIfInBounds_toArray, List.set_cons_zero, List.set_cons_succ]
    refine T_done ?_
    rotate_left 1
    rotate_right 2
    · go_wp2
      go_meet
      exact ⟨_, _, rfl, rfl, ⟨hVB2.out, hVU.out, Nat.ne_of_lt hVBz⟩, Nat.le_refl _, hzB, (Below.undrew hBB).trans (hBU.mono hzB)⟩
    · go_wp2
      go_meet
      exact ⟨_, _, rfl, rfl, ⟨hVB.out, hVU2.out, fun e => Nat.ne_of_lt hVUz e.symm⟩, hzU, Nat.le_refl _, (Below.undrew hBU).trans (hBB.mono hzU)⟩
  case rest =>
    obtain ⟨VB, VU, rfl, rfl, hV, hVB, hVU, hbc⟩ := hcut
    as_aux_lemma =>
      obtain ⟨C, hC⟩ : ∃ C, C = w0.heap.size := ⟨_, rfl⟩
      have zC2 : C < w2.heap.size := by rw [hC]; exact C2.out.lt
      have hOz : O < w3.heap.size ∧ Q < w3.heap.size := ⟨S3.out.ltB, S3.out.ltQ⟩
      have KV := Lib.hid hV
      have S4 := Lib.hid (S3.out.later hbc)
      have B4 := Lib.hid (B3.out.trans (hbc.mono B3.out.size))
      have zB2 := B2.out.size
      have hzc := hbc.size
      have C2' := Lib.hid (show Blk w2 C 25 (caseD (g : Int) new depth (.slice (some ⟨b1, o1, none⟩) n1 cap1) (.slice a2 n2 cap2)) by rw [hC]; exact C2.out)
      obtain ⟨cs, hcs⟩ : ∃ cs, cs = caseD (g : Int) new depth (.slice (some ⟨b1, o1, none⟩) n1 cap1) (.slice a2 n2 cap2) := ⟨_, rfl⟩
      rw [← hcs] at C2'
      have HCS := Lib.hid hcs
      have c4 := cased_cells (C3.out.below hbc C3.out.lt)
      obtain ⟨r0, r1, r2, r3, r4, zC⟩ := c4
      rw [← hC] at r0 r1 r2 r3 r4 zC ⊢
      have hC0 : w0.heap.size ≤ C := by omega
      replace hC := Lib.hid hC
      clear hcs hV hbc C1 C2 C3 S3 B3 c10 c11 c12 c13 c14 zc1 c20 c21 c22 c23 c24 zc2 c30 c31 c32 c33 c34 zc3 hb1 hb2 AL LG CB NWT e9 e10 d1 d2
      go_wp2
      go_loopw [76] (fun v76 wx => ∃ (x : Nat) (T : TabS) (th : Nat → Bool) (va : Nat → Int), x ≤ n2 ∧ v76 = .int .i64 (x : Int) ∧ TN wx O Q T E w0 ∧ TV wx VB VU n1 th va ∧ TFun T H ∧ T.n = g ∧ T.lv + T.tb ≤ (x : Int) ∧ (∀ q, T.has q (H q) = true → ∃ x : Nat, x < n1 ∧ q = x) ∧ TSay T H n1 th va ∧ Below w2.heap.size w2 wx ∧ w3.heap.size ≤ wx.heap.size) (fun v76 _ => n2 - (intOf v76).toNat)
      case atStart => exact ⟨0, _, _, _, Nat.zero_le _, rfl, S4.out, KV.out, TFun.new HK5.out H, rfl, by show (0 : Int) + 0 ≤ _; omega, (fun q hq => by rw [new_no HK5.out] at hq; cases hq), TSay.new, B4.out, by omega⟩
      case round =>
        clear S4 KV B4 r0 r1 r2 r3 r4 zC
        obtain ⟨x, T, th, va, hx, rfl, hTx, hVx, hF, hTn, hlt, hon, hsay, hBx, hwz⟩ := hrel
        have KT := Lib.hid hTx
        have KV := Lib.hid hVx
        have KB := Lib.hid hBx
        have KF1 := Lib.hid hF
        have HON := Lib.hid hon
        have HSAY := Lib.hid hsay
        have HTN := Lib.hid hTn
        have HLT := Lib.hid hlt
        have B0 := Lib.hid (B2.out.trans (hBx.mono B2.out.size))
        have CX := C2'.out.below hBx zC2
        rw [HCS.out] at CX
        have KC1 := Lib.hid CX
        obtain ⟨r0, r1, r2, r3, r4, zC⟩ := cased_cells CX
        clear hTx hVx hF hTn hlt hon hsay hBx CX
        by_cases hxn : x < n2
        · have hxI : (x : Int) < (n2 : Int) := by omega
          obtain ⟨kb, ko, rfl, hkz, hkc⟩ := HX2.out (by omega)
          have kc : wr.cell? ⟨kb, ko + x, none⟩ = some (.int .i64 (f2 x 0)) := by simpa using hkc wr B0.out x hxn 0 (by decide)
          have hkz2 : kb < wr.heap.size := Nat.lt_of_lt_of_le hkz B0.out.size
          have EQ := Lib.hid (EN.out (f2 x 0) 5)
          have hxk := keyI_lt (f2 x 0) n1 k1
          generalize keyI (f2 x 0) n1 = xk at *
          generalize f2 x 0 = q at *
          have hGx := HG.out xk hxk
          have hHx := HH.out xk hxk
          obtain ⟨h, hh⟩ : ∃ h, h = G xk := ⟨_, rfl⟩
          rw [← hh] at hGx hHx EQ
          have HHx := Lib.hid hHx
          have PU := Lib.hid (fun (w' : World) (h' : TN w' O Q T E w0) => TN.put h' (xk : Int) 5 h hGx)
          have hpn := KF1.out.putN (xk : Int)
          rw [hHx] at hpn
          rw [hpn] at PU
          generalize T.putB (xk : Int) h = pb at *
          have hxkI : (xk : Int) < (n1 : Int) := by omega
          have zV := KV.out.b.lt
          have zU := KV.out.u.lt
          have hPT : (T.putT (xk : Int) 5 h).lv + (T.putT (xk : Int) 5 h).tb ≤ ((x + 1 : Nat) : Int) := by
            have := put_lt (T := T) (xk : Int) 5 h
            have := HLT.out
            split at * <;> omega
          have HPT := Lib.hid hPT
          clear hkc hh hkz hHx hpn hPT
          cases hok : T.ok (xk : Int) h with
          | true =>
            as_aux_lemma =>
              have HOK := Lib.hid hok
              rw [hok, if_pos rfl, errN_0] at PU
              have sVV : ¬ VB = VU := KV.out.ne
              have sVV' : ¬ VU = VB := fun e => sVV e.symm
              clear hok
              go_upto_region 15 with (first
                | (go_at_call 8; (with_reducible refine (EQ.out _ B0.out).mono ?_); rintro e w6 ⟨rfl, hb6⟩; have z6 := hb6.size; have T6 := Lib.hid ((KT.out.later hb6).alloc (.cells #[.int .u64 (xk : Int), .int .u64 5, .int .u64 (h : Int)] 41)); have V6 := Lib.hid ((KV.out.later hb6).later ((Below.refl _ _).alloc (Nat.le_refl _) (.cells #[.int .u64 (xk : Int), .int .u64 5, .int .u64 (h : Int)] 41))); have X6 := Lib.hid (Blk.new w6 41 #[.int .u64 (xk : Int), .int .u64 5, .int .u64 (h : Int)]); have B6 := Lib.hid ((KB.out.trans (hb6.mono KB.out.size)).alloc (by have := KB.out.size; omega) (.cells #[.int .u64 (xk : Int), .int .u64 5, .int .u64 (h : Int)] 41)))
                | (go_at_call 40; (with_reducible refine (PU.out _ T6.out).mono ?_); rintro e w7 ⟨rfl, ht7, hc7⟩; have T7 := Lib.hid ht7; have V7 := Lib.hid (V6.out.chg hc7 (by omega) (by omega)); have X7 := Lib.hid (X6.out.chg hc7 (by omega)); have B7 := Lib.hid (B6.out.trans (hc7.below (by have := KB.out.size; simp; omega) (fun b hb e => by rcases e with e | e <;> omega))); have z7 := hc7.size; have x7 := cells3 X7.out; have x70 := x7.1; have x71 := x7.2.1; have zX7 := X7.out.lt; have v7 := V7.out.cells hxk; have v70 := v7.1; have v71 := v7.2; have zV7 := V7.out.b.lt; have zU7 := V7.out.u.lt; have vf7 := V7.out.b.frozen xk; have uf7 := V7.out.u.frozen xk; clear ht7 hc7 x7 v7))
              refine wp_region_seq (fun b => b = VB ∨ b = VU) #[⟨0, 0, 4951760157141521099596496896, 128, 0⟩, ⟨0, 0, 9903520314283042199192993792, 2048, 0⟩, ⟨2, 2, 19807040628566084398385987584, 9903520314283042199192993792, 1⟩, ⟨0, 0, 39614081257132168796771975168, 256, 0⟩, ⟨0, 0, 79228162514264337593543950336, 2048, 0⟩, ⟨16, 16, 158456325028528675187087900672, 79228162514264337593543950336, 1⟩, ⟨7, 7, 316912650057057350374175801344, 24758800785707605497982484480, 0⟩, ⟨71, 71, 0, 316912650057057350374175801344, 2⟩, ⟨255, 255, 633825300114114700748351602688, 198070406285660843983859875840, 0⟩, ⟨511, 511, 0, 633825300114114700748351602688, 3⟩] 36 [(0, 0), (1, 0), (2, 1), (3, 0), (4, 0), (5, 1), (6, 0), (7, 2), (8, 0), (9, 3)] (by kernel_rfl) (by kernel_rfl) (by kernel_rfl) (by kernel_rfl) (by kernel_rfl) (by kernel_rfl) (fun c a d v w h => by cases d <;> exact h) ?_
              refine seq_calcA (h := ?_)
              try simp only [Act.put, List.setIfInBounds_toArray, List.set_cons_zero, List.set_cons_succ]
              refine seq_calcA (h := ?_)
              try simp only [Act.put, List.setIfInBounds_toArray, List.set_cons_zero, List.set_cons_succ]
              refine seq_load1A (hu := Tryz.underlying39) (h := ?_)
              try simp only [Act.put, List.setIfInBounds_toArray, List.set_cons_zero, List.set_cons_succ]
              refine seq_calcA (h := ?_)
              try simp only [Act.put, List.setIfInBounds_toArray, List.set_cons_zero, List.set_cons_succ]
              refine seq_calcA (h := ?_)
              try simp only [Act.put, List.setIfInBounds_toArray, List.set_cons_zero, List.set_cons_succ]
              refine seq_load1A (hu := Tryz.underlying39) (h := ?_)
              try simp only [Act.put, List.setIfInBounds_toArray, List.set_cons_zero, List.set_cons_succ]
              refine seq_calcA (h := ?_)
              try simp only [Act.put, List.setIfInBounds_toArray, List.set_cons_zero, List.set_cons_succ]
              refine seq_doA (h := fun K hK => ?_); go_wp2_with (fail); refine hkA hK (h := ?_); clear hK K
              try simp only [Act.put, List.setIfInBounds_toArray, List.set_cons_zero, List.set_cons_succ]
              refine seq_calcA (h := ?_)
              try simp only [Act.put, List.setIfInBounds_toArray, List.set_cons_zero, List.set_cons_succ]
              refine seq_lastA (h := fun K hK => ?_); go_wp2_with (fail); refine hK.out _ _ ?_; clear hK K
              try simp only [Act.put, List.setIfInBounds_toArray, List.set_cons_zero, List.set_cons_succ]
              refine seq_nil ?_
              go_wp2
              go_roundw
              case rel =>
                have hV9 := (V7.out.setB hxk true).setU hxk 5
                have hC9 : Chg (fun b => b = VB ∨ b = VU) w7 ((w7.setCell ⟨VB, xk, none⟩ (.bool true)).setCell ⟨VU, xk, none⟩ (.int .u64 5)) := ((Chg.refl _ _).setCell (.inl (.inl rfl)) _).setCell (.inl (.inr rfl)) _
                have hT9 := T7.out.chg hC9 (by rintro b (e | e) <;> omega) (by rintro (e | e) <;> omega) (by rintro (e | e) <;> omega) (fun b e => by cases e)
                refine ⟨x + 1, _, upd th xk true, upd va xk 5, by omega, by go_num, hT9.later (Below.refl _ _).drew, hV9.later (Below.refl _ _).drew, ?_, ?_, HPT.out, ?_, ?_, (B7.out.trans (hC9.below (by omega) (fun b hb e => by rcases e with e | e <;> omega))).drew, ?_⟩
                · rw [← HHx.out]; exact KF1.out.putT _ _ (HHb.out _)
                · rw [putT_nn]; exact HTN.out
                · rw [← HHx.out]; exact only_put KF1.out HON.out hxk 5 (HHb.out _)
                · rw [← HHx.out]; exact HSAY.out.put KF1.out hxk 5 (HHb.out _) (by rw [HHx.out]; exact HOK.out)
                · have := hC9.size; simp at z7 ⊢; omega
              case measure => simp [intOf]; omega
          | false =>
            as_aux_lemma =>
              have HOK := Lib.hid hok
              have hsame : T.putT (xk : Int) 5 h = T := by rw [← HHx.out]; exact HSAY.out.putNo KF1.out 5 (HHb.out _) (by rw [HHx.out]; exact hok)
              rw [hok, if_neg Bool.false_ne_true, hsame, errN_nz E 2 (by decide)] at PU
              unfold errAt at PU
              clear hok hsame
              go_wp2_with (first
                | (go_at_call 8; (with_reducible refine (EQ.out _ B0.out).mono ?_); rintro e w6 ⟨rfl, hb6⟩; have z6 := hb6.size; have T6 := Lib.hid ((KT.out.later hb6).alloc (.cells #[.int .u64 (xk : Int), .int .u64 5, .int .u64 (h : Int)] 41)); have V6 := Lib.hid ((KV.out.later hb6).later ((Below.refl _ _).alloc (Nat.le_refl _) (.cells #[.int .u64 (xk : Int), .int .u64 5, .int .u64 (h : Int)] 41))); have B6 := Lib.hid ((KB.out.trans (hb6.mono KB.out.size)).alloc (by have := KB.out.size; omega) (.cells #[.int .u64 (xk : Int), .int .u64 5, .int .u64 (h : Int)] 41)))
                | (go_at_call 40; (with_reducible refine (PU.out _ T6.out).mono ?_); rintro e w7 ⟨rfl, ht7, hc7⟩; have T7 := Lib.hid ht7; have V7 := Lib.hid (V6.out.chg hc7 (by omega) (by omega)); have B7 := Lib.hid (B6.out.trans (hc7.below (by have := KB.out.size; simp; omega) (fun b hb e => by rcases e with e | e <;> omega))); have z7 := hc7.size; clear ht7 hc7))
              go_roundw
              case rel => exact ⟨x + 1, _, _, _, by omega, by go_num, T7.out, V7.out, KF1.out, HTN.out, by have := HLT.out; omega, HON.out, HSAY.out, B7.out, by simp at z7; omega⟩
              case measure => simp [intOf]; omega
        · obtain rfl : x = n2 := by omega
          clear hxn
          have hT0 : T.lv + T.tb ≤ (x : Int) := HLT.out
          by_cases hbad : rightB new = true ∧ depth ≤ 15
          case neg =>
            as_aux_lemma =>
              have NW := Lib.hid (dualNew_bad (w := wr) (O := O) (Q := Q) (T := T) (E := E) (w0 := w0) new depth (by by_cases e : rightB new = true; exact .inl (by simp only [e, true_and] at hbad; omega); exact .inr (by simpa using e)) KT.out)
              unfold errAt at NW
              clear hbad
              go_wp2_with (go_at_call 41; (with_reducible refine NW.out.mono ?_); rintro e w6 ⟨rfl, hb6⟩)
              go_ret
              exact ⟨rfl, B0.out.trans (hb6.mono B0.out.size)⟩
          obtain ⟨hrn, hdp⟩ := hbad
          as_aux_lemma =>
            obtain ⟨hz1, hn0⟩ := HZ.out hrn
            obtain ⟨gn, rfl⟩ := Int.eq_ofNat_of_zero_le hn0
            have hgnb := right_bd hrn
            obtain ⟨k, d, hkd⟩ : ∃ k d : Nat, (k = 1 ∧ depth < 0 ∧ d = 0) ∨ (k = 2 ∧ depth = (d : Int) ∧ d ≤ 15) := ⟨if depth < 0 then 1 else 2, depth.toNat, by split <;> omega⟩
            have hkk : k = 1 ∨ (k = 2 ∧ d ≤ 15) := by omega
            have NW := Lib.hid (fun (w' : World) (h' : TN w' O Q T E w0) => dualNew_ok (w := w') depth hkd hrn h')
            obtain ⟨s0, hs0⟩ : ∃ s0, s0 = DuS.newS k d gn T := ⟨_, rfl⟩
            rw [← hs0] at NW
            have HY0 := Lib.hid (show ∃ c P V, DuY s0 H n1 g gn (x : Int) c P V th va from by rw [hs0]; exact DuY.new hkk hrn KF1.out HTN.out hT0 HON.out HSAY.out)
            have HSK := Lib.hid (show s0.k = k ∧ DuOK s0 from by rw [hs0]; exact ⟨rfl, DuOK.newS hkk hrn KF1.out.good⟩)
            obtain ⟨L0, hL0⟩ : ∃ L0, L0 = s0.left := ⟨_, rfl⟩
            have hLb : L0 ≤ 1000 := by
              rw [hL0, hs0]
              have hb2 : k * gn ≤ 2 * 64 := Nat.mul_le_mul (by omega) (by omega)
              have := KF1.out.good.bounds
              show k * gn + (T.n - 0) ≤ 1000
              omega
            have hnn : (x : Int) + (n3 : Int) ≤ 6 * (gn : Int) := by omega
            have zV := KV.out.b.lt
            have zU := KV.out.u.lt
            have sVV : VB ≠ VU := KV.out.ne
            have HKF := Lib.hid (show KF C VB VU C ∧ KF C VB VU VB ∧ KF C VB VU VU from ⟨.inl rfl, .inr (.inl rfl), .inr (.inr rfl)⟩)
            have hb0 : ∀ b, KF C VB VU b → b < wr.heap.size := fun b e => by rcases e with e | e | e <;> omega
            have HB0 := Lib.hid hb0
            have HL0 := Lib.hid hL0
            clear hkd hs0 hb0 hL0 hT0 HLT HZ HON HSAY
            go_upto_region 22 with (first
              | (go_at_call 41; go_loud ((with_reducible refine (NW.out _ KT.out).mono ?_); rintro e w6 ⟨a, bcap, rfl, hA, ha1, ha2, hge, hb6⟩; have z6 := hb6.size; have D6 := Lib.hid (df_new hA HSK.out ha1 ha2 hge HB0.out (show ∀ b, KF C VB VU b → b ≠ O ∧ b ≠ Q from fun b e => by rcases e with e | e | e <;> exact ⟨by omega, by omega⟩) hb6.size (by omega)); have V6 := Lib.hid ((KV.out.later hb6).later ((Below.refl _ _).alloc (Nat.le_refl _) (.cells #[.int .i64 0, .int .i64 0, .int .i64 0, .int .i64 0, .int .i64 0, .int .i64 0, .bool false, .int .i64 0] 36))); have C6 := Lib.hid ((C2'.out.below (KB.out.trans (hb6.mono KB.out.size)) zC2).alloc (.cells #[.int .i64 0, .int .i64 0, .int .i64 0, .int .i64 0, .int .i64 0, .int .i64 0, .bool false, .int .i64 0] 36)); (generalize a 0 = D at *); clear hA ha1 ha2 hge))
              | (go_at_call 35; (with_reducible refine D6.out.left.mono ?_); rintro e w7 ⟨rfl, hb7⟩; have D7 := Lib.hid (show DFs w7 C D w6.heap.size VB VU n1 s0 MeterS.zero (KF C VB VU) cs th va E w0 from ⟨D6.out.later hb7, C6.out.below hb7 C6.out.lt, V6.out.later hb7, HKF.out, by omega, by omega, by omega, by omega⟩)))
            rw [← HL0.out]
            obtain ⟨M, hM⟩ : ∃ M, M = w6.heap.size := ⟨_, rfl⟩
            rw [← hM] at D7 ⊢
            replace hM := Lib.hid hM
            clear KT KV KB KF1 HTN B0 KC1 r0 r1 r2 r3 r4 zC D6 V6 C6 hb6 hb7 NW hwz
            go_wp2
            go_loopw [124, 16] (fun v124 v16 wr => ∃ (j : Nat) (s : DuS) (mt : MeterS) (st : Nat) (c : Int) (P : Int → Bool) (V : Int → EntS) (th : Nat → Bool) (va : Nat → Int), j ≤ n3 ∧ v124 = .int .i64 (j : Int) ∧ v16 = .int .i64 (st : Int) ∧ DFs wr C D M VB VU n1 s mt (KF C VB VU) cs th va E w0 ∧ DuY s H n1 g gn ((x : Int) + (j : Int)) c P V th va ∧ s.left + st = L0 ∧ mt.a2 = (st : Int)) (fun v124 _ _ => n3 - (intOf v124).toNat)
            case atStart =>
              obtain ⟨c, P, V, hy⟩ := HY0.out
              exact ⟨0, s0, _, 0, c, P, V, th, va, Nat.zero_le _, rfl, rfl, D7.out, by simpa using hy, by rw [HL0.out]; rfl, rfl⟩
            case round =>
              clear D7 HY0 HL0 HSK
              obtain ⟨j, s, mt, st, c, P, V, th, va, hj, rfl, rfl, hD, hY, hL, hM2⟩ := hrel
              as_aux_lemma =>
                have HD := Lib.hid hD
                have HY := Lib.hid hY
                have HL := Lib.hid hL
                have HM2 := Lib.hid hM2
                have BD := Lib.hid hD.z.bel
                have hcc := hD.c
                rw [HCS.out] at hcc
                have KC0 := Lib.hid hcc
                obtain ⟨r0, r1, r2, r3, r4, zC⟩ := cased_cells hcc
                have hst : st ≤ 1000 := by omega
                obtain ⟨wO, hwO⟩ : ∃ wO, wO = wr := ⟨_, rfl⟩
                subst hwO
                clear hD hY hL hM2 hcc
                by_cases hlt : j < n3
                · have hltI : (j : Int) < (n3 : Int) := by omega
                  obtain ⟨ab, ao, rfl, haz, hac⟩ := HX3.out (by omega)
                  have t0 : wO.cell? ⟨ab, ao + j * 3, none⟩ = some (.int .i64 (f3 j 0)) := by simpa using hac wO BD.out j hlt 0 (by decide)
                  have t1 : wO.cell? ⟨ab, ao + j * 3 + 1, none⟩ = some (.int .i64 (f3 j 1)) := by simpa [Nat.add_assoc] using hac wO BD.out j hlt 1 (by decide)
                  have t2 : wO.cell? ⟨ab, ao + j * 3 + 2, none⟩ = some (.int .i64 (f3 j 2)) := by simpa [Nat.add_assoc] using hac wO BD.out j hlt 2 (by decide)
                  have haz2 : ab < wO.heap.size := Nat.lt_of_lt_of_le haz BD.out.size
                  generalize f3 j 0 = kd at t0
                  generalize f3 j 1 = ky at t1
                  generalize f3 j 2 = vN at t2
                  have hxk := keyI_lt ky n1 k1
                  have EQ := Lib.hid (EN.out ky (valI vN))
                  have hv0 : IntKind.u64.wrap vN = valI vN := rfl
                  generalize keyI ky n1 = x' at *
                  generalize valI vN = vv at *
                  have hGx := HG.out x' hxk
                  have hHx := HH.out x' hxk
                  obtain ⟨h, hh⟩ : ∃ h, h = G x' := ⟨_, rfl⟩
                  rw [← hh] at EQ hGx hHx
                  have HHx := Lib.hid hHx
                  clear hac hh hHx haz
                  go_upto_block 4 with (go_at_call 8; (with_reducible refine (EQ.out _ (BD.out.trans ((Below.refl _ _).alloc BD.out.size _))).mono ?_); rintro e w5 ⟨rfl, hb5⟩; have B5 := Lib.hid hb5; have A5 := Lib.hid ((Blk.new wO 38 #[.int .i64 kd, .int .i64 ky, .int .i64 vN]).below hb5 (by simp)); have a5 := A5.out.cell 0; have za5 := A5.out.lt)
                  refine wp_at (fun w6 hw6 => ?_)
                  obtain ⟨A, hA⟩ : ∃ A, A = wO.heap.size := ⟨_, rfl⟩
                  obtain ⟨X, hX⟩ : ∃ X, X = w5.heap.size := ⟨_, rfl⟩
                  have B56 : Below w5.heap.size w5 w6 := by rw [hw6]; go_grown
                  have hz5 := B5.out.size
                  simp only [World.size_alloc] at hz5
                  have BO6 := Lib.hid (show Below wO.heap.size wO w6 from (((Below.refl wO.heap.size wO).alloc (Nat.le_refl _) _).trans (B5.out.mono (by simp))).trans (B56.mono (by omega)))
                  have X6 := Lib.hid (show Blk w6 X 41 #[.int .u64 (x' : Int), .int .u64 vv, .int .u64 (h : Int)] by rw [hw6, hX]; exact Blk.new _ _ _)
                  obtain ⟨K', hK'⟩ : ∃ K' : Nat → Prop, K' = fun b => KF C VB VU b ∨ b = A ∨ b = X := ⟨_, rfl⟩
                  have hXz := X6.out.lt
                  have D6 := Lib.hid (HD.out.keep (K' := K') BO6.out (fun b e => by
                    rw [hK'] at e
                    rcases e with e | e | e
                    · exact .inl e
                    · exact .inr ⟨by omega, by omega⟩
                    · exact .inr ⟨by omega, by omega⟩) (by rw [hK']; exact ⟨.inl (.inl rfl), .inl (.inr (.inl rfl)), .inl (.inr (.inr rfl))⟩))
                  have HKF2 := Lib.hid (show ∀ b, KF C VB VU b → K' b from by rw [hK']; exact fun b e => .inl e)
                  have HKK' := Lib.hid (show K' X ∧ (∀ b, KF C VB VU b → K' b) from by rw [hK']; exact ⟨.inr (.inr rfl), fun b e => .inl e⟩)
                  have hX0 : w0.heap.size ≤ X := by have := BD.out.size; omega
                  have hXVB : ¬ X = VB := by have := HD.out.v.b.lt; omega
                  have hXVU : ¬ X = VU := by have := HD.out.v.u.lt; omega
                  rw [← hA, ← hX]
                  replace hw6 := Lib.hid hw6
                  replace hA := Lib.hid hA
                  replace hX := Lib.hid hX
                  have hxkI : (x' : Int) < (n1 : Int) := by omega
                  have hm7 : (x : Int) + (j : Int) < 7 * (gn : Int) := by omega
                  obtain ⟨m, hm⟩ : ∃ m : Int, m = (x : Int) + (j : Int) := ⟨_, rfl⟩
                  rw [← hm] at HY hm7
                  have hj1 : (x : Int) + ((j + 1 : Nat) : Int) = m + 1 := by omega
                  have HJ1 := Lib.hid hj1
                  replace hm := Lib.hid hm
                  obtain ⟨x60, x61, x62⟩ := cells3 X6.out
                  clear B56 hz5 A5 B5 hb5 t0 t1 t2 haz2 r0 r1 r2 r3 r4 zC HD BO6 hK' hj1 EQ a5 za5
                  go_cut [16] (fun v16 wx => ∃ (s' : DuS) (mt' : MeterS) (st' : Nat) (c' : Int) (P' : Int → Bool) (V' : Int → EntS) (th' : Nat → Bool) (va' : Nat → Int), v16 = .int .i64 (st' : Int) ∧ DFs wx C D M VB VU n1 s' mt' K' cs th' va' E w0 ∧ DuY s' H n1 g gn (m + 1) c' P' V' th' va' ∧ s'.left + st' = L0 ∧ mt'.a2 = (st' : Int))
                  case first =>
                    by_cases q0 : kd = 0
                    · subst q0
                      as_aux_lemma =>
                        have hth := (HY.out.t x' hxk).1
                        rw [← HY.out.k.l.p, HHx.out] at hth
                        obtain ⟨hpB, hpN⟩ := HY.out.k.l.f.putB_eq (x' : Int)
                        rw [HHx.out, ← hth] at hpB
                        rw [HHx.out] at hpN
                        have PU := Lib.hid (fun (w' : World) (h' : D1s w' D s false M mt K' E w0) => h'.put (x' : Int) vv h hGx true 1 0 0)
                        rw [hpB, hpN] at PU
                        have sVV : ¬ VB = VU := D6.out.v.ne
                        have sVV' : ¬ VU = VB := fun e => sVV e.symm
                        have HTH := Lib.hid hth
                        have hokd : s.ok (x' : Int) h = true ∨ (s.ok (x' : Int) h = false ∧ th x' = false ∧ ¬ s.bare = 0) := by
                          cases hok : s.ok (x' : Int) h with
                          | true => exact .inl rfl
                          | false =>
                            refine .inr ⟨rfl, ?_, fun hb => ?_⟩
                            · rw [hth]
                              unfold DuS.ok at hok
                              simp only [Bool.or_eq_false_iff] at hok
                              exact hok.1
                            · have := HY.out.room hm7 hb (x' : Int)
                              rw [HHx.out, hok] at this
                              cases this
                        have HOK := Lib.hid hokd
                        clear hth hpB hpN hokd
                        rcases HOK.out with hok | ⟨hok, ht, hb⟩
                        · have HYN := Lib.hid (show ∃ c' P' V', DuY (s.put (x' : Int) vv h true) H n1 g gn (m + 1) c' P' V' (upd th x' true) (upd va x' vv) from by
                            have := HY.out.put hxk vv (by rw [HHx.out]; exact hGx) (by rw [HHx.out]; exact hok)
                            rw [HHx.out] at this; exact this)
                          rw [hok, if_pos rfl, errN_0, Bool.and_true] at PU
                          clear hok
                          cases ht : th x' with
                          | true =>
                            rw [ht] at PU
                            simp only [Bool.not_true] at PU
                            go_upto_region 30 with (fail)
                            refine wp_region_seq (fun _ => False) #[⟨0, 0, 44601490397061246283071436545296723011960832, 16384, 0⟩, ⟨0, 0, 89202980794122492566142873090593446023921664, 32768, 0⟩, ⟨2, 2, 178405961588244985132285746181186892047843328, 89202980794122492566142873090593446023921664, 2⟩, ⟨0, 0, 356811923176489970264571492362373784095686656, 1048576, 1⟩, ⟨13, 15, 713623846352979940529142984724747568191373312, 579819375161796201679928675088857399155490816, 3⟩, ⟨16, 31, 22300745198530623141535718272648361505980416, 713623846352979940529142984724747568191373312, 0⟩, ⟨32, 63, 1427247692705959881058285969449495136382746624, 22300745198530623141535718272648361505980416, 0⟩, ⟨32, 63, 2854495385411919762116571938898990272765493248, 22300745198530623141535718272648361505980416, 0⟩, ⟨127, 127, 2097152, 1427247692705959881058285969449495136382746624, 0⟩, ⟨511, 511, 4194304, 2854495385411919762116571938898990272765493248, 0⟩] 8 [(0, 0), (1, 0), (3, 1), (2, 2), (4, 3), (5, 0), (6, 0), (7, 0), (8, 0), (9, 0)] (by kernel_rfl) (by kernel_rfl) (by kernel_rfl) (by kernel_rfl) (by kernel_rfl) (by kernel_rfl) (fun c a d v w h => by cases d <;> exact h) ?_
                            refine seq_calcA (h := ?_)
                            try simp only [Act.put, List.setIfInBounds_toArray, List.set_cons_zero, List.set_cons_succ]
                            refine seq_calcA (h := ?_)
                            try simp only [Act.put, List.setIfInBounds_toArray, List.set_cons_zero, List.set_cons_succ]
                            refine seq_loadsA [_, _, _] (hu := Tryz.underlying41) (h := ?_)
                            try simp only [Act.put, List.setIfInBounds_toArray, List.set_cons_zero, List.set_cons_succ]
                            refine seq_doA (h := fun K hK => ?_); go_wp2_with (first | (go_at_call 12; (with_reducible refine (probing_any _ _).mono ?_); rintro e w7 ⟨rfl, hb7⟩; have D7 := Lib.hid (D6.out.drew.later hb7); have X7 := Lib.hid (X6.out.drew.below hb7 X6.out.drew.lt)) | (go_at_call 11; (with_reducible refine (PU.out _ D7.out.z).mono ?_); rintro e w8 ⟨rfl, hz8, hc8⟩; have D8 := Lib.hid (D7.out.turn hz8 hc8); have X8 := Lib.hid (X7.out.chg hc8 (fun e => e.2 HKK'.out.1)); have x8 := cells3 X8.out; have x80 := x8.1; have x81 := x8.2.1; have zX8 := X8.out.lt; have v8 := D8.out.v.cells hxk; have v80 := v8.1; have v81 := v8.2; have zV8 := D8.out.v.b.lt; have zU8 := D8.out.v.u.lt; have vf8 := D8.out.v.b.frozen x'; have uf8 := D8.out.v.u.frozen x'; clear x8 v8 hz8 x60 x61 x62)); refine hkA hK (h := ?_); clear hK K
                            try simp only [Act.put, List.setIfInBounds_toArray, List.set_cons_zero, List.set_cons_succ]
                            refine seq_lastA (h := fun K hK => ?_); go_wp2_with (first | (go_at_call 12; (with_reducible refine (probing_any _ _).mono ?_); rintro e w7 ⟨rfl, hb7⟩; have D7 := Lib.hid (D6.out.drew.later hb7); have X7 := Lib.hid (X6.out.drew.below hb7 X6.out.drew.lt)) | (go_at_call 11; (with_reducible refine (PU.out _ D7.out.z).mono ?_); rintro e w8 ⟨rfl, hz8, hc8⟩; have D8 := Lib.hid (D7.out.turn hz8 hc8); have X8 := Lib.hid (X7.out.chg hc8 (fun e => e.2 HKK'.out.1)); have x8 := cells3 X8.out; have x80 := x8.1; have x81 := x8.2.1; have zX8 := X8.out.lt; have v8 := D8.out.v.cells hxk; have v80 := v8.1; have v81 := v8.2; have zV8 := D8.out.v.b.lt; have zU8 := D8.out.v.u.lt; have vf8 := D8.out.v.b.frozen x'; have uf8 := D8.out.v.u.frozen x'; clear x8 v8 hz8 x60 x61 x62)); refine hK.out _ _ ?_; clear hK K
                            try simp only [Act.put, List.setIfInBounds_toArray, List.set_cons_zero, List.set_cons_succ]
                            refine seq_calcA (h := ?_)
                            try simp only [Act.put, List.setIfInBounds_toArray, List.set_cons_zero, List.set_cons_succ]
                            refine seq_calcA (h := ?_)
                            try simp only [Act.put, List.setIfInBounds_toArray, List.set_cons_zero, List.set_cons_succ]
                            refine seq_calcA (h := ?_)
                            try simp only [Act.put, List.setIfInBounds_toArray, List.set_cons_zero, List.set_cons_succ]
                            refine seq_calcA (h := ?_)
                            try simp only [Act.put, List.setIfInBounds_toArray, List.set_cons_zero, List.set_cons_succ]
                            refine seq_calcA (h := ?_)
                            try simp only [Act.put, List.setIfInBounds_toArray, List.set_cons_zero, List.set_cons_succ]
                            refine seq_nil ?_
                            rw [ht] at v80
                            clear ht
                            go_wp2
                            refine wp_region_seq (fun b => b = VB ∨ b = VU) #[⟨0, 0, 191561942608236107294793378393788647952342390272950272, 128, 0⟩, ⟨0, 0, 383123885216472214589586756787577295904684780545900544, 1048576, 0⟩, ⟨2, 2, 766247770432944429179173513575154591809369561091801088, 383123885216472214589586756787577295904684780545900544, 1⟩, ⟨0, 0, 1532495540865888858358347027150309183618739122183602176, 256, 0⟩, ⟨0, 0, 3064991081731777716716694054300618367237478244367204352, 1048576, 0⟩, ⟨16, 16, 6129982163463555433433388108601236734474956488734408704, 3064991081731777716716694054300618367237478244367204352, 1⟩, ⟨0, 0, 12259964326927110866866776217202473468949912977468817408, 1048576, 0⟩, ⟨64, 64, 24519928653854221733733552434404946937899825954937634816, 12259964326927110866866776217202473468949912977468817408, 1⟩, ⟨7, 7, 49039857307708443467467104868809893875799651909875269632, 957809713041180536473966891968943239761711951364751360, 0⟩, ⟨263, 263, 0, 49039857307708443467467104868809893875799651909875269632, 2⟩, ⟨1023, 1023, 98079714615416886934934209737619787751599303819750539264, 7662477704329444291791735135751545918093695610918010880, 0⟩, ⟨2047, 2047, 0, 122599643269271108668667762172024734689499129774688174080, 3⟩] 164 [(0, 0), (1, 0), (2, 1), (3, 0), (4, 0), (5, 1), (6, 0), (7, 1), (8, 0), (9, 2), (10, 0), (11, 3)] (by kernel_rfl) (by kernel_rfl) (by kernel_rfl) (by kernel_rfl) (by kernel_rfl) (by kernel_rfl) (fun c a d v w h => by cases d <;> exact h) ?_
                            refine seq_calcA (h := ?_)
                            try simp only [Act.put, List.setIfInBounds_toArray, List.set_cons_zero, List.set_cons_succ]
                            refine seq_calcA (h := ?_)
                            try simp only [Act.put, List.setIfInBounds_toArray, List.set_cons_zero, List.set_cons_succ]
                            refine seq_load1A (hu := Tryz.underlying39) (h := ?_)
                            try simp only [Act.put, List.setIfInBounds_toArray, List.set_cons_zero, List.set_cons_succ]
                            refine seq_calcA (h := ?_)
                            try simp only [Act.put, List.setIfInBounds_toArray, List.set_cons_zero, List.set_cons_succ]
                            refine seq_calcA (h := ?_)
                            try simp only [Act.put, List.setIfInBounds_toArray, List.set_cons_zero, List.set_cons_succ]
                            refine seq_load1A (hu := Tryz.underlying39) (h := ?_)
                            try simp only [Act.put, List.setIfInBounds_toArray, List.set_cons_zero, List.set_cons_succ]
                            refine seq_calcA (h := ?_)
                            try simp only [Act.put, List.setIfInBounds_toArray, List.set_cons_zero, List.set_cons_succ]
                            refine seq_load1A (hu := Tryz.underlying39) (h := ?_)
                            try simp only [Act.put, List.setIfInBounds_toArray, List.set_cons_zero, List.set_cons_succ]
                            refine seq_calcA (h := ?_)
                            try simp only [Act.put, List.setIfInBounds_toArray, List.set_cons_zero, List.set_cons_succ]
                            refine seq_doA (h := fun K hK => ?_); go_wp2_with (fail); refine hkA hK (h := ?_); clear hK K
                            try simp only [Act.put, List.setIfInBounds_toArray, List.set_cons_zero, List.set_cons_succ]
                            refine seq_calcA (h := ?_)
                            try simp only [Act.put, List.setIfInBounds_toArray, List.set_cons_zero, List.set_cons_succ]
                            refine seq_lastA (h := fun K hK => ?_); go_wp2_with (fail); refine hK.out _ _ ?_; clear hK K
                            try simp only [Act.put, List.setIfInBounds_toArray, List.set_cons_zero, List.set_cons_succ]
                            refine seq_nil ?_
                            go_wp2
                            go_meet
                            obtain ⟨c', P', V', hy⟩ := HYN.out
                            exact ⟨_, _, st, c', P', V', upd th x' true, upd va x' vv, rfl, ((D8.out.setB hxk true).setU hxk vv).drew, hy, (congrArg (· + st) (put_left _ _ _ _ _)).trans HL.out, probe_a2 HM2.out (by omega) _⟩
                          | false =>
                            rw [ht] at PU
                            simp only [Bool.not_false] at PU
                            go_upto_region 30 with (fail)
                            refine wp_region_seq (fun _ => False) #[⟨0, 0, 44601490397061246283071436545296723011960832, 16384, 0⟩, ⟨0, 0, 89202980794122492566142873090593446023921664, 32768, 0⟩, ⟨2, 2, 178405961588244985132285746181186892047843328, 89202980794122492566142873090593446023921664, 2⟩, ⟨0, 0, 356811923176489970264571492362373784095686656, 1048576, 1⟩, ⟨13, 15, 713623846352979940529142984724747568191373312, 579819375161796201679928675088857399155490816, 3⟩, ⟨16, 31, 22300745198530623141535718272648361505980416, 713623846352979940529142984724747568191373312, 0⟩, ⟨32, 63, 1427247692705959881058285969449495136382746624, 22300745198530623141535718272648361505980416, 0⟩, ⟨32, 63, 2854495385411919762116571938898990272765493248, 22300745198530623141535718272648361505980416, 0⟩, ⟨127, 127, 2097152, 1427247692705959881058285969449495136382746624, 0⟩, ⟨511, 511, 4194304, 2854495385411919762116571938898990272765493248, 0⟩] 8 [(0, 0), (1, 0), (3, 1), (2, 2), (4, 3), (5, 0), (6, 0), (7, 0), (8, 0), (9, 0)] (by kernel_rfl) (by kernel_rfl) (by kernel_rfl) (by kernel_rfl) (by kernel_rfl) (by kernel_rfl) (fun c a d v w h => by cases d <;> exact h) ?_
                            refine seq_calcA (h := ?_)
                            try simp only [Act.put, List.setIfInBounds_toArray, List.set_cons_zero, List.set_cons_succ]
                            refine seq_calcA (h := ?_)
                            try simp only [Act.put, List.setIfInBounds_toArray, List.set_cons_zero, List.set_cons_succ]
                            refine seq_loadsA [_, _, _] (hu := Tryz.underlying41) (h := ?_)
                            try simp only [Act.put, List.setIfInBounds_toArray, List.set_cons_zero, List.set_cons_succ]
                            refine seq_doA (h := fun K hK => ?_); go_wp2_with (first | (go_at_call 12; (with_reducible refine (probing_any _ _).mono ?_); rintro e w7 ⟨rfl, hb7⟩; have D7 := Lib.hid (D6.out.drew.later hb7); have X7 := Lib.hid (X6.out.drew.below hb7 X6.out.drew.lt)) | (go_at_call 11; (with_reducible refine (PU.out _ D7.out.z).mono ?_); rintro e w8 ⟨rfl, hz8, hc8⟩; have D8 := Lib.hid (D7.out.turn hz8 hc8); have X8 := Lib.hid (X7.out.chg hc8 (fun e => e.2 HKK'.out.1)); have x8 := cells3 X8.out; have x80 := x8.1; have x81 := x8.2.1; have zX8 := X8.out.lt; have v8 := D8.out.v.cells hxk; have v80 := v8.1; have v81 := v8.2; have zV8 := D8.out.v.b.lt; have zU8 := D8.out.v.u.lt; have vf8 := D8.out.v.b.frozen x'; have uf8 := D8.out.v.u.frozen x'; clear x8 v8 hz8 x60 x61 x62)); refine hkA hK (h := ?_); clear hK K
                            try simp only [Act.put, List.setIfInBounds_toArray, List.set_cons_zero, List.set_cons_succ]
                            refine seq_lastA (h := fun K hK => ?_); go_wp2_with (first | (go_at_call 12; (with_reducible refine (probing_any _ _).mono ?_); rintro e w7 ⟨rfl, hb7⟩; have D7 := Lib.hid (D6.out.drew.later hb7); have X7 := Lib.hid (X6.out.drew.below hb7 X6.out.drew.lt)) | (go_at_call 11; (with_reducible refine (PU.out _ D7.out.z).mono ?_); rintro e w8 ⟨rfl, hz8, hc8⟩; have D8 := Lib.hid (D7.out.turn hz8 hc8); have X8 := Lib.hid (X7.out.chg hc8 (fun e => e.2 HKK'.out.1)); have x8 := cells3 X8.out; have x80 := x8.1; have x81 := x8.2.1; have zX8 := X8.out.lt; have v8 := D8.out.v.cells hxk; have v80 := v8.1; have v81 := v8.2; have zV8 := D8.out.v.b.lt; have zU8 := D8.out.v.u.lt; have vf8 := D8.out.v.b.frozen x'; have uf8 := D8.out.v.u.frozen x'; clear x8 v8 hz8 x60 x61 x62)); refine hK.out _ _ ?_; clear hK K
                            try simp only [Act.put, List.setIfInBounds_toArray, List.set_cons_zero, List.set_cons_succ]
                            refine seq_calcA (h := ?_)
                            try simp only [Act.put, List.setIfInBounds_toArray, List.set_cons_zero, List.set_cons_succ]
                            refine seq_calcA (h := ?_)
                            try simp only [Act.put, List.setIfInBounds_toArray, List.set_cons_zero, List.set_cons_succ]
                            refine seq_calcA (h := ?_)
                            try simp only [Act.put, List.setIfInBounds_toArray, List.set_cons_zero, List.set_cons_succ]
                            refine seq_calcA (h := ?_)
                            try simp only [Act.put, List.setIfInBounds_toArray, List.set_cons_zero, List.set_cons_succ]
                            refine seq_calcA (h := ?_)
                            try simp only [Act.put, List.setIfInBounds_toArray, List.set_cons_zero, List.set_cons_succ]
                            refine seq_nil ?_
                            rw [ht] at v80
                            clear ht
                            go_wp2
                            refine wp_region_seq (fun b => b = VB ∨ b = VU) #[⟨0, 0, 191561942608236107294793378393788647952342390272950272, 128, 0⟩, ⟨0, 0, 383123885216472214589586756787577295904684780545900544, 1048576, 0⟩, ⟨2, 2, 766247770432944429179173513575154591809369561091801088, 383123885216472214589586756787577295904684780545900544, 1⟩, ⟨0, 0, 1532495540865888858358347027150309183618739122183602176, 256, 0⟩, ⟨0, 0, 3064991081731777716716694054300618367237478244367204352, 1048576, 0⟩, ⟨16, 16, 6129982163463555433433388108601236734474956488734408704, 3064991081731777716716694054300618367237478244367204352, 1⟩, ⟨0, 0, 12259964326927110866866776217202473468949912977468817408, 1048576, 0⟩, ⟨64, 64, 24519928653854221733733552434404946937899825954937634816, 12259964326927110866866776217202473468949912977468817408, 1⟩, ⟨7, 7, 49039857307708443467467104868809893875799651909875269632, 957809713041180536473966891968943239761711951364751360, 0⟩, ⟨263, 263, 0, 49039857307708443467467104868809893875799651909875269632, 2⟩, ⟨1023, 1023, 98079714615416886934934209737619787751599303819750539264, 7662477704329444291791735135751545918093695610918010880, 0⟩, ⟨2047, 2047, 0, 122599643269271108668667762172024734689499129774688174080, 3⟩] 164 [(0, 0), (1, 0), (2, 1), (3, 0), (4, 0), (5, 1), (6, 0), (7, 1), (8, 0), (9, 2), (10, 0), (11, 3)] (by kernel_rfl) (by kernel_rfl) (by kernel_rfl) (by kernel_rfl) (by kernel_rfl) (by kernel_rfl) (fun c a d v w h => by cases d <;> exact h) ?_
                            refine seq_calcA (h := ?_)
                            try simp only [Act.put, List.setIfInBounds_toArray, List.set_cons_zero, List.set_cons_succ]
                            refine seq_calcA (h := ?_)
                            try simp only [Act.put, List.setIfInBounds_toArray, List.set_cons_zero, List.set_cons_succ]
                            refine seq_load1A (hu := Tryz.underlying39) (h := ?_)
                            try simp only [Act.put, List.setIfInBounds_toArray, List.set_cons_zero, List.set_cons_succ]
                            refine seq_calcA (h := ?_)
                            try simp only [Act.put, List.setIfInBounds_toArray, List.set_cons_zero, List.set_cons_succ]
                            refine seq_calcA (h := ?_)
                            try simp only [Act.put, List.setIfInBounds_toArray, List.set_cons_zero, List.set_cons_succ]
                            refine seq_load1A (hu := Tryz.underlying39) (h := ?_)
                            try simp only [Act.put, List.setIfInBounds_toArray, List.set_cons_zero, List.set_cons_succ]
                            refine seq_calcA (h := ?_)
                            try simp only [Act.put, List.setIfInBounds_toArray, List.set_cons_zero, List.set_cons_succ]
                            refine seq_load1A (hu := Tryz.underlying39) (h := ?_)
                            try simp only [Act.put, List.setIfInBounds_toArray, List.set_cons_zero, List.set_cons_succ]
                            refine seq_calcA (h := ?_)
                            try simp only [Act.put, List.setIfInBounds_toArray, List.set_cons_zero, List.set_cons_succ]
                            refine seq_doA (h := fun K hK => ?_); go_wp2_with (fail); refine hkA hK (h := ?_); clear hK K
                            try simp only [Act.put, List.setIfInBounds_toArray, List.set_cons_zero, List.set_cons_succ]
                            refine seq_calcA (h := ?_)
                            try simp only [Act.put, List.setIfInBounds_toArray, List.set_cons_zero, List.set_cons_succ]
                            refine seq_lastA (h := fun K hK => ?_); go_wp2_with (fail); refine hK.out _ _ ?_; clear hK K
                            try simp only [Act.put, List.setIfInBounds_toArray, List.set_cons_zero, List.set_cons_succ]
                            refine seq_nil ?_
                            go_wp2
                            go_meet
                            obtain ⟨c', P', V', hy⟩ := HYN.out
                            exact ⟨_, _, st, c', P', V', upd th x' true, upd va x' vv, rfl, ((D8.out.setB hxk true).setU hxk vv).drew, hy, (congrArg (· + st) (put_left _ _ _ _ _)).trans HL.out, probe_a2 HM2.out (by omega) _⟩
                        · have HYN := Lib.hid (show DuY (s.put (x' : Int) vv h true) H n1 g gn (m + 1) c P V th va from by
                            have := HY.out.putNo (x := x') vv (by rw [HHx.out]; exact hGx) (by rw [HHx.out]; exact hok)
                            rw [HHx.out] at this; exact this)
                          rw [hok, if_neg Bool.false_ne_true, ht, Bool.and_false, errN_nz E 2 (by decide)] at PU
                          unfold errAt at PU
                          have HB := Lib.hid (show ¬ (s.put (x' : Int) vv h true).bare = 0 from by rw [(put_kb s (x' : Int) vv h true).2]; exact hb)
                          clear hok hb
                          go_upto_region 30 with (fail)
                          refine wp_region_seq (fun _ => False) #[⟨0, 0, 44601490397061246283071436545296723011960832, 16384, 0⟩, ⟨0, 0, 89202980794122492566142873090593446023921664, 32768, 0⟩, ⟨2, 2, 178405961588244985132285746181186892047843328, 89202980794122492566142873090593446023921664, 2⟩, ⟨0, 0, 356811923176489970264571492362373784095686656, 1048576, 1⟩, ⟨13, 15, 713623846352979940529142984724747568191373312, 579819375161796201679928675088857399155490816, 3⟩, ⟨16, 31, 22300745198530623141535718272648361505980416, 713623846352979940529142984724747568191373312, 0⟩, ⟨32, 63, 1427247692705959881058285969449495136382746624, 22300745198530623141535718272648361505980416, 0⟩, ⟨32, 63, 2854495385411919762116571938898990272765493248, 22300745198530623141535718272648361505980416, 0⟩, ⟨127, 127, 2097152, 1427247692705959881058285969449495136382746624, 0⟩, ⟨511, 511, 4194304, 2854495385411919762116571938898990272765493248, 0⟩] 8 [(0, 0), (1, 0), (3, 1), (2, 2), (4, 3), (5, 0), (6, 0), (7, 0), (8, 0), (9, 0)] (by kernel_rfl) (by kernel_rfl) (by kernel_rfl) (by kernel_rfl) (by kernel_rfl) (by kernel_rfl) (fun c a d v w h => by cases d <;> exact h) ?_
                          refine seq_calcA (h := ?_)
                          try simp only [Act.put, List.setIfInBounds_toArray, List.set_cons_zero, List.set_cons_succ]
                          refine seq_calcA (h := ?_)
                          try simp only [Act.put, List.setIfInBounds_toArray, List.set_cons_zero, List.set_cons_succ]
                          refine seq_loadsA [_, _, _] (hu := Tryz.underlying41) (h := ?_)
                          try simp only [Act.put, List.setIfInBounds_toArray, List.set_cons_zero, List.set_cons_succ]
                          refine seq_doA (h := fun K hK => ?_); go_wp2_with (first | (go_at_call 12; (with_reducible refine (probing_any _ _).mono ?_); rintro e w7 ⟨rfl, hb7⟩; have D7 := Lib.hid (D6.out.drew.later hb7); have X7 := Lib.hid (X6.out.drew.below hb7 X6.out.drew.lt)) | (go_at_call 11; (with_reducible refine (PU.out _ D7.out.z).mono ?_); rintro e w8 ⟨rfl, hz8, hc8⟩; have D8 := Lib.hid (D7.out.turn hz8 hc8); have X8 := Lib.hid (X7.out.chg hc8 (fun e => e.2 HKK'.out.1)); have x8 := cells3 X8.out; have x80 := x8.1; have x81 := x8.2.1; have zX8 := X8.out.lt; have v8 := D8.out.v.cells hxk; have v80 := v8.1; have v81 := v8.2; have zV8 := D8.out.v.b.lt; have zU8 := D8.out.v.u.lt; have vf8 := D8.out.v.b.frozen x'; have uf8 := D8.out.v.u.frozen x'; clear x8 v8 hz8 x60 x61 x62)); refine hkA hK (h := ?_); clear hK K
                          try simp only [Act.put, List.setIfInBounds_toArray, List.set_cons_zero, List.set_cons_succ]
                          refine seq_lastA (h := fun K hK => ?_); go_wp2_with (first | (go_at_call 12; (with_reducible refine (probing_any _ _).mono ?_); rintro e w7 ⟨rfl, hb7⟩; have D7 := Lib.hid (D6.out.drew.later hb7); have X7 := Lib.hid (X6.out.drew.below hb7 X6.out.drew.lt)) | (go_at_call 11; (with_reducible refine (PU.out _ D7.out.z).mono ?_); rintro e w8 ⟨rfl, hz8, hc8⟩; have D8 := Lib.hid (D7.out.turn hz8 hc8); have X8 := Lib.hid (X7.out.chg hc8 (fun e => e.2 HKK'.out.1)); have x8 := cells3 X8.out; have x80 := x8.1; have x81 := x8.2.1; have zX8 := X8.out.lt; have v8 := D8.out.v.cells hxk; have v80 := v8.1; have v81 := v8.2; have zV8 := D8.out.v.b.lt; have zU8 := D8.out.v.u.lt; have vf8 := D8.out.v.b.frozen x'; have uf8 := D8.out.v.u.frozen x'; clear x8 v8 hz8 x60 x61 x62)); refine hK.out _ _ ?_; clear hK K
                          try simp only [Act.put, List.setIfInBounds_toArray, List.set_cons_zero, List.set_cons_succ]
                          refine seq_calcA (h := ?_)
                          try simp only [Act.put, List.setIfInBounds_toArray, List.set_cons_zero, List.set_cons_succ]
                          refine seq_calcA (h := ?_)
                          try simp only [Act.put, List.setIfInBounds_toArray, List.set_cons_zero, List.set_cons_succ]
                          refine seq_calcA (h := ?_)
                          try simp only [Act.put, List.setIfInBounds_toArray, List.set_cons_zero, List.set_cons_succ]
                          refine seq_calcA (h := ?_)
                          try simp only [Act.put, List.setIfInBounds_toArray, List.set_cons_zero, List.set_cons_succ]
                          refine seq_calcA (h := ?_)
                          try simp only [Act.put, List.setIfInBounds_toArray, List.set_cons_zero, List.set_cons_succ]
                          refine seq_nil ?_
                          rw [ht] at v80
                          have RD := Lib.hid D8.out.z.ready
                          rw [decide_eq_false HB.out] at RD
                          clear ht
                          go_wp2_with (go_at_call 36; (with_reducible refine RD.out.mono ?_); rintro e w' ⟨rfl, rfl⟩)
                          go_meet
                          exact ⟨_, _, st, c, P, V, th, va, rfl, D8.out, HYN.out, (congrArg (· + st) (put_left _ _ _ _ _)).trans HL.out, probe_a2 HM2.out (by omega) _⟩
                    · have q0' : (kd == 0) = false := by simpa using q0
                      by_cases q2 : kd = 2
                      · subst q2
                        as_aux_lemma =>
                          have hth := (HY.out.t x' hxk).1
                          have hva := (HY.out.t x' hxk).2
                          rw [← HY.out.k.l.p, HHx.out] at hth
                          rw [← HY.out.k.l.e, HHx.out] at hva
                          have DE := Lib.hid (fun (K9 : Nat → Prop) (w' : World) (h' : D1s w' D s false M mt K9 E w0) => h'.del (x' : Int) h hGx 1 0 0)
                          have HYN := Lib.hid (show ∃ c' P' V', DuY (s.del (x' : Int) h) H n1 g gn m c' P' V' (upd th x' false) va from by
                            have := HY.out.del hxk
                            rw [HHx.out] at this; exact this)
                          have HKC := Lib.hid D6.out.k
                          obtain ⟨en, hen⟩ : ∃ en, en = s.ent (x' : Int) h := ⟨_, rfl⟩
                          rw [← hen] at hva
                          simp only [← hen, ← hth] at DE
                          have HVA := Lib.hid hva
                          clear hen hth hva
                          go_upto_region 36 with (fail)
                          go_cut [23, 24] (fun v23 v24 wx => ∃ P9, v23 = .pointer (some ⟨P9, 0, none⟩) ∧ v24 = .bool (th x') ∧ Blk wx P9 41 #[.int .u64 en.key, .int .u64 en.val, .int .u64 en.hash] ∧ DFs wx C D M VB VU n1 (s.del (x' : Int) h) (addN mt 1 0 0 (s.lkU (x' : Int) h + s.lkT (x' : Int) h)) K' cs th va E w0 ∧ Blk wx X 41 #[.int .u64 (x' : Int), .int .u64 vv, .int .u64 (h : Int)])
                          case first =>
                            have hXK : ¬ KC K' w0.heap.size X := fun e => e.2 HKK'.out.1
                            refine wp_region_T (KC K' w0.heap.size) #[⟨0, 0, 1569275433846670190958947355801916604025588861116008628224, 16384, 0⟩, ⟨0, 0, 3138550867693340381917894711603833208051177722232017256448, 32768, 0⟩, ⟨2, 2, 6277101735386680763835789423207666416102355444464034512896, 3138550867693340381917894711603833208051177722232017256448, 2⟩, ⟨0, 0, 12554203470773361527671578846415332832204710888928069025792, 1048576, 0⟩, ⟨8, 8, 25108406941546723055343157692830665664409421777856138051584, 12554203470773361527671578846415332832204710888928069025792, 1⟩, ⟨0, 0, 50216813883093446110686315385661331328818843555712276103168, 1048576, 0⟩, ⟨32, 32, 100433627766186892221372630771322662657637687111424552206336, 50216813883093446110686315385661331328818843555712276103168, 1⟩, ⟨85, 127, 200867255532373784442745261542645325315275374222849104412672, 133388411876966966231510525243162911342175053194860733399040, 3⟩, ⟨128, 255, 784637716923335095479473677900958302012794430558004314112, 200867255532373784442745261542645325315275374222849104412672, 0⟩, ⟨256, 511, 401734511064747568885490523085290650630550748445698208825344, 784637716923335095479473677900958302012794430558004314112, 0⟩, ⟨256, 511, 803469022129495137770981046170581301261101496891396417650688, 784637716923335095479473677900958302012794430558004314112, 0⟩, ⟨0, 0, 8388608, 0, 2⟩, ⟨3071, 3071, 0, 401734511064747568885490523085290650630550748445698217213952, 3⟩, ⟨8191, 8191, 16777216, 803469022129495137770981046170581301261101496891396417650688, 0⟩] 80 (.step 0 0 (.step 1 0 (.step 3 0 (.step 4 1 (.step 5 0 (.step 6 1 (.fork (.alt 2 (.fork (.alt 7 (.step 8 0 (.step 9 0 (.step 10 0 (.step 11 2 (.step 12 3 (.step 13 0 Plan.done)))))) (.alt 11 (.step 7 3 (.step 8 0 (.step 9 0 (.step 10 0 (.step 12 3 (.step 13 0 Plan.done)))))) Plan.none))) (.alt 11 (.step 2 2 (.step 7 3 (.step 8 0 (.step 9 0 (.step 10 0 (.step 12 3 (.step 13 0 Plan.done))))))) Plan.none))))))))) (by kernel_rfl) (by kernel_rfl) (by kernel_rfl) (by kernel_rfl) (by kernel_rfl) (by kernel_rfl) (fun c a d v w h => by cases d <;> exact h) ?_
                            refine T_calcA (h := ?_)
                            try simp only [Act.put, List.setIfInBounds_toArray, List.set_cons_zero, List.set_cons_succ]
                            refine T_calcA (h := ?_)
                            try simp only [Act.put, List.setIfInBounds_toArray, List.set_cons_zero, List.set_cons_succ]
                            refine T_calcA (h := ?_)
                            try simp only [Act.put, List.setIfInBounds_toArray, List.set_cons_zero, List.set_cons_succ]
                            refine T_load1A (hu := Tryz.underlying39) (h := ?_)
                            try simp only [Act.put, List.setIfInBounds_toArray, List.set_cons_zero, List.set_cons_succ]
                            refine T_calcA (h := ?_)
                            try simp only [Act.put, List.setIfInBounds_toArray, List.set_cons_zero, List.set_cons_succ]
                            refine T_load1A (hu := Tryz.underlying39) (h := ?_)
                            try simp only [Act.put, List.setIfInBounds_toArray, List.set_cons_zero, List.set_cons_succ]
                            refine T_fork (T_alt (by simp only [List.getElem?_toArray, List.getElem?_cons_succ, List.getElem?_cons_zero]; rfl) (by rfl) (fun K hK => ?_) (T_alt (by simp only [List.getElem?_toArray, List.getElem?_cons_succ, List.getElem?_cons_zero]; rfl) (by rfl) (fun K hK => ?_) T_none))
                            (go_wp2_with (first | (go_at_call 12; (with_reducible refine (probing_any _ _).mono ?_); rintro e w7 ⟨rfl, hb7⟩; (first | (have D4 : Hid (DFs w7 C D M VB VU n1 s mt K' cs th va E w0) := Lib.hid (D6.out.drew.later hb7); have X4 : Hid (Blk w7 X 41 #[.int .u64 (x' : Int), .int .u64 vv, .int .u64 (h : Int)]) := Lib.hid (X6.out.drew.below hb7 X6.out.drew.lt)) | (have D4 : Hid (DFs w7 C D M VB VU n1 s mt (KP K' w6.heap.size) cs th va E w0) := Lib.hid ((D6.out.drew.keepP _).later hb7); have X4 : Hid (Blk w7 X 41 #[.int .u64 (x' : Int), .int .u64 vv, .int .u64 (h : Int)]) := Lib.hid ((X6.out.drew.alloc _).below hb7 (X6.out.drew.alloc _).lt); have P4 : Hid (Blk w7 w6.heap.size 41 #[.int .u64 0, .int .u64 0, .int .u64 0]) := Lib.hid (Blk.below (Blk.new w6.drew _ _) hb7 (by simp))))) | (go_at_call 15; go_loud ((with_reducible refine (DE.out _ _ (by first | exact D4.out.z | exact (D4.out.keepP _).z)).mono ?_); rintro e w8 ⟨rfl, hz8, hc8⟩; (first | (have D5 : Hid (DFs w8 C D M VB VU n1 (s.del (x' : Int) h) _ K' cs th va E w0) := Lib.hid (D4.out.turn hz8 hc8); have X5 : Hid (Blk w8 X 41 #[.int .u64 (x' : Int), .int .u64 vv, .int .u64 (h : Int)]) := Lib.hid (X4.out.chg hc8 (fun e => e.2 HKK'.out.1))) | (have D5 : Hid (DFs w8 C D M VB VU n1 (s.del (x' : Int) h) _ (KP K' w7.heap.size) cs th va E w0) := Lib.hid ((D4.out.keepP _).turn hz8 hc8); have X5 : Hid (Blk w8 X 41 #[.int .u64 (x' : Int), .int .u64 vv, .int .u64 (h : Int)]) := Lib.hid ((X4.out.alloc _).chg hc8 (fun e => e.2 (Or.inl HKK'.out.1))); have hcX : Chg (KC K' w0.heap.size) _ w8 := hc8.mono (fun b _ e => ⟨e.1, fun e2 => e.2 (Or.inl e2)⟩); have P5 : Hid (Blk w8 w7.heap.size 41 #[.int .u64 0, .int .u64 0, .int .u64 0]) := Lib.hid ((Blk.new w7 _ _).chg hc8 (fun e => e.2 (Or.inr rfl))); have q5 := cells3 P5.out; have p50 := q5.1; have p51 := q5.2.1; have p52 := q5.2.2; clear q5; have pf5 := fun j => P5.out.frozen j; have zP5 := P5.out.lt; have hPz : C ≠ w7.heap.size ∧ VB ≠ w7.heap.size ∧ VU ≠ w7.heap.size ∧ w0.heap.size ≤ w7.heap.size ∧ X ≠ w7.heap.size := ⟨Nat.ne_of_lt D4.out.c.lt, Nat.ne_of_lt D4.out.v.b.lt, Nat.ne_of_lt D4.out.v.u.lt, D4.out.z.bel.size, Nat.ne_of_lt X4.out.lt⟩) | (have D5 : Hid (DFs w8 C D M VB VU n1 (s.del (x' : Int) h) _ (KP K' w6.heap.size) cs th va E w0) := Lib.hid (D4.out.turn hz8 hc8); have X5 : Hid (Blk w8 X 41 #[.int .u64 (x' : Int), .int .u64 vv, .int .u64 (h : Int)]) := Lib.hid (X4.out.chg hc8 (fun e => e.2 (Or.inl HKK'.out.1))); have hcX : Chg (KC K' w0.heap.size) _ w8 := hc8.mono (fun b _ e => ⟨e.1, fun e2 => e.2 (Or.inl e2)⟩); have P5 : Hid (Blk w8 w6.heap.size 41 #[.int .u64 0, .int .u64 0, .int .u64 0]) := Lib.hid (P4.out.chg hc8 (fun e => e.2 (Or.inr rfl))); have q5 := cells3 P5.out; have p50 := q5.1; have p51 := q5.2.1; have p52 := q5.2.2; clear q5; have pf5 := fun j => P5.out.frozen j; have zP5 := P5.out.lt; have hPz : C ≠ w6.heap.size ∧ VB ≠ w6.heap.size ∧ VU ≠ w6.heap.size ∧ w0.heap.size ≤ w6.heap.size ∧ X ≠ w6.heap.size := ⟨Nat.ne_of_lt D6.out.c.lt, Nat.ne_of_lt D6.out.v.b.lt, Nat.ne_of_lt D6.out.v.u.lt, D6.out.z.bel.size, Nat.ne_of_lt X6.out.lt⟩))))); refine hkI hK (h := ?_); clear hK K)
                            try simp only [Act.put, List.setIfInBounds_toArray, List.set_cons_zero, List.set_cons_succ]
                            refine T_fork (T_alt (by simp only [List.getElem?_toArray, List.getElem?_cons_succ, List.getElem?_cons_zero]; rfl) (by rfl) (fun K hK => ?_) (T_alt (by simp only [List.getElem?_toArray, List.getElem?_cons_succ, List.getElem?_cons_zero]; rfl) (by rfl) (fun K hK => ?_) T_none))
                            (go_wp2_with (first | (go_at_call 12; (with_reducible refine (probing_any _ _).mono ?_); rintro e w7 ⟨rfl, hb7⟩; (first | (have D4 : Hid (DFs w7 C D M VB VU n1 s mt K' cs th va E w0) := Lib.hid (D6.out.drew.later hb7); have X4 : Hid (Blk w7 X 41 #[.int .u64 (x' : Int), .int .u64 vv, .int .u64 (h : Int)]) := Lib.hid (X6.out.drew.below hb7 X6.out.drew.lt)) | (have D4 : Hid (DFs w7 C D M VB VU n1 s mt (KP K' w6.heap.size) cs th va E w0) := Lib.hid ((D6.out.drew.keepP _).later hb7); have X4 : Hid (Blk w7 X 41 #[.int .u64 (x' : Int), .int .u64 vv, .int .u64 (h : Int)]) := Lib.hid ((X6.out.drew.alloc _).below hb7 (X6.out.drew.alloc _).lt); have P4 : Hid (Blk w7 w6.heap.size 41 #[.int .u64 0, .int .u64 0, .int .u64 0]) := Lib.hid (Blk.below (Blk.new w6.drew _ _) hb7 (by simp))))) | (go_at_call 15; go_loud ((with_reducible refine (DE.out _ _ (by first | exact D4.out.z | exact (D4.out.keepP _).z)).mono ?_); rintro e w8 ⟨rfl, hz8, hc8⟩; (first | (have D5 : Hid (DFs w8 C D M VB VU n1 (s.del (x' : Int) h) _ K' cs th va E w0) := Lib.hid (D4.out.turn hz8 hc8); have X5 : Hid (Blk w8 X 41 #[.int .u64 (x' : Int), .int .u64 vv, .int .u64 (h : Int)]) := Lib.hid (X4.out.chg hc8 (fun e => e.2 HKK'.out.1))) | (have D5 : Hid (DFs w8 C D M VB VU n1 (s.del (x' : Int) h) _ (KP K' w7.heap.size) cs th va E w0) := Lib.hid ((D4.out.keepP _).turn hz8 hc8); have X5 : Hid (Blk w8 X 41 #[.int .u64 (x' : Int), .int .u64 vv, .int .u64 (h : Int)]) := Lib.hid ((X4.out.alloc _).chg hc8 (fun e => e.2 (Or.inl HKK'.out.1))); have hcX : Chg (KC K' w0.heap.size) _ w8 := hc8.mono (fun b _ e => ⟨e.1, fun e2 => e.2 (Or.inl e2)⟩); have P5 : Hid (Blk w8 w7.heap.size 41 #[.int .u64 0, .int .u64 0, .int .u64 0]) := Lib.hid ((Blk.new w7 _ _).chg hc8 (fun e => e.2 (Or.inr rfl))); have q5 := cells3 P5.out; have p50 := q5.1; have p51 := q5.2.1; have p52 := q5.2.2; clear q5; have pf5 := fun j => P5.out.frozen j; have zP5 := P5.out.lt; have hPz : C ≠ w7.heap.size ∧ VB ≠ w7.heap.size ∧ VU ≠ w7.heap.size ∧ w0.heap.size ≤ w7.heap.size ∧ X ≠ w7.heap.size := ⟨Nat.ne_of_lt D4.out.c.lt, Nat.ne_of_lt D4.out.v.b.lt, Nat.ne_of_lt D4.out.v.u.lt, D4.out.z.bel.size, Nat.ne_of_lt X4.out.lt⟩) | (have D5 : Hid (DFs w8 C D M VB VU n1 (s.del (x' : Int) h) _ (KP K' w6.heap.size) cs th va E w0) := Lib.hid (D4.out.turn hz8 hc8); have X5 : Hid (Blk w8 X 41 #[.int .u64 (x' : Int), .int .u64 vv, .int .u64 (h : Int)]) := Lib.hid (X4.out.chg hc8 (fun e => e.2 (Or.inl HKK'.out.1))); have hcX : Chg (KC K' w0.heap.size) _ w8 := hc8.mono (fun b _ e => ⟨e.1, fun e2 => e.2 (Or.inl e2)⟩); have P5 : Hid (Blk w8 w6.heap.size 41 #[.int .u64 0, .int .u64 0, .int .u64 0]) := Lib.hid (P4.out.chg hc8 (fun e => e.2 (Or.inr rfl))); have q5 := cells3 P5.out; have p50 := q5.1; have p51 := q5.2.1; have p52 := q5.2.2; clear q5; have pf5 := fun j => P5.out.frozen j; have zP5 := P5.out.lt; have hPz : C ≠ w6.heap.size ∧ VB ≠ w6.heap.size ∧ VU ≠ w6.heap.size ∧ w0.heap.size ≤ w6.heap.size ∧ X ≠ w6.heap.size := ⟨Nat.ne_of_lt D6.out.c.lt, Nat.ne_of_lt D6.out.v.b.lt, Nat.ne_of_lt D6.out.v.u.lt, D6.out.z.bel.size, Nat.ne_of_lt X6.out.lt⟩))))); refine hkI hK (h := ?_); clear hK K)
                            try simp only [Act.put, List.setIfInBounds_toArray, List.set_cons_zero, List.set_cons_succ]
                            refine T_calcA (h := ?_)
                            try simp only [Act.put, List.setIfInBounds_toArray, List.set_cons_zero, List.set_cons_succ]
                            refine T_calcA (h := ?_)
                            try simp only [Act.put, List.setIfInBounds_toArray, List.set_cons_zero, List.set_cons_succ]
                            refine T_calcA (h := ?_)
                            try simp only [Act.put, List.setIfInBounds_toArray, List.set_cons_zero, List.set_cons_succ]
                            refine T_doA (h := fun K hK => ?_); go_wp2_with (fail); refine hkI hK (h := ?_); clear hK K
                            try simp only [Act.put, List.setIfInBounds_toArray, List.set_cons_zero, List.set_cons_succ]
                            refine T_lastA (h := fun K hK => ?_); go_wp2_with (fail); refine hK.out _ _ ?_; clear hK K
                            try simp only [Act.put, List.setIfInBounds_toArray, List.set_cons_zero, List.set_cons_succ]
                            refine T_calcA (h := ?_)
                            try simp only [Act.put, List.setIfInBounds_toArray, List.set_cons_zero, List.set_cons_succ]
                            refine T_done ?_
                            rotate_left 1
                            (go_wp2_with (fail); refine hkI hK (h := ?_); clear hK K)
                            try simp only [Act.put, List.setIfInBounds_toArray, List.set_cons_zero, List.set_cons_succ]
                            refine T_lastA (h := fun K hK => ?_); go_wp2_with (first | (go_at_call 12; (with_reducible refine (probing_any _ _).mono ?_); rintro e w7 ⟨rfl, hb7⟩; (first | (have D4 : Hid (DFs w7 C D M VB VU n1 s mt K' cs th va E w0) := Lib.hid (D6.out.drew.later hb7); have X4 : Hid (Blk w7 X 41 #[.int .u64 (x' : Int), .int .u64 vv, .int .u64 (h : Int)]) := Lib.hid (X6.out.drew.below hb7 X6.out.drew.lt)) | (have D4 : Hid (DFs w7 C D M VB VU n1 s mt (KP K' w6.heap.size) cs th va E w0) := Lib.hid ((D6.out.drew.keepP _).later hb7); have X4 : Hid (Blk w7 X 41 #[.int .u64 (x' : Int), .int .u64 vv, .int .u64 (h : Int)]) := Lib.hid ((X6.out.drew.alloc _).below hb7 (X6.out.drew.alloc _).lt); have P4 : Hid (Blk w7 w6.heap.size 41 #[.int .u64 0, .int .u64 0, .int .u64 0]) := Lib.hid (Blk.below (Blk.new w6.drew _ _) hb7 (by simp))))) | (go_at_call 15; go_loud ((with_reducible refine (DE.out _ _ (by first | exact D4.out.z | exact (D4.out.keepP _).z)).mono ?_); rintro e w8 ⟨rfl, hz8, hc8⟩; (first | (have D5 : Hid (DFs w8 C D M VB VU n1 (s.del (x' : Int) h) _ K' cs th va E w0) := Lib.hid (D4.out.turn hz8 hc8); have X5 : Hid (Blk w8 X 41 #[.int .u64 (x' : Int), .int .u64 vv, .int .u64 (h : Int)]) := Lib.hid (X4.out.chg hc8 (fun e => e.2 HKK'.out.1))) | (have D5 : Hid (DFs w8 C D M VB VU n1 (s.del (x' : Int) h) _ (KP K' w7.heap.size) cs th va E w0) := Lib.hid ((D4.out.keepP _).turn hz8 hc8); have X5 : Hid (Blk w8 X 41 #[.int .u64 (x' : Int), .int .u64 vv, .int .u64 (h : Int)]) := Lib.hid ((X4.out.alloc _).chg hc8 (fun e => e.2 (Or.inl HKK'.out.1))); have hcX : Chg (KC K' w0.heap.size) _ w8 := hc8.mono (fun b _ e => ⟨e.1, fun e2 => e.2 (Or.inl e2)⟩); have P5 : Hid (Blk w8 w7.heap.size 41 #[.int .u64 0, .int .u64 0, .int .u64 0]) := Lib.hid ((Blk.new w7 _ _).chg hc8 (fun e => e.2 (Or.inr rfl))); have q5 := cells3 P5.out; have p50 := q5.1; have p51 := q5.2.1; have p52 := q5.2.2; clear q5; have pf5 := fun j => P5.out.frozen j; have zP5 := P5.out.lt; have hPz : C ≠ w7.heap.size ∧ VB ≠ w7.heap.size ∧ VU ≠ w7.heap.size ∧ w0.heap.size ≤ w7.heap.size ∧ X ≠ w7.heap.size := ⟨Nat.ne_of_lt D4.out.c.lt, Nat.ne_of_lt D4.out.v.b.lt, Nat.ne_of_lt D4.out.v.u.lt, D4.out.z.bel.size, Nat.ne_of_lt X4.out.lt⟩) | (have D5 : Hid (DFs w8 C D M VB VU n1 (s.del (x' : Int) h) _ (KP K' w6.heap.size) cs th va E w0) := Lib.hid (D4.out.turn hz8 hc8); have X5 : Hid (Blk w8 X 41 #[.int .u64 (x' : Int), .int .u64 vv, .int .u64 (h : Int)]) := Lib.hid (X4.out.chg hc8 (fun e => e.2 (Or.inl HKK'.out.1))); have hcX : Chg (KC K' w0.heap.size) _ w8 := hc8.mono (fun b _ e => ⟨e.1, fun e2 => e.2 (Or.inl e2)⟩); have P5 : Hid (Blk w8 w6.heap.size 41 #[.int .u64 0, .int .u64 0, .int .u64 0]) := Lib.hid (P4.out.chg hc8 (fun e => e.2 (Or.inr rfl))); have q5 := cells3 P5.out; have p50 := q5.1; have p51 := q5.2.1; have p52 := q5.2.2; clear q5; have pf5 := fun j => P5.out.frozen j; have zP5 := P5.out.lt; have hPz : C ≠ w6.heap.size ∧ VB ≠ w6.heap.size ∧ VU ≠ w6.heap.size ∧ w0.heap.size ≤ w6.heap.size ∧ X ≠ w6.heap.size := ⟨Nat.ne_of_lt D6.out.c.lt, Nat.ne_of_lt D6.out.v.b.lt, Nat.ne_of_lt D6.out.v.u.lt, D6.out.z.bel.size, Nat.ne_of_lt X6.out.lt⟩))))); refine hK.out _ _ ?_; clear hK K
                            try simp only [Act.put, List.setIfInBounds_toArray, List.set_cons_zero, List.set_cons_succ]
                            refine T_calcA (h := ?_)
                            try simp only [Act.put, List.setIfInBounds_toArray, List.set_cons_zero, List.set_cons_succ]
                            refine T_calcA (h := ?_)
                            try simp only [Act.put, List.setIfInBounds_toArray, List.set_cons_zero, List.set_cons_succ]
                            refine T_calcA (h := ?_)
                            try simp only [Act.put, List.setIfInBounds_toArray, List.set_cons_zero, List.set_cons_succ]
                            refine T_lastA (h := fun K hK => ?_); go_wp2_with (fail); refine hK.out _ _ ?_; clear hK K
                            try simp only [Act.put, List.setIfInBounds_toArray, List.set_cons_zero, List.set_cons_succ]
                            refine T_calcA (h := ?_)
                            try simp only [Act.put, List.setIfInBounds_toArray, List.set_cons_zero, List.set_cons_succ]
                            refine T_done ?_
                            rotate_left 1
                            rotate_right 2
                            rotate_left 2
                            (go_wp2_with (fail); refine hkI hK (h := ?_); clear hK K)
                            try simp only [Act.put, List.setIfInBounds_toArray, List.set_cons_zero, List.set_cons_succ]
                            refine T_doA (h := fun K hK => ?_); go_wp2_with (first | (go_at_call 12; (with_reducible refine (probing_any _ _).mono ?_); rintro e w7 ⟨rfl, hb7⟩; (first | (have D4 : Hid (DFs w7 C D M VB VU n1 s mt K' cs th va E w0) := Lib.hid (D6.out.drew.later hb7); have X4 : Hid (Blk w7 X 41 #[.int .u64 (x' : Int), .int .u64 vv, .int .u64 (h : Int)]) := Lib.hid (X6.out.drew.below hb7 X6.out.drew.lt)) | (have D4 : Hid (DFs w7 C D M VB VU n1 s mt (KP K' w6.heap.size) cs th va E w0) := Lib.hid ((D6.out.drew.keepP _).later hb7); have X4 : Hid (Blk w7 X 41 #[.int .u64 (x' : Int), .int .u64 vv, .int .u64 (h : Int)]) := Lib.hid ((X6.out.drew.alloc _).below hb7 (X6.out.drew.alloc _).lt); have P4 : Hid (Blk w7 w6.heap.size 41 #[.int .u64 0, .int .u64 0, .int .u64 0]) := Lib.hid (Blk.below (Blk.new w6.drew _ _) hb7 (by simp))))) | (go_at_call 15; go_loud ((with_reducible refine (DE.out _ _ (by first | exact D4.out.z | exact (D4.out.keepP _).z)).mono ?_); rintro e w8 ⟨rfl, hz8, hc8⟩; (first | (have D5 : Hid (DFs w8 C D M VB VU n1 (s.del (x' : Int) h) _ K' cs th va E w0) := Lib.hid (D4.out.turn hz8 hc8); have X5 : Hid (Blk w8 X 41 #[.int .u64 (x' : Int), .int .u64 vv, .int .u64 (h : Int)]) := Lib.hid (X4.out.chg hc8 (fun e => e.2 HKK'.out.1))) | (have D5 : Hid (DFs w8 C D M VB VU n1 (s.del (x' : Int) h) _ (KP K' w7.heap.size) cs th va E w0) := Lib.hid ((D4.out.keepP _).turn hz8 hc8); have X5 : Hid (Blk w8 X 41 #[.int .u64 (x' : Int), .int .u64 vv, .int .u64 (h : Int)]) := Lib.hid ((X4.out.alloc _).chg hc8 (fun e => e.2 (Or.inl HKK'.out.1))); have hcX : Chg (KC K' w0.heap.size) _ w8 := hc8.mono (fun b _ e => ⟨e.1, fun e2 => e.2 (Or.inl e2)⟩); have P5 : Hid (Blk w8 w7.heap.size 41 #[.int .u64 0, .int .u64 0, .int .u64 0]) := Lib.hid ((Blk.new w7 _ _).chg hc8 (fun e => e.2 (Or.inr rfl))); have q5 := cells3 P5.out; have p50 := q5.1; have p51 := q5.2.1; have p52 := q5.2.2; clear q5; have pf5 := fun j => P5.out.frozen j; have zP5 := P5.out.lt; have hPz : C ≠ w7.heap.size ∧ VB ≠ w7.heap.size ∧ VU ≠ w7.heap.size ∧ w0.heap.size ≤ w7.heap.size ∧ X ≠ w7.heap.size := ⟨Nat.ne_of_lt D4.out.c.lt, Nat.ne_of_lt D4.out.v.b.lt, Nat.ne_of_lt D4.out.v.u.lt, D4.out.z.bel.size, Nat.ne_of_lt X4.out.lt⟩) | (have D5 : Hid (DFs w8 C D M VB VU n1 (s.del (x' : Int) h) _ (KP K' w6.heap.size) cs th va E w0) := Lib.hid (D4.out.turn hz8 hc8); have X5 : Hid (Blk w8 X 41 #[.int .u64 (x' : Int), .int .u64 vv, .int .u64 (h : Int)]) := Lib.hid (X4.out.chg hc8 (fun e => e.2 (Or.inl HKK'.out.1))); have hcX : Chg (KC K' w0.heap.size) _ w8 := hc8.mono (fun b _ e => ⟨e.1, fun e2 => e.2 (Or.inl e2)⟩); have P5 : Hid (Blk w8 w6.heap.size 41 #[.int .u64 0, .int .u64 0, .int .u64 0]) := Lib.hid (P4.out.chg hc8 (fun e => e.2 (Or.inr rfl))); have q5 := cells3 P5.out; have p50 := q5.1; have p51 := q5.2.1; have p52 := q5.2.2; clear q5; have pf5 := fun j => P5.out.frozen j; have zP5 := P5.out.lt; have hPz : C ≠ w6.heap.size ∧ VB ≠ w6.heap.size ∧ VU ≠ w6.heap.size ∧ w0.heap.size ≤ w6.heap.size ∧ X ≠ w6.heap.size := ⟨Nat.ne_of_lt D6.out.c.lt, Nat.ne_of_lt D6.out.v.b.lt, Nat.ne_of_lt D6.out.v.u.lt, D6.out.z.bel.size, Nat.ne_of_lt X6.out.lt⟩))))); refine hkI hK (h := ?_); clear hK K
                            try simp only [Act.put, List.setIfInBounds_toArray, List.set_cons_zero, List.set_cons_succ]
                            refine T_lastA (h := fun K hK => ?_); go_wp2_with (first | (go_at_call 12; (with_reducible refine (probing_any _ _).mono ?_); rintro e w7 ⟨rfl, hb7⟩; (first | (have D4 : Hid (DFs w7 C D M VB VU n1 s mt K' cs th va E w0) := Lib.hid (D6.out.drew.later hb7); have X4 : Hid (Blk w7 X 41 #[.int .u64 (x' : Int), .int .u64 vv, .int .u64 (h : Int)]) := Lib.hid (X6.out.drew.below hb7 X6.out.drew.lt)) | (have D4 : Hid (DFs w7 C D M VB VU n1 s mt (KP K' w6.heap.size) cs th va E w0) := Lib.hid ((D6.out.drew.keepP _).later hb7); have X4 : Hid (Blk w7 X 41 #[.int .u64 (x' : Int), .int .u64 vv, .int .u64 (h : Int)]) := Lib.hid ((X6.out.drew.alloc _).below hb7 (X6.out.drew.alloc _).lt); have P4 : Hid (Blk w7 w6.heap.size 41 #[.int .u64 0, .int .u64 0, .int .u64 0]) := Lib.hid (Blk.below (Blk.new w6.drew _ _) hb7 (by simp))))) | (go_at_call 15; go_loud ((with_reducible refine (DE.out _ _ (by first | exact D4.out.z | exact (D4.out.keepP _).z)).mono ?_); rintro e w8 ⟨rfl, hz8, hc8⟩; (first | (have D5 : Hid (DFs w8 C D M VB VU n1 (s.del (x' : Int) h) _ K' cs th va E w0) := Lib.hid (D4.out.turn hz8 hc8); have X5 : Hid (Blk w8 X 41 #[.int .u64 (x' : Int), .int .u64 vv, .int .u64 (h : Int)]) := Lib.hid (X4.out.chg hc8 (fun e => e.2 HKK'.out.1))) | (have D5 : Hid (DFs w8 C D M VB VU n1 (s.del (x' : Int) h) _ (KP K' w7.heap.size) cs th va E w0) := Lib.hid ((D4.out.keepP _).turn hz8 hc8); have X5 : Hid (Blk w8 X 41 #[.int .u64 (x' : Int), .int .u64 vv, .int .u64 (h : Int)]) := Lib.hid ((X4.out.alloc _).chg hc8 (fun e => e.2 (Or.inl HKK'.out.1))); have hcX : Chg (KC K' w0.heap.size) _ w8 := hc8.mono (fun b _ e => ⟨e.1, fun e2 => e.2 (Or.inl e2)⟩); have P5 : Hid (Blk w8 w7.heap.size 41 #[.int .u64 0, .int .u64 0, .int .u64 0]) := Lib.hid ((Blk.new w7 _ _).chg hc8 (fun e => e.2 (Or.inr rfl))); have q5 := cells3 P5.out; have p50 := q5.1; have p51 := q5.2.1; have p52 := q5.2.2; clear q5; have pf5 := fun j => P5.out.frozen j; have zP5 := P5.out.lt; have hPz : C ≠ w7.heap.size ∧ VB ≠ w7.heap.size ∧ VU ≠ w7.heap.size ∧ w0.heap.size ≤ w7.heap.size ∧ X ≠ w7.heap.size := ⟨Nat.ne_of_lt D4.out.c.lt, Nat.ne_of_lt D4.out.v.b.lt, Nat.ne_of_lt D4.out.v.u.lt, D4.out.z.bel.size, Nat.ne_of_lt X4.out.lt⟩) | (have D5 : Hid (DFs w8 C D M VB VU n1 (s.del (x' : Int) h) _ (KP K' w6.heap.size) cs th va E w0) := Lib.hid (D4.out.turn hz8 hc8); have X5 : Hid (Blk w8 X 41 #[.int .u64 (x' : Int), .int .u64 vv, .int .u64 (h : Int)]) := Lib.hid (X4.out.chg hc8 (fun e => e.2 (Or.inl HKK'.out.1))); have hcX : Chg (KC K' w0.heap.size) _ w8 := hc8.mono (fun b _ e => ⟨e.1, fun e2 => e.2 (Or.inl e2)⟩); have P5 : Hid (Blk w8 w6.heap.size 41 #[.int .u64 0, .int .u64 0, .int .u64 0]) := Lib.hid (P4.out.chg hc8 (fun e => e.2 (Or.inr rfl))); have q5 := cells3 P5.out; have p50 := q5.1; have p51 := q5.2.1; have p52 := q5.2.2; clear q5; have pf5 := fun j => P5.out.frozen j; have zP5 := P5.out.lt; have hPz : C ≠ w6.heap.size ∧ VB ≠ w6.heap.size ∧ VU ≠ w6.heap.size ∧ w0.heap.size ≤ w6.heap.size ∧ X ≠ w6.heap.size := ⟨Nat.ne_of_lt D6.out.c.lt, Nat.ne_of_lt D6.out.v.b.lt, Nat.ne_of_lt D6.out.v.u.lt, D6.out.z.bel.size, Nat.ne_of_lt X6.out.lt⟩))))); refine hK.out _ _ ?_; clear hK K
                            try simp only [Act.put, List.setIfInBounds_toArray, List.set_cons_zero, List.set_cons_succ]
                            refine T_calcA (h := ?_)
                            try simp only [Act.put, List.setIfInBounds_toArray, List.set_cons_zero, List.set_cons_succ]
                            refine T_calcA (h := ?_)
                            try simp only [Act.put, List.setIfInBounds_toArray, List.set_cons_zero, List.set_cons_succ]
                            refine T_calcA (h := ?_)
                            try simp only [Act.put, List.setIfInBounds_toArray, List.set_cons_zero, List.set_cons_succ]
                            refine T_lastA (h := fun K hK => ?_); go_wp2_with (fail); refine hK.out _ _ ?_; clear hK K
                            try simp only [Act.put, List.setIfInBounds_toArray, List.set_cons_zero, List.set_cons_succ]
                            refine T_calcA (h := ?_)
                            try simp only [Act.put, List.setIfInBounds_toArray, List.set_cons_zero, List.set_cons_succ]
                            refine T_done ?_
                            rotate_left 1
                            rotate_right 3
                            all_goals (go_wp2; go_meet)
                            all_goals
                              first
                                | exact ⟨_, rfl, rfl, Blk.new _ _ _, D5.out.later ((Below.refl _ _).alloc (Nat.le_refl _) _), X5.out.alloc _⟩
                                | exact ⟨_, rfl, rfl, ((P5.out.set 0 _).set 1 _).set 2 _, D5.out.setP ⟨HKC.out.1, HKC.out.2.1, HKC.out.2.2⟩ ⟨fun e => hPz.1 e.symm, fun e => hPz.2.1 e.symm, fun e => hPz.2.2.1 e.symm, hPz.2.2.2.1⟩ (((Chg.refl _ _).set1 _ _).set1 _ _ |>.set1 _ _), X5.out.chg (((Chg.refl (fun b => b = _) _).set1 _ _).set1 _ _ |>.set1 _ _) hPz.2.2.2.2⟩
                          case rest =>
                            obtain ⟨P9, rfl, rfl, hPb, hDc, hXc⟩ := hcut
                            have DC := Lib.hid hDc
                            obtain ⟨p0, p1, p2⟩ := cells3 hPb
                            obtain ⟨f0, f1', f2'⟩ := cells3 hXc
                            have zP := hPb.lt
                            have zf := hXc.lt
                            obtain ⟨v0, v1⟩ := hDc.v.cells hxk
                            have zV0 := hDc.v.b.lt
                            have zV1 := hDc.v.u.lt
                            have vf0 := hDc.v.b.frozen x'
                            clear hPb hDc hXc DE x60 x61 x62 D6 X6
                            cases ht : th x' with
                            | true =>
                              have hv := HVA.out ht
                              rw [ht] at v0
                              rw [hv] at v1
                              clear hv ht
                              go_wp2
                              refine wp_region_seq (fun _ => False) #[⟨0, 0, 1606938044258990275541962092341162602522202993782792835301376, 16777216, 0⟩, ⟨0, 0, 3213876088517980551083924184682325205044405987565585670602752, 128, 0⟩, ⟨0, 0, 6427752177035961102167848369364650410088811975131171341205504, 1048576, 0⟩, ⟨4, 4, 12855504354071922204335696738729300820177623950262342682411008, 6427752177035961102167848369364650410088811975131171341205504, 1⟩, ⟨10, 14, 25711008708143844408671393477458601640355247900524685364822016, 16069380442589902755419620923411626025222029937827928353013760, 0⟩, ⟨16, 30, 51422017416287688817342786954917203280710495801049370729644032, 25711008708143844408671393477458601640355247900524685364822016, 1⟩, ⟨33, 63, 102844034832575377634685573909834406561420991602098741459288064, 53028955460546679092884749047258365883232698794832163564945408, 0⟩, ⟨64, 127, 205688069665150755269371147819668813122841983204197482918576128, 102844034832575377634685573909834406561420991602098741459288064, 0⟩, ⟨128, 255, 411376139330301510538742295639337626245683966408394965837152256, 205688069665150755269371147819668813122841983204197482935353344, 0⟩, ⟨384, 511, 822752278660603021077484591278675252491367932816789931674304512, 617064208995452265808113443459006439368525949612592448755728384, 0⟩, ⟨512, 1023, 1645504557321206042154969182557350504982735865633579863348609024, 822752278660603021077484591278675252491367932816789931682693120, 0⟩, ⟨1536, 2047, 3291009114642412084309938365114701009965471731267159726697218048, 2468256835981809063232453773836025757474103798450369795022913536, 1⟩, ⟨512, 1023, 6582018229284824168619876730229402019930943462534319453394436096, 822752278660603021077484591278675252491367932816789931674304768, 0⟩, ⟨512, 1023, 13164036458569648337239753460458804039861886925068638906788872192, 822752278660603021077484591278675252491367932816789931675353088, 0⟩, ⟨8704, 9215, 26328072917139296674479506920917608079723773850137277813577744384, 13986788737230251358317238051737479292353254857885428838463176704, 1⟩, ⟨20992, 29695, 52656145834278593348959013841835216159447547700274555627155488768, 33732843425084723864176868242425685352146085245488387198646484992, 0⟩, ⟨33280, 62463, 105312291668557186697918027683670432318895095400549111254310977536, 53478898112939196370036498433113891411938915633091345558829793280, 1⟩, ⟨68096, 131071, 210624583337114373395836055367340864637790190801098222508621955072, 109426053061860201803305450640063808581351935064633060912682500096, 0⟩, ⟨131712, 262143, 421249166674228746791672110734681729275580381602196445017243910144, 211653023685440127172182911106439208703404400717119209923214835712, 0⟩, ⟨262272, 524287, 842498333348457493583344221469363458551160763204392890034487820288, 421454854743893897546941481882501398088703223585400642500162486272, 0⟩] 84008 [(0, 0), (1, 0), (2, 0), (3, 1), (4, 0), (5, 1), (6, 0), (7, 0), (8, 0), (9, 0), (10, 0), (11, 1), (12, 0), (13, 0), (14, 1), (15, 0), (16, 1), (17, 0), (18, 0), (19, 0)] (by kernel_rfl) (by kernel_rfl) (by kernel_rfl) (by kernel_rfl) (by kernel_rfl) (by kernel_rfl) (fun c a d v w h => by cases d <;> exact h) ?_
                              refine seq_calcA (h := ?_)
                              try simp only [Act.put, List.setIfInBounds_toArray, List.set_cons_zero, List.set_cons_succ]
                              refine seq_calcA (h := ?_)
                              try simp only [Act.put, List.setIfInBounds_toArray, List.set_cons_zero, List.set_cons_succ]
                              refine seq_calcA (h := ?_)
                              try simp only [Act.put, List.setIfInBounds_toArray, List.set_cons_zero, List.set_cons_succ]
                              refine seq_load1A (hu := Tryz.underlying39) (h := ?_)
                              try simp only [Act.put, List.setIfInBounds_toArray, List.set_cons_zero, List.set_cons_succ]
                              refine seq_calcA (h := ?_)
                              try simp only [Act.put, List.setIfInBounds_toArray, List.set_cons_zero, List.set_cons_succ]
                              refine seq_load1A (hu := Tryz.underlying4) (h := ?_)
                              try simp only [Act.put, List.setIfInBounds_toArray, List.set_cons_zero, List.set_cons_succ]
                              refine seq_calcA (h := ?_)
                              try simp only [Act.put, List.setIfInBounds_toArray, List.set_cons_zero, List.set_cons_succ]
                              refine seq_calcA (h := ?_)
                              try simp only [Act.put, List.setIfInBounds_toArray, List.set_cons_zero, List.set_cons_succ]
                              first
                                | (refine seq_skipA (h := ?_))
                                | (refine seq_calcA (h := ?_))
                              try simp only [Act.put, List.setIfInBounds_toArray, List.set_cons_zero, List.set_cons_succ]
                              first
                                | (refine seq_skipA (h := ?_))
                                | (refine seq_calcA (h := ?_))
                              try simp only [Act.put, List.setIfInBounds_toArray, List.set_cons_zero, List.set_cons_succ]
                              first
                                | (refine seq_skipA (h := ?_))
                                | (refine seq_calcA (h := ?_))
                              try simp only [Act.put, List.setIfInBounds_toArray, List.set_cons_zero, List.set_cons_succ]
                              first
                                | (refine seq_skipA (h := ?_))
                                | (refine seq_load1A (hu := Tryz.underlying39) (h := ?_))
                              try simp only [Act.put, List.setIfInBounds_toArray, List.set_cons_zero, List.set_cons_succ]
                              first
                                | (refine seq_skipA (h := ?_))
                                | (refine seq_calcA (h := ?_))
                              try simp only [Act.put, List.setIfInBounds_toArray, List.set_cons_zero, List.set_cons_succ]
                              first
                                | (refine seq_skipA (h := ?_))
                                | (refine seq_calcA (h := ?_))
                              try simp only [Act.put, List.setIfInBounds_toArray, List.set_cons_zero, List.set_cons_succ]
                              first
                                | (refine seq_skipA (h := ?_))
                                | (refine seq_load1A (hu := Tryz.underlying39) (h := ?_))
                              try simp only [Act.put, List.setIfInBounds_toArray, List.set_cons_zero, List.set_cons_succ]
                              first
                                | (refine seq_skipA (h := ?_))
                                | (refine seq_calcA (h := ?_))
                              try simp only [Act.put, List.setIfInBounds_toArray, List.set_cons_zero, List.set_cons_succ]
                              first
                                | (refine seq_skipA (h := ?_))
                                | (refine seq_load1A (hu := Tryz.underlying39) (h := ?_))
                              try simp only [Act.put, List.setIfInBounds_toArray, List.set_cons_zero, List.set_cons_succ]
                              first
                                | (refine seq_skipA (h := ?_))
                                | (refine seq_calcA (h := ?_))
                              try simp only [Act.put, List.setIfInBounds_toArray, List.set_cons_zero, List.set_cons_succ]
                              first
                                | (refine seq_skipA (h := ?_))
                                | (refine seq_calcA (h := ?_))
                              try simp only [Act.put, List.setIfInBounds_toArray, List.set_cons_zero, List.set_cons_succ]
                              refine seq_calcA (h := ?_)
                              try simp only [Act.put, List.setIfInBounds_toArray, List.set_cons_zero, List.set_cons_succ]
                              refine seq_nil ?_
                              go_wp2
                              go_meet
                              obtain ⟨c', P', V', hy⟩ := HYN.out
                              exact ⟨_, _, st, c', P', V', upd th x' false, va, rfl, ((DC.out.later (Below.refl _ _).drew).setB hxk false), hy.more (by omega), (congrArg (· + st) (del_left _ _ _)).trans HL.out, probe_a2 HM2.out (by omega) _⟩
                            | false =>
                              rw [ht] at v0
                              clear ht
                              go_wp2
                              refine wp_region_seq (fun _ => False) #[⟨0, 0, 1606938044258990275541962092341162602522202993782792835301376, 16777216, 0⟩, ⟨0, 0, 3213876088517980551083924184682325205044405987565585670602752, 128, 0⟩, ⟨0, 0, 6427752177035961102167848369364650410088811975131171341205504, 1048576, 0⟩, ⟨4, 4, 12855504354071922204335696738729300820177623950262342682411008, 6427752177035961102167848369364650410088811975131171341205504, 1⟩, ⟨10, 14, 25711008708143844408671393477458601640355247900524685364822016, 16069380442589902755419620923411626025222029937827928353013760, 0⟩, ⟨16, 30, 51422017416287688817342786954917203280710495801049370729644032, 25711008708143844408671393477458601640355247900524685364822016, 1⟩, ⟨33, 63, 102844034832575377634685573909834406561420991602098741459288064, 53028955460546679092884749047258365883232698794832163564945408, 0⟩, ⟨64, 127, 205688069665150755269371147819668813122841983204197482918576128, 102844034832575377634685573909834406561420991602098741459288064, 0⟩, ⟨128, 255, 411376139330301510538742295639337626245683966408394965837152256, 205688069665150755269371147819668813122841983204197482935353344, 0⟩, ⟨384, 511, 822752278660603021077484591278675252491367932816789931674304512, 617064208995452265808113443459006439368525949612592448755728384, 0⟩, ⟨512, 1023, 1645504557321206042154969182557350504982735865633579863348609024, 822752278660603021077484591278675252491367932816789931682693120, 0⟩, ⟨1536, 2047, 3291009114642412084309938365114701009965471731267159726697218048, 2468256835981809063232453773836025757474103798450369795022913536, 1⟩, ⟨512, 1023, 6582018229284824168619876730229402019930943462534319453394436096, 822752278660603021077484591278675252491367932816789931674304768, 0⟩, ⟨512, 1023, 13164036458569648337239753460458804039861886925068638906788872192, 822752278660603021077484591278675252491367932816789931675353088, 0⟩, ⟨8704, 9215, 26328072917139296674479506920917608079723773850137277813577744384, 13986788737230251358317238051737479292353254857885428838463176704, 1⟩, ⟨20992, 29695, 52656145834278593348959013841835216159447547700274555627155488768, 33732843425084723864176868242425685352146085245488387198646484992, 0⟩, ⟨33280, 62463, 105312291668557186697918027683670432318895095400549111254310977536, 53478898112939196370036498433113891411938915633091345558829793280, 1⟩, ⟨68096, 131071, 210624583337114373395836055367340864637790190801098222508621955072, 109426053061860201803305450640063808581351935064633060912682500096, 0⟩, ⟨131712, 262143, 421249166674228746791672110734681729275580381602196445017243910144, 211653023685440127172182911106439208703404400717119209923214835712, 0⟩, ⟨262272, 524287, 842498333348457493583344221469363458551160763204392890034487820288, 421454854743893897546941481882501398088703223585400642500162486272, 0⟩] 84008 [(0, 0), (1, 0), (2, 0), (3, 1), (4, 0), (5, 1), (6, 0), (7, 0), (8, 0), (9, 0), (10, 0), (11, 1), (12, 0), (13, 0), (14, 1), (15, 0), (16, 1), (17, 0), (18, 0), (19, 0)] (by kernel_rfl) (by kernel_rfl) (by kernel_rfl) (by kernel_rfl) (by kernel_rfl) (by kernel_rfl) (fun c a d v w h => by cases d <;> exact h) ?_
                              refine seq_calcA (h := ?_)
                              try simp only [Act.put, List.setIfInBounds_toArray, List.set_cons_zero, List.set_cons_succ]
                              refine seq_calcA (h := ?_)
                              try simp only [Act.put, List.setIfInBounds_toArray, List.set_cons_zero, List.set_cons_succ]
                              refine seq_calcA (h := ?_)
                              try simp only [Act.put, List.setIfInBounds_toArray, List.set_cons_zero, List.set_cons_succ]
                              refine seq_load1A (hu := Tryz.underlying39) (h := ?_)
                              try simp only [Act.put, List.setIfInBounds_toArray, List.set_cons_zero, List.set_cons_succ]
                              refine seq_calcA (h := ?_)
                              try simp only [Act.put, List.setIfInBounds_toArray, List.set_cons_zero, List.set_cons_succ]
                              refine seq_load1A (hu := Tryz.underlying4) (h := ?_)
                              try simp only [Act.put, List.setIfInBounds_toArray, List.set_cons_zero, List.set_cons_succ]
                              refine seq_calcA (h := ?_)
                              try simp only [Act.put, List.setIfInBounds_toArray, List.set_cons_zero, List.set_cons_succ]
                              refine seq_calcA (h := ?_)
                              try simp only [Act.put, List.setIfInBounds_toArray, List.set_cons_zero, List.set_cons_succ]
                              first
                                | (refine seq_skipA (h := ?_))
                                | (refine seq_calcA (h := ?_))
                              try simp only [Act.put, List.setIfInBounds_toArray, List.set_cons_zero, List.set_cons_succ]
                              first
                                | (refine seq_skipA (h := ?_))
                                | (refine seq_calcA (h := ?_))
                              try simp only [Act.put, List.setIfInBounds_toArray, List.set_cons_zero, List.set_cons_succ]
                              first
                                | (refine seq_skipA (h := ?_))
                                | (refine seq_calcA (h := ?_))
                              try simp only [Act.put, List.setIfInBounds_toArray, List.set_cons_zero, List.set_cons_succ]
                              first
                                | (refine seq_skipA (h := ?_))
                                | (refine seq_load1A (hu := Tryz.underlying39) (h := ?_))
                              try simp only [Act.put, List.setIfInBounds_toArray, List.set_cons_zero, List.set_cons_succ]
                              first
                                | (refine seq_skipA (h := ?_))
                                | (refine seq_calcA (h := ?_))
                              try simp only [Act.put, List.setIfInBounds_toArray, List.set_cons_zero, List.set_cons_succ]
                              first
                                | (refine seq_skipA (h := ?_))
                                | (refine seq_calcA (h := ?_))
                              try simp only [Act.put, List.setIfInBounds_toArray, List.set_cons_zero, List.set_cons_succ]
                              first
                                | (refine seq_skipA (h := ?_))
                                | (refine seq_load1A (hu := Tryz.underlying39) (h := ?_))
                              try simp only [Act.put, List.setIfInBounds_toArray, List.set_cons_zero, List.set_cons_succ]
                              first
                                | (refine seq_skipA (h := ?_))
                                | (refine seq_calcA (h := ?_))
                              try simp only [Act.put, List.setIfInBounds_toArray, List.set_cons_zero, List.set_cons_succ]
                              first
                                | (refine seq_skipA (h := ?_))
                                | (refine seq_load1A (hu := Tryz.underlying39) (h := ?_))
                              try simp only [Act.put, List.setIfInBounds_toArray, List.set_cons_zero, List.set_cons_succ]
                              first
                                | (refine seq_skipA (h := ?_))
                                | (refine seq_calcA (h := ?_))
                              try simp only [Act.put, List.setIfInBounds_toArray, List.set_cons_zero, List.set_cons_succ]
                              first
                                | (refine seq_skipA (h := ?_))
                                | (refine seq_calcA (h := ?_))
                              try simp only [Act.put, List.setIfInBounds_toArray, List.set_cons_zero, List.set_cons_succ]
                              refine seq_calcA (h := ?_)
                              try simp only [Act.put, List.setIfInBounds_toArray, List.set_cons_zero, List.set_cons_succ]
                              refine seq_nil ?_
                              go_wp2
                              go_meet
                              obtain ⟨c', P', V', hy⟩ := HYN.out
                              exact ⟨_, _, st, c', P', V', upd th x' false, va, rfl, ((DC.out.later (Below.refl _ _).drew).setB hxk false), hy.more (by omega), (congrArg (· + st) (del_left _ _ _)).trans HL.out, probe_a2 HM2.out (by omega) _⟩
                      · have q2' : (kd == 2) = false := by simpa using q2
                        as_aux_lemma =>
                          obtain ⟨ev, hys, hls⟩ := HY.out.stp HHb.out (by omega)
                          have HYS := Lib.hid hys
                          have HLS := Lib.hid hls
                          have ST := Lib.hid (fun (w' : World) (h' : D1s w' D s false M mt K' E w0) => h'.step ev)
                          have A2 := Lib.hid (stpM_a2 (s := s) HM2.out (by omega))
                          clear hys hls ev x60 x61 x62
                          by_cases h0 : 0 < s.left
                          · rw [decide_eq_true h0] at ST
                            have HA2 := Lib.hid (A2.out.1 h0)
                            have HLE := Lib.hid (show s.stp.left + (st + 1) = L0 from by rw [HLS.out]; have := HL.out; omega)
                            clear h0
                            go_wp2_with (go_at_call 30; (with_reducible refine (ST.out _ D6.out.z).mono ?_); rintro e w7 ⟨rfl, hz7, hc7⟩; have D7 := Lib.hid (D6.out.turn hz7 hc7))
                            go_meet
                            exact ⟨_, _, st + 1, c, P, V, th, va, by go_num, D7.out, HYS.out.more (by omega), HLE.out, HA2.out⟩
                          · rw [decide_eq_false h0] at ST
                            have h00 : s.left = 0 := by omega
                            have HA2 := Lib.hid (A2.out.2 h00)
                            have HLE := Lib.hid (show s.stp.left + st = L0 from by rw [HLS.out]; have := HL.out; omega)
                            clear h0 h00
                            go_wp2_with (go_at_call 30; (with_reducible refine (ST.out _ D6.out.z).mono ?_); rintro e w7 ⟨rfl, hz7, hc7⟩; have D7 := Lib.hid (D6.out.turn hz7 hc7))
                            go_meet
                            exact ⟨_, _, st, c, P, V, th, va, rfl, D7.out, HYS.out.more (by omega), HLE.out, HA2.out⟩
                  case rest =>
                    obtain ⟨s', mt', st', c', P', V', th', va', rfl, hDc, hYc, hLc, hMc⟩ := hcut
                    as_aux_lemma =>
                      have DC := Lib.hid hDc
                      have YC := Lib.hid hYc
                      have HLc := Lib.hid hLc
                      have HMc := Lib.hid hMc
                      have hst' : st' ≤ 1000 := by omega
                      clear hDc hYc hLc hMc x60 x61 x62 D6 X6 HY HL HM2 hXz hX0 hXVB hXVU HKK'
                      have hccc := DC.out.c
                      rw [HCS.out] at hccc
                      have CC := Lib.hid hccc
                      obtain ⟨r0, r1, r2, r3, r4, zC⟩ := cased_cells hccc
                      clear hccc
                      go_wp2
                      go_loopg [227] n1 (fun gk v227 wr => ∃ k : Nat, k + gk = n1 ∧ v227 = .int .i64 (k : Int) ∧ Below wc.heap.size wc wr)
                      case atStart => exact ⟨0, by omega, rfl, Below.refl _ _⟩
                      case round =>
                        clear r0 r1 r2 r3 r4 zC
                        obtain ⟨k, hk, rfl, hB⟩ := hrel
                        have KB := Lib.hid hB
                        have DK := Lib.hid (DC.out.later hB)
                        have CK := Lib.hid (CC.out.below hB CC.out.lt)
                        obtain ⟨r0, r1, r2, r3, r4, zC⟩ := cased_cells CK.out
                        clear hB
                        by_cases hkn : k < n1
                        · have hkI : (k : Int) < (n1 : Int) := by omega
                          have hGk := HG.out k hkn
                          have hHk := HH.out k hkn
                          have gk' := HC.out wr DK.out.z.bel k hkn
                          have zb := Nat.lt_of_lt_of_le hb1z DK.out.z.bel.size
                          obtain ⟨hh, hhk⟩ : ∃ hh, hh = G k := ⟨_, rfl⟩
                          rw [← hhk] at hGk hHk gk'
                          have FI := Lib.hid (fun (w' : World) (h' : D1s w' D s' false M mt' K' E w0) => h'.findN (k : Int) hh hGk 0 0 0)
                          have hp := YC.out.k.l.p (k : Int)
                          have he := YC.out.k.l.e (k : Int)
                          rw [hHk] at hp he
                          obtain ⟨ht1, ht2⟩ := YC.out.t k hkn
                          rw [hp, he, ← ht1] at FI
                          generalize (V' (k : Int)).key = vk0 at *
                          generalize (V' (k : Int)).hash = vk2 at *
                          generalize (V' (k : Int)).val = vk1 at *
                          have HT2 := Lib.hid ht2
                          clear hhk hHk hp he ht1 ht2
                          have hws : IntKind.u64.wrap (k : Int) = (k : Int) := by rw [IntKind.wrap_u64]; omega
                          go_upto_region 44 with (go_at_call 17; (with_reducible refine (FI.out _ DK.out.z).mono ?_); rintro e w5 ⟨rfl, hb5⟩; have B5 := Lib.hid hb5)
                          refine wp_at (fun w9 hw9 => ?_)
                          have hb9 : Below wr.heap.size wr w9 := by rw [hw9]; exact B5.out.alloc B5.out.size _
                          obtain ⟨P9, hP9⟩ : ∃ P9, P9 = w5.heap.size := ⟨_, rfl⟩
                          have P9b : Blk w9 P9 41 #[.int .u64 vk0, .int .u64 vk1, .int .u64 vk2] := by rw [hw9, hP9]; exact Blk.new _ _ _
                          obtain ⟨p0, p1, p2⟩ := cells3 P9b
                          have zP := P9b.lt
                          have D9 := DK.out.later hb9
                          obtain ⟨y0, y1⟩ := D9.v.cells hkn
                          have zV0 := D9.v.b.lt
                          have zV1 := D9.v.u.lt
                          have B9 := Lib.hid (KB.out.trans (hb9.mono KB.out.size))
                          rw [← hP9]
                          replace hw9 := Lib.hid hw9
                          replace hP9 := Lib.hid hP9
                          clear hb9 P9b D9 B5 hb5 r0 r1 r2 r3 r4 zC gk' zb
                          cases ht : th' k with
                          | true =>
                            have hv := HT2.out ht
                            rw [ht] at y0
                            rw [hv] at y1
                            clear hv ht
                            refine wp_region_seq (fun _ => False) #[⟨0, 0, 14134776518227074636666380005943348126619871175004951664972849610340958208, 134217728, 0⟩, ⟨0, 0, 28269553036454149273332760011886696253239742350009903329945699220681916416, 128, 0⟩, ⟨0, 0, 56539106072908298546665520023773392506479484700019806659891398441363832832, 33554432, 0⟩, ⟨6, 6, 113078212145816597093331040047546785012958969400039613319782796882727665664, 84808659109362447819998280035660088759719227050029709989837097662045749248, 0⟩, ⟨8, 14, 226156424291633194186662080095093570025917938800079226639565593765455331328, 113078212145816597093331040047546785012958969400039613319782796882727665664, 1⟩, ⟨17, 31, 452312848583266388373324160190187140051835877600158453279131187530910662656, 240291200809860268823328460101036918152537809975084178304538443375796289536, 0⟩, ⟨32, 63, 904625697166532776746648320380374280103671755200316906558262375061821325312, 452312848583266388373324160190187140051835877600158453279131187530910662656, 0⟩, ⟨64, 127, 1809251394333065553493296640760748560207343510400633813116524750123642650624, 904625697166532776746648320380374280103671755200316906558262375061955543040, 0⟩, ⟨192, 255, 3618502788666131106986593281521497120414687020801267626233049500247285301248, 2713877091499598330239944961141122840311015265600950719674787125185463975936, 0⟩, ⟨256, 511, 7237005577332262213973186563042994240829374041602535252466099000494570602496, 3618502788666131106986593281521497120414687020801267626233049500247352410112, 0⟩, ⟨768, 1023, 14474011154664524427946373126085988481658748083205070504932198000989141204992, 10855508365998393320959779844564491361244061062403802878699148500741855903744, 1⟩, ⟨256, 511, 28948022309329048855892746252171976963317496166410141009864396001978282409984, 3618502788666131106986593281521497120414687020801267626233049500247285301504, 0⟩, ⟨256, 511, 57896044618658097711785492504343953926634992332820282019728792003956564819968, 3618502788666131106986593281521497120414687020801267626233049500247318855680, 0⟩, ⟨6400, 6655, 115792089237316195423570985008687907853269984665640564039457584007913129639936, 90462569716653277674664832038037428010367175520031690655826237506182132531200, 0⟩, ⟨8448, 14847, 231584178474632390847141970017375815706539969331281128078915168015826259279872, 119410592025982326530557578290209404973684671686441831665690633508160414941184, 1⟩, ⟨17664, 32767, 463168356949264781694283940034751631413079938662562256157830336031652518559744, 249676692417963046382074936424983301308613404435287466210080415517062685786112, 0⟩, ⟨33088, 65535, 926336713898529563388567880069503262826159877325124512315660672063305037119488, 467691485435097445578017181636653502813598297438563840690621647906961625186304, 0⟩, ⟨65600, 131071, 1852673427797059126777135760139006525652319754650249024631321344126610074238976, 927241339595696096165314528389883637106263549080324829222218934438366858444800, 0⟩] 17424 [(0, 0), (1, 0), (2, 0), (3, 0), (4, 1), (5, 0), (6, 0), (7, 0), (8, 0), (9, 0), (10, 1), (11, 0), (12, 0), (13, 0), (14, 1), (15, 0), (16, 0), (17, 0)] (by kernel_rfl) (by decide +kernel) (by kernel_rfl) (by kernel_rfl) (by decide +kernel) (by decide +kernel) (fun c a d v w h => by cases d <;> exact h) ?_
                            refine seq_calcA (h := ?_)
                            try simp only [Act.put, List.setIfInBounds_toArray, List.set_cons_zero, List.set_cons_succ]
                            refine seq_calcA (h := ?_)
                            try simp only [Act.put, List.setIfInBounds_toArray, List.set_cons_zero, List.set_cons_succ]
                            refine seq_calcA (h := ?_)
                            try simp only [Act.put, List.setIfInBounds_toArray, List.set_cons_zero, List.set_cons_succ]
                            refine seq_calcA (h := ?_)
                            try simp only [Act.put, List.setIfInBounds_toArray, List.set_cons_zero, List.set_cons_succ]
                            refine seq_load1A (hu := Tryz.underlying4) (h := ?_)
                            try simp only [Act.put, List.setIfInBounds_toArray, List.set_cons_zero, List.set_cons_succ]
                            refine seq_calcA (h := ?_)
                            try simp only [Act.put, List.setIfInBounds_toArray, List.set_cons_zero, List.set_cons_succ]
                            refine seq_calcA (h := ?_)
                            try simp only [Act.put, List.setIfInBounds_toArray, List.set_cons_zero, List.set_cons_succ]
                            first
                              | (refine seq_skipA (h := ?_))
                              | (refine seq_calcA (h := ?_))
                            try simp only [Act.put, List.setIfInBounds_toArray, List.set_cons_zero, List.set_cons_succ]
                            first
                              | (refine seq_skipA (h := ?_))
                              | (refine seq_calcA (h := ?_))
                            try simp only [Act.put, List.setIfInBounds_toArray, List.set_cons_zero, List.set_cons_succ]
                            first
                              | (refine seq_skipA (h := ?_))
                              | (refine seq_calcA (h := ?_))
                            try simp only [Act.put, List.setIfInBounds_toArray, List.set_cons_zero, List.set_cons_succ]
                            first
                              | (refine seq_skipA (h := ?_))
                              | (refine seq_load1A (hu := Tryz.underlying39) (h := ?_))
                            try simp only [Act.put, List.setIfInBounds_toArray, List.set_cons_zero, List.set_cons_succ]
                            first
                              | (refine seq_skipA (h := ?_))
                              | (refine seq_calcA (h := ?_))
                            try simp only [Act.put, List.setIfInBounds_toArray, List.set_cons_zero, List.set_cons_succ]
                            first
                              | (refine seq_skipA (h := ?_))
                              | (refine seq_calcA (h := ?_))
                            try simp only [Act.put, List.setIfInBounds_toArray, List.set_cons_zero, List.set_cons_succ]
                            first
                              | (refine seq_skipA (h := ?_))
                              | (refine seq_calcA (h := ?_))
                            try simp only [Act.put, List.setIfInBounds_toArray, List.set_cons_zero, List.set_cons_succ]
                            first
                              | (refine seq_skipA (h := ?_))
                              | (refine seq_load1A (hu := Tryz.underlying39) (h := ?_))
                            try simp only [Act.put, List.setIfInBounds_toArray, List.set_cons_zero, List.set_cons_succ]
                            first
                              | (refine seq_skipA (h := ?_))
                              | (refine seq_calcA (h := ?_))
                            try simp only [Act.put, List.setIfInBounds_toArray, List.set_cons_zero, List.set_cons_succ]
                            first
                              | (refine seq_skipA (h := ?_))
                              | (refine seq_calcA (h := ?_))
                            try simp only [Act.put, List.setIfInBounds_toArray, List.set_cons_zero, List.set_cons_succ]
                            refine seq_calcA (h := ?_)
                            try simp only [Act.put, List.setIfInBounds_toArray, List.set_cons_zero, List.set_cons_succ]
                            refine seq_nil ?_
                            go_wp2
                            go_roundg (gk - 1)
                            case measure => omega
                            case rel => exact ⟨k + 1, by omega, by go_num, B9.out.trans (Below.refl _ _).drew⟩
                          | false =>
                            rw [ht] at y0
                            clear ht
                            refine wp_region_seq (fun _ => False) #[⟨0, 0, 14134776518227074636666380005943348126619871175004951664972849610340958208, 134217728, 0⟩, ⟨0, 0, 28269553036454149273332760011886696253239742350009903329945699220681916416, 128, 0⟩, ⟨0, 0, 56539106072908298546665520023773392506479484700019806659891398441363832832, 33554432, 0⟩, ⟨6, 6, 113078212145816597093331040047546785012958969400039613319782796882727665664, 84808659109362447819998280035660088759719227050029709989837097662045749248, 0⟩, ⟨8, 14, 226156424291633194186662080095093570025917938800079226639565593765455331328, 113078212145816597093331040047546785012958969400039613319782796882727665664, 1⟩, ⟨17, 31, 452312848583266388373324160190187140051835877600158453279131187530910662656, 240291200809860268823328460101036918152537809975084178304538443375796289536, 0⟩, ⟨32, 63, 904625697166532776746648320380374280103671755200316906558262375061821325312, 452312848583266388373324160190187140051835877600158453279131187530910662656, 0⟩, ⟨64, 127, 1809251394333065553493296640760748560207343510400633813116524750123642650624, 904625697166532776746648320380374280103671755200316906558262375061955543040, 0⟩, ⟨192, 255, 3618502788666131106986593281521497120414687020801267626233049500247285301248, 2713877091499598330239944961141122840311015265600950719674787125185463975936, 0⟩, ⟨256, 511, 7237005577332262213973186563042994240829374041602535252466099000494570602496, 3618502788666131106986593281521497120414687020801267626233049500247352410112, 0⟩, ⟨768, 1023, 14474011154664524427946373126085988481658748083205070504932198000989141204992, 10855508365998393320959779844564491361244061062403802878699148500741855903744, 1⟩, ⟨256, 511, 28948022309329048855892746252171976963317496166410141009864396001978282409984, 3618502788666131106986593281521497120414687020801267626233049500247285301504, 0⟩, ⟨256, 511, 57896044618658097711785492504343953926634992332820282019728792003956564819968, 3618502788666131106986593281521497120414687020801267626233049500247318855680, 0⟩, ⟨6400, 6655, 115792089237316195423570985008687907853269984665640564039457584007913129639936, 90462569716653277674664832038037428010367175520031690655826237506182132531200, 0⟩, ⟨8448, 14847, 231584178474632390847141970017375815706539969331281128078915168015826259279872, 119410592025982326530557578290209404973684671686441831665690633508160414941184, 1⟩, ⟨17664, 32767, 463168356949264781694283940034751631413079938662562256157830336031652518559744, 249676692417963046382074936424983301308613404435287466210080415517062685786112, 0⟩, ⟨33088, 65535, 926336713898529563388567880069503262826159877325124512315660672063305037119488, 467691485435097445578017181636653502813598297438563840690621647906961625186304, 0⟩, ⟨65600, 131071, 1852673427797059126777135760139006525652319754650249024631321344126610074238976, 927241339595696096165314528389883637106263549080324829222218934438366858444800, 0⟩] 17424 [(0, 0), (1, 0), (2, 0), (3, 0), (4, 1), (5, 0), (6, 0), (7, 0), (8, 0), (9, 0), (10, 1), (11, 0), (12, 0), (13, 0), (14, 1), (15, 0), (16, 0), (17, 0)] (by kernel_rfl) (by decide +kernel) (by kernel_rfl) (by kernel_rfl) (by decide +kernel) (by decide +kernel) (fun c a d v w h => by cases d <;> exact h) ?_
                            refine seq_calcA (h := ?_)
                            try simp only [Act.put, List.setIfInBounds_toArray, List.set_cons_zero, List.set_cons_succ]
                            refine seq_calcA (h := ?_)
                            try simp only [Act.put, List.setIfInBounds_toArray, List.set_cons_zero, List.set_cons_succ]
                            refine seq_calcA (h := ?_)
                            try simp only [Act.put, List.setIfInBounds_toArray, List.set_cons_zero, List.set_cons_succ]
                            refine seq_calcA (h := ?_)
                            try simp only [Act.put, List.setIfInBounds_toArray, List.set_cons_zero, List.set_cons_succ]
                            refine seq_load1A (hu := Tryz.underlying4) (h := ?_)
                            try simp only [Act.put, List.setIfInBounds_toArray, List.set_cons_zero, List.set_cons_succ]
                            refine seq_calcA (h := ?_)
                            try simp only [Act.put, List.setIfInBounds_toArray, List.set_cons_zero, List.set_cons_succ]
                            refine seq_calcA (h := ?_)
                            try simp only [Act.put, List.setIfInBounds_toArray, List.set_cons_zero, List.set_cons_succ]
                            first
                              | (refine seq_skipA (h := ?_))
                              | (refine seq_calcA (h := ?_))
                            try simp only [Act.put, List.setIfInBounds_toArray, List.set_cons_zero, List.set_cons_succ]
                            first
                              | (refine seq_skipA (h := ?_))
                              | (refine seq_calcA (h := ?_))
                            try simp only [Act.put, List.setIfInBounds_toArray, List.set_cons_zero, List.set_cons_succ]
                            first
                              | (refine seq_skipA (h := ?_))
                              | (refine seq_calcA (h := ?_))
                            try simp only [Act.put, List.setIfInBounds_toArray, List.set_cons_zero, List.set_cons_succ]
                            first
                              | (refine seq_skipA (h := ?_))
                              | (refine seq_load1A (hu := Tryz.underlying39) (h := ?_))
                            try simp only [Act.put, List.setIfInBounds_toArray, List.set_cons_zero, List.set_cons_succ]
                            first
                              | (refine seq_skipA (h := ?_))
                              | (refine seq_calcA (h := ?_))
                            try simp only [Act.put, List.setIfInBounds_toArray, List.set_cons_zero, List.set_cons_succ]
                            first
                              | (refine seq_skipA (h := ?_))
                              | (refine seq_calcA (h := ?_))
                            try simp only [Act.put, List.setIfInBounds_toArray, List.set_cons_zero, List.set_cons_succ]
                            first
                              | (refine seq_skipA (h := ?_))
                              | (refine seq_calcA (h := ?_))
                            try simp only [Act.put, List.setIfInBounds_toArray, List.set_cons_zero, List.set_cons_succ]
                            first
                              | (refine seq_skipA (h := ?_))
                              | (refine seq_load1A (hu := Tryz.underlying39) (h := ?_))
                            try simp only [Act.put, List.setIfInBounds_toArray, List.set_cons_zero, List.set_cons_succ]
                            first
                              | (refine seq_skipA (h := ?_))
                              | (refine seq_calcA (h := ?_))
                            try simp only [Act.put, List.setIfInBounds_toArray, List.set_cons_zero, List.set_cons_succ]
                            first
                              | (refine seq_skipA (h := ?_))
                              | (refine seq_calcA (h := ?_))
                            try simp only [Act.put, List.setIfInBounds_toArray, List.set_cons_zero, List.set_cons_succ]
                            refine seq_calcA (h := ?_)
                            try simp only [Act.put, List.setIfInBounds_toArray, List.set_cons_zero, List.set_cons_succ]
                            refine seq_nil ?_
                            go_wp2
                            go_roundg (gk - 1)
                            case measure => omega
                            case rel => exact ⟨k + 1, by omega, by go_num, B9.out.trans (Below.refl _ _).drew⟩
                        · obtain rfl : k = n1 := by omega
                          have LF := Lib.hid DK.out.z.left
                          have AM := Lib.hid (fun (w' : World) (h' : D1s w' D s' false M mt' K' E w0) => meterAll_any mt' M 36 w' h'.m)
                          have hll : ((s'.left : Nat) : Int) = (L0 : Int) - (st' : Int) := by have := HLc.out; omega
                          rw [hll] at LF
                          rw [HMc.out] at AM
                          have hwl : IntKind.i64.wrap ((L0 : Int) - (st' : Int)) = (L0 : Int) - (st' : Int) := by rw [IntKind.wrap_i64]; omega
                          have hfu := field_units
                          clear hll r0 r1 r2 r3 r4 zC
                          go_wp2_with (first
                            | (go_at_call 35; (with_reducible refine LF.out.mono ?_); rintro e w5 ⟨rfl, hb5⟩; have D5 := Lib.hid (DK.out.later hb5))
                            | (go_at_call 34; (with_reducible refine (AM.out _ D5.out.z).mono ?_); rintro e w6 ⟨rfl, hb6⟩; have D6 := Lib.hid (D5.out.later hb6)))
                          go_roundw
                          case rel => exact ⟨j + 1, s', mt', st', c', P', V', th', va', by omega, by go_num, rfl, D6.out.keep (Below.refl _ _) (fun b e => .inl (HKF2.out b e)) HKF.out, by rw [HJ1.out]; exact YC.out, HLc.out, HMc.out⟩
                          case measure => simp [intOf]; omega
                · obtain rfl : j = n3 := by omega
                  clear hlt r0 r1 r2 r3 r4 zC
                  as_aux_lemma =>
                    go_wp2
                    go_loopg [16] s.left (fun gk v16 wr => ∃ (s : DuS) (mt : MeterS) (st : Nat), v16 = .int .i64 (st : Int) ∧ DFs wr C D M VB VU n1 s mt (KF C VB VU) cs th va E w0 ∧ DuY s H n1 g gn ((x : Int) + (j : Int)) c P V th va ∧ s.left + st = L0 ∧ s.left = gk)
                    case atStart => exact ⟨s, mt, st, rfl, HD.out, HY.out, HL.out, rfl⟩
                    case round =>
                      clear HD HY HL HM2 KC0 BD hst
                      obtain ⟨s, mt, st, rfl, hD, hY, hL, hl⟩ := hrel
                      have HD := Lib.hid hD
                      have HY := Lib.hid hY
                      have HL := Lib.hid hL
                      have HLI := Lib.hid hl
                      obtain ⟨ev, hys, hls⟩ := hY.stp HHb.out (by omega)
                      have HYS := Lib.hid hys
                      have HLS := Lib.hid hls
                      have ST := Lib.hid (hD.z.step ev)
                      rw [hl] at ST
                      have hst : st ≤ 1000 := by omega
                      clear hys hls ev hD hY
                      by_cases h0 : 0 < gk
                      · rw [decide_eq_true h0] at ST
                        have hcmp : ¬ (L0 : Int) < ((st : Int) + 1) := by omega
                        have hcmpB : decide ((L0 : Int) < ((st : Int) + 1)) = false := by simp; omega
                        clear hL hl
                        go_wp2_with (go_at_call 30; (with_reducible refine ST.out.mono ?_); rintro e w5 ⟨rfl, hz5, hc5⟩; have D5 := Lib.hid (HD.out.turn hz5 hc5))
                        go_roundg (gk - 1)
                        case measure => omega
                        case rel => exact ⟨_, _, st + 1, by go_num, D5.out, HYS.out, by rw [HLS.out]; have := HL.out; have := HLI.out; omega, by rw [HLS.out, HLI.out]⟩
                      · rw [decide_eq_false h0] at ST
                        obtain rfl : gk = 0 := by omega
                        obtain rfl : st = L0 := by omega
                        clear hL hl h0
                        have HL0' := Lib.hid (show s.stp.left = 0 from by rw [HLS.out, HLI.out])
                        have TK := Lib.hid (fun (w' : World) (h' : D1s w' D s.stp false M (s.stpM mt) (KF C VB VU) E w0) => h'.take HL0'.out)
                        obtain ⟨sE, hsE⟩ : ∃ sE, sE = s.stp := ⟨_, rfl⟩
                        rw [← hsE] at HYS TK HL0' ST
                        have hkE : sE.k = 1 ∨ sE.k = 2 := HYS.out.k.l.k12
                        have HkE := Lib.hid hkE
                        have hbE : sE.bare = 0 := by have := HL0'.out; unfold DuS.left at this; omega
                        have hnE : sE.nx = sE.T.n := by have := HL0'.out; have := HYS.out.k.l.f.ok.hx; unfold DuS.left at *; omega
                        have HbE := Lib.hid hbE
                        have HGE := Lib.hid (HYS.out.k.l.gone hnE)
                        obtain ⟨kE, hkE'⟩ : ∃ kE, kE = sE.k := ⟨_, rfl⟩
                        rw [← hkE'] at TK hkE
                        have HKE := Lib.hid hkE'
                        clear hsE hbE hnE hkE' HD HY HL HLI HLS
                        go_upto_region 56 with (first
                          | (go_at_call 30; (with_reducible refine ST.out.mono ?_); rintro e w5 ⟨rfl, hz5, hc5⟩; have D5 := Lib.hid hz5; clear hz5 hc5)
                          | (go_at_call 23; (with_reducible refine (TK.out _ D5.out).mono ?_); rintro e w6 ⟨a, v, ha0, rfl, hrow, hTN, hV⟩; obtain ⟨gr, capr, curr, rfl, hgr, hgb, hgc⟩ := row_ptrs hrow (by omega); have TN6 := Lib.hid hTN; have V6 := Lib.hid hV; have GC6 := Lib.hid hgc; have zg6 := hgb.lt; clear hrow hTN hV hgb hgc))
                        have HCT := Lib.hid (show sE.T.lv + lvSum sE.U kE = c from by rw [HKE.out]; exact HYS.out.k.l.c)
                        have HSB := Lib.hid (lvSum_bd (U := sE.U) (k := kE) (fun q hq => by have := (HYS.out.k.l.f.ok.u q (by rw [← HKE.out]; exact hq)).1.bounds; omega))
                        go_wp2
                        go_loopg [291, 29] kE (fun gk v291 v29 wr => ∃ i : Nat, i + gk = kE ∧ v291 = .int .i64 (i : Int) ∧ v29 = .int .i64 (lvSum sE.U i) ∧ Below w6.heap.size w6 wr)
                        case atStart => exact ⟨0, by omega, rfl, rfl, Below.refl _ _⟩
                        case round =>
                          obtain ⟨i, hi, rfl, rfl, hB⟩ := hrel
                          have KB := Lib.hid hB
                          clear hB
                          by_cases hik : i < kE
                          · have hiI : (i : Int) < (kE : Int) := by omega
                            have hiE : i < sE.k := by rw [← HKE.out]; exact hik
                            obtain ⟨hF, hKB⟩ := HYS.out.kb (by omega) HbE.out hiE
                            have LN := Lib.hid (fun (w' : World) (h' : Below w6.heap.size w6 w') => TMW.len ((TN6.out i hik).later h'))
                            have CK := Lib.hid (fun (w' : World) (h' : Below w6.heap.size w6 w') => scheck_any ((TN6.out i hik).later h') hF HHb.out hKB)
                            have gc := (KB.out.cell (p := ⟨gr, i, none⟩) zg6).trans (GC6.out i hik)
                            have zgw : gr < wr.heap.size := Nat.lt_of_lt_of_le zg6 KB.out.size
                            have hb1 := HSB.out i (by omega)
                            have hb2 := HSB.out (i + 1) (by omega)
                            have hs1 := lvSum_succ sE.U i
                            rw [hs1] at hb2
                            have HS1 := Lib.hid hs1
                            obtain ⟨tb, htb⟩ : ∃ tb, tb = a (8 + 3 * i) := ⟨_, rfl⟩
                            rw [← htb] at LN CK gc
                            replace htb := Lib.hid htb
                            generalize (sE.U i).lv = lv at *
                            generalize lvSum sE.U i = sq at *
                            have hwr : IntKind.i64.wrap (sq + lv) = sq + lv := by rw [IntKind.wrap_i64]; omega
                            clear hF hKB hs1 hiE
                            go_wp2_with (first
                              | (go_at_call 42; (with_reducible refine (LN.out _ KB.out).mono ?_); rintro e w7 ⟨rfl, rfl⟩)
                              | (go_at_call 43; (with_reducible refine (CK.out _ KB.out).mono ?_); rintro e w8 ⟨rfl, hb8⟩; have B8 := Lib.hid (KB.out.trans (hb8.mono KB.out.size))))
                            go_roundg (gk - 1)
                            case measure => omega
                            case rel => exact ⟨i + 1, by omega, by go_num, by rw [HS1.out], B8.out⟩
                          · obtain rfl : i = kE := by omega
                            have hsum : lvSum sE.U i = c := by have := HCT.out; have := HGE.out; omega
                            have LE := Lib.hid ((V6.out.later KB.out).len)
                            rw [HYS.out.k.l.len, ha0] at LE
                            have V7 := Lib.hid (V6.out.later KB.out)
                            rw [hsum]
                            clear hsum
                            go_wp2_with (go_at_call 37; (with_reducible refine LE.out.mono ?_); rintro e w7 ⟨rfl, hb7⟩)
                            go_ret
                            exact ⟨rfl, V7.out.bel.trans (hb7.mono V7.out.bel.size)⟩
end Go.Proofs.YtcnkgiapidlbkaaGreatDoor
