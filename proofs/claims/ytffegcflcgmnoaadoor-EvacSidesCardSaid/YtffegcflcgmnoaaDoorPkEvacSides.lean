/- Texts joined: EvacSides. No condition but those that stand within. -/
import Derived.Lib.Builder
import Derived.Test.YtffegcflcgmnoaaDoorPkSwar
import Derived.Test.YtffegcflcgmnoaaDoorPkMeter
import Derived.Test.YtffegcflcgmnoaaDoorPkErrs
import Derived.Test.YtffegcflcgmnoaaDoorPkGroup
import Derived.Test.YtffegcflcgmnoaaDoorPkTab
import Derived.Test.YtffegcflcgmnoaaDoorPkTab2
import Derived.Test.YtffegcflcgmnoaaDoorPkTab3
import Derived.Test.YtffegcflcgmnoaaDoorPkTake
import Derived.Test.YtffegcflcgmnoaaDoorPkTabM
import Derived.Test.YtffegcflcgmnoaaDoorPkEvac
import Derived.Test.YtffegcflcgmnoaaDoorPkRef09
import Derived.Test.YtffegcflcgmnoaaDoorPkEvac2
namespace Go.Proofs.YtffegcflcgmnoaaDoor
set_option linter.unusedVariables false
set_option linter.unusedSimpArgs false
open Go.RowKit Go.Proofs
attribute [local go_sem] neq_nilG eql_nilG

theorem neq_sameT (a : Addr) (w : World) : (binOp .neq 38 (.pointer (some a)) (.pointer (some a))).run Tryd.prog w = .ok (.bool false) w := by
  obtain ⟨j, hj⟩ := Option.isSome_iff_exists.1 (by kernel_rfl : (Tryd.prog.info? 88).isSome = true)
  exact Lib.run_neq_ptr_same w a (by kernel_rfl) hj
attribute [local go_sem] neq_sameT
/-- a table in which nothing stands has no entry -/
theorem gone_lv {T : TabS} (hT : TGood T) (h : ∀ q g k, ¬ T.At q g k) : T.lv = 0 := by
  rw [hT.lv]
  have : T.cnt 3 = 0 := sumN_zero fun i hi => by
    unfold countK
    rw [List.length_eq_zero_iff, List.filter_eq_nil_iff]
    intro k hk
    have hk8 := List.mem_range.1 hk
    simp only [decide_eq_true_eq]
    intro e
    have h3 := kind3 (T.M i) k
    rw [e] at h3
    exact h _ i k ⟨hi, hk8, by rw [← h3]; rfl, rfl⟩
  omega
set_option maxRecDepth 100000 in
set_option maxHeartbeats 16000000 in
theorem evacSides_any (old new depth : Int) (two : Bool) (v1 v2 v3 : Value) (n1 n2 n3 : Nat) (f1 f2 f3 : Nat → Nat → Int) (E : Nat → Addr) (w0 : World) (he : EC w0 E [1, 2, 4, 5, 14, 16]) (hT : Tab64 w0) (h1 : RowsAt w0 v1 n1 1 .u64 f1) (h2 : RowsAt w0 v2 n2 1 .i64 f2) (h3 : RowsAt w0 v3 n3 1 .i64 f3) :
    Calls Tryd.prog 3 #[.agg (caseC old new depth two v1 v2 v3)] w0 fun e w' => e = .returned (.bool true) ∧ Below w0.heap.size w0 w' := by
  have m2 := h2.2.2
  have m3 := h3.2.2
  unfold maxLen at m2 m3
  have HEC := Lib.hid he
  have HT := Lib.hid hT
  have AL := Lib.hid (fun (w' : World) (hb' : Below w0.heap.size w0 w') => alive12_any E w' (HEC.out.below hb') (hT.below hb'))
  obtain ⟨a2, cap2, rfl, hx2⟩ := h2.cellAt (by decide)
  obtain ⟨a3, cap3, rfl, hx3⟩ := h3.cellAt (by decide)
  clear he hT h2 h3
  by_cases hs : ¬ ShortC old new depth n1 n2 n3
  · obtain ⟨a1, cap1, rfl, -⟩ := h1.cellAt (by decide)
    have LG := Lib.hid (fun (w' : World) => long_any old new depth two a1 a2 a3 n1 n2 n3 cap1 cap2 cap3 w')
    rw [decide_eq_false hs] at LG
    unfold caseC at LG ⊢
    clear hs h1 hx2 hx3
    have CB := Lib.hid (Blk.new w0 25 #[.int .i64 old, .int .i64 new, .int .i64 depth, .bool two, .slice a1 n1 cap1, .slice a2 n2 cap2, .slice a3 n3 cap3])
    go_enter Tryd.func3, Tryd.ntmps3
    go_wp2_with (first
      | (go_at_call 5; (with_reducible refine (AL.out _ ((Below.refl _ _).alloc (Nat.le_refl _) _)).mono ?_); rintro e w1 ⟨rfl, hb1⟩; have C1 := Lib.hid (CB.out.below hb1 CB.out.lt); have c1 := case_cells C1.out; have c10 := c1.1; have c11 := c1.2.1; have c12 := c1.2.2.1; have c13 := c1.2.2.2.1; have c14 := c1.2.2.2.2.1; have c15 := c1.2.2.2.2.2.1; have c16 := c1.2.2.2.2.2.2.1; have zc1 := C1.out.lt; clear c1)
      | (go_at_call 6; (with_reducible refine (LG.out _).mono ?_); rintro e w2 ⟨rfl, hb2⟩))
    go_ret
    exact ⟨rfl, ((show Below w0.heap.size w0 _ by go_grown).trans (hb1.mono (by simp))).trans (hb2.mono (by have := hb1.size; simp at this; omega))⟩
  have hs := Classical.not_not.1 hs
  obtain ⟨k1, k2, k3, k4, k5, k6, k7, k8, k9, k10⟩ := hs
  obtain ⟨b1, o1, cap1, G, rfl, hb1z, hG, hc1⟩ := hashes_of h1 k1
  obtain ⟨g, rfl⟩ := Int.eq_ofNat_of_zero_le (show 0 ≤ old by rw [rightB_iff] at k5; omega)
  obtain ⟨gn, rfl⟩ := Int.eq_ofNat_of_zero_le (show 0 ≤ new by rw [rightB_iff] at k6; omega)
  obtain ⟨d, rfl⟩ := Int.eq_ofNat_of_zero_le k9
  have LG := Lib.hid (fun (w' : World) => long_any (g : Int) (gn : Int) (d : Int) two (some ⟨b1, o1, none⟩) a2 a3 n1 n2 n3 cap1 cap2 cap3 w')
  rw [decide_eq_true (show ShortC (g : Int) (gn : Int) (d : Int) n1 n2 n3 from ⟨k1, k2, k3, k4, k5, k6, k7, k8, k9, k10⟩)] at LG
  obtain ⟨k, hk⟩ : ∃ k, k = if two = true then 2 else 1 := ⟨_, rfl⟩
  have hk12 : (k = 2 ∧ two = true) ∨ (k = 1 ∧ two = false) := by cases two <;> simp at hk <;> simp [hk]
  have MD := Lib.hid (fun (w' : World) (hw' : Below w0.heap.size w0 w') => made_any g gn d k two hk k5 k6 (by omega) b1 o1 n1 cap1 k1 k2 G a2 a3 n2 n3 cap2 cap3 k3 k4 (fun i => f2 i 0) (fun i => f3 i 0) E w0 w' HEC.out HT.out hw' hb1z hG hc1
    (fun h => by obtain ⟨b, off, e, hz, hc⟩ := hx2 h; exact ⟨b, off, e, hz, fun w' hw i hi => by simpa using hc w' hw i hi 0 (by decide)⟩)
    (fun h => by obtain ⟨b, off, e, hz, hc⟩ := hx3 h; exact ⟨b, off, e, hz, fun w' hw i hi => by simpa using hc w' hw i hi 0 (by decide)⟩))
  have HHb := Lib.hid (show ∀ q, hashH n1 G q < 18446744073709551616 from hashH_lt k1 hG)
  have hgb := right_bd k5
  have hgnb := right_bd k6
  have HCS := Lib.hid (rfl : caseC (g : Int) (gn : Int) (d : Int) two (.slice (some ⟨b1, o1, none⟩) n1 cap1) (.slice a2 n2 cap2) (.slice a3 n3 cap3) = #[.int .i64 (g : Int), .int .i64 (gn : Int), .int .i64 (d : Int), .bool two, .slice (some ⟨b1, o1, none⟩) n1 cap1, .slice a2 n2 cap2, .slice a3 n3 cap3])
  have CB := Lib.hid (Blk.new w0 25 #[.int .i64 (g : Int), .int .i64 (gn : Int), .int .i64 (d : Int), .bool two, .slice (some ⟨b1, o1, none⟩) n1 cap1, .slice a2 n2 cap2, .slice a3 n3 cap3])
  unfold caseC at LG MD ⊢
  clear hk h1 hx2 hx3 hG hc1 k5 k6
  have ew : IntKind.i64.wrap ((n2 : Int) + (n3 : Int)) = (n2 : Int) + (n3 : Int) := by rw [IntKind.wrap_i64]; omega
  have ew2 : IntKind.i64.wrap (6 * (gn : Int)) = 6 * (gn : Int) := by rw [IntKind.wrap_i64]; omega
  by_cases hm : 6 * gn < n2 + n3
  · have hmI : 6 * (gn : Int) < (n2 : Int) + (n3 : Int) := by omega
    clear MD
    go_enter Tryd.func3, Tryd.ntmps3
    go_wp2_with (first
      | (go_at_call 5; (with_reducible refine (AL.out _ ((Below.refl _ _).alloc (Nat.le_refl _) _)).mono ?_); rintro e w1 ⟨rfl, hb1⟩; have C1 := Lib.hid (CB.out.below hb1 CB.out.lt); have c1 := case_cells C1.out; have c10 := c1.1; have c11 := c1.2.1; have c12 := c1.2.2.1; have c13 := c1.2.2.2.1; have c14 := c1.2.2.2.2.1; have c15 := c1.2.2.2.2.2.1; have c16 := c1.2.2.2.2.2.2.1; have zc1 := C1.out.lt; clear c1)
      | (go_at_call 6; (with_reducible refine (LG.out _).mono ?_); rintro e w2 ⟨rfl, hb2⟩; have C2 := Lib.hid (C1.out.below hb2 C1.out.lt); have c1 := case_cells C2.out; have c20 := c1.1; have c21 := c1.2.1; have c22 := c1.2.2.1; have c23 := c1.2.2.2.1; have c24 := c1.2.2.2.2.1; have c25 := c1.2.2.2.2.2.1; have c26 := c1.2.2.2.2.2.2.1; have zc2 := C2.out.lt; clear c1))
    go_ret
    exact ⟨rfl, ((show Below w0.heap.size w0 _ by go_grown).trans (hb1.mono (by simp))).trans (hb2.mono (by have := hb1.size; simp at this; omega))⟩
  have hmI : (n2 : Int) + (n3 : Int) ≤ 6 * (gn : Int) := by omega
  have bm : decide (6 * (gn : Int) < (n2 : Int) + (n3 : Int)) = false := by simp; omega
  go_enter Tryd.func3, Tryd.ntmps3
  go_wp2_with (first
    | (go_at_call 5; (with_reducible refine (AL.out _ ((Below.refl _ _).alloc (Nat.le_refl _) _)).mono ?_); rintro e w1 ⟨rfl, hb1⟩; have C1 := Lib.hid (CB.out.below hb1 CB.out.lt); have c1 := case_cells C1.out; have c10 := c1.1; have c11 := c1.2.1; have c12 := c1.2.2.1; have c13 := c1.2.2.2.1; have c14 := c1.2.2.2.2.1; have c15 := c1.2.2.2.2.2.1; have c16 := c1.2.2.2.2.2.2.1; have zc1 := C1.out.lt; clear c1)
    | (go_at_call 6; (with_reducible refine (LG.out _).mono ?_); rintro e w2 ⟨rfl, hb2⟩; have C2 := Lib.hid (C1.out.below hb2 C1.out.lt); have c1 := case_cells C2.out; have c20 := c1.1; have c21 := c1.2.1; have c22 := c1.2.2.1; have c23 := c1.2.2.2.1; have c24 := c1.2.2.2.2.1; have c25 := c1.2.2.2.2.2.1; have c26 := c1.2.2.2.2.2.2.1; have zc2 := C2.out.lt; have B2 := Lib.hid (((show Below w0.heap.size w0 _ by go_grown).trans (hb1.mono (by simp))).trans (hb2.mono (by have := hb1.size; simp at this; omega))); clear c1)
    | (go_at_call 7; (with_reducible refine (MD.out _ B2.out).mono ?_); rintro e w3 ⟨V, G5, cap5, X, gt, tcap, ga, acap, c, p0, pt, T, U, rfl, hM3, hV3, hN3, hX3, hE3⟩; have M3 := Lib.hid hM3; have V3 := Lib.hid hV3; have N3 := Lib.hid hN3; have E3 := Lib.hid hE3; have C3 := Lib.hid (C2.out.below hM3.b C2.out.lt); have c1 := case_cells C3.out; have c30 := c1.1; have c32 := c1.2.2.1; have c33 := c1.2.2.2.1; have zc3 := C3.out.lt; clear c1; clear hM3 hV3 hN3 hE3))
  refine wp_at (fun wL hwL => ?_)
  obtain ⟨M, hM⟩ : ∃ M, M = w3.heap.size := ⟨_, rfl⟩
  have hbL : Below w3.heap.size w3 wL := by rw [hwL]; exact (Below.refl _ _).alloc (Nat.le_refl _) _
  have hfr : ∀ b, MIn p0 pt k b → b < M := fun b hb => by have := (M3.out.fr b hb).2.2.2.2; omega
  have hVM : V < M ∧ G5 < M ∧ ga < M := ⟨by have := V3.out.b.lt; omega, by have := V3.out.lt; omega, by have := (M3.out.ra.lt ga rfl).2; omega⟩
  have hz0 := M3.out.m.o
  have hmm : Blk wL M 36 MeterS.zero.cells := by rw [hwL, hM]; simp only [MeterS.zero, MeterS.cells]; exact Blk.new _ _ _
  have hO : MIn p0 pt k p0.B ∧ MIn p0 pt k p0.Q := by have h1 := hz0.b; have h2 := hz0.o; exact ⟨.inl ⟨by omega, by omega⟩, .inl ⟨by omega, by omega⟩⟩
  have hTB : ∀ i, i < k → MIn p0 pt k (pt i).B ∧ MIn p0 pt k (pt i).Q := fun i hi => by have h1 := (M3.out.m.t i hi).b; have h2 := (M3.out.m.t i hi).o; exact ⟨.inr ⟨i, hi, by omega, by omega⟩, .inr ⟨i, hi, by omega, by omega⟩⟩
  have hlo := B2.out.size
  have hX := N3.out
  have SC := Lib.hid (show EV wL V p0.B p0.Q G5 cap5 k (fun q => (pt q).B) (fun q => (pt q).Q) d 0 T U M MeterS.zero E w0 from by
    refine ⟨V3.out.later hbL, hz0.t.later hbL, fun i hi => (M3.out.m.t i hi).t.later hbL, hmm, ⟨⟨?_, hz0.t.hB, hz0.t.hQ, ?_, by have := M3.out.b.size; omega⟩, ⟨fun e => (hX _ hO.1).1 e.symm, fun e => (hX _ hO.2).1 e.symm, ?_, by omega⟩, ⟨fun e => (hX _ hO.1).2 e.symm, fun e => (hX _ hO.2).2 e.symm, by omega⟩, ⟨by have := hfr _ hO.1; omega, by have := hfr _ hO.2; omega⟩, fun i hi => ?_, fun i hi => ?_, fun i j hi hj hij => ?_⟩⟩
    · have := hX3.2.2.2.1; omega
    · have := hX3.2.2.2.2.1; omega
    · exact hX3.2.2.2.2.2.1
    · have h1 := hX _ (hTB i hi).1
      have h2 := hfr _ (hTB i hi).1
      have h3 := M3.out.m.s0 i hi
      have h4 := hz0.b
      have h5 := hz0.o
      have h6 := (M3.out.m.t i hi).b
      exact ⟨h1.1, h1.2, by omega, by omega, by omega⟩
    · have h1 := hX _ (hTB i hi).2
      have h2 := hfr _ (hTB i hi).2
      have h3 := M3.out.m.s0 i hi
      have h4 := hz0.b
      have h5 := hz0.o
      have h6 := (M3.out.m.t i hi).b
      exact ⟨h1.1, h1.2, by omega, by omega, by omega⟩
    · have h6 := (M3.out.m.t i hi).b
      have h7 := (M3.out.m.t j hj).b
      have h8 := (M3.out.m.t i hi).o
      have h9 := (M3.out.m.t j hj).o
      rcases Nat.lt_or_gt_of_ne hij with h | h
      · have := M3.out.m.s1 i j h hj; exact ⟨by omega, by omega, by omega, by omega⟩
      · have := M3.out.m.s1 j i h hi; exact ⟨by omega, by omega, by omega, by omega⟩)
  have HXS := Lib.hid (show ∀ b, (b = M ∨ b = p0.B ∨ b = p0.Q ∨ b = V ∨ ∃ i, i < k ∧ (b = (pt i).B ∨ b = (pt i).Q)) → b ≠ w0.heap.size ∧ b ≠ ga from fun b hb => by
    have hcb : w0.heap.size < w2.heap.size := C2.out.lt
    have hmi : ∀ b', MIn p0 pt k b' → b' ≠ w0.heap.size ∧ b' ≠ ga := fun b' hb' => ⟨by have := M3.out.mb b' hb'; omega, fun e => by subst e; exact (M3.out.fr b' hb').2.2.1 rfl⟩
    rcases hb with rfl | rfl | rfl | rfl | ⟨i, hi, rfl | rfl⟩
    · have := M3.out.b.size; exact ⟨by omega, by omega⟩
    · exact hmi _ hO.1
    · exact hmi _ hO.2
    · have := hX3.2.2.2.1; exact ⟨by omega, hX3.2.1⟩
    · exact hmi _ (hTB i hi).1
    · exact hmi _ (hTB i hi).2)
  have CL := Lib.hid (C3.out.below hbL C3.out.lt)
  have RL := Lib.hid (ownsRow_later M3.out.ra hbL)
  rw [← hM]
  have HNG := Lib.hid (show k = 1 ∨ (k = 2 ∧ d ≤ 15) by omega)
  replace hwL := Lib.hid hwL
  have HK12 := Lib.hid hk12
  clear hk12 hX3 hM hbL hfr hVM hz0 hmm hO hTB hlo hX M3 V3 N3 C3 C1 C2 c10 c11 c12 c13 c14 c15 c16 zc1 c20 c21 c22 c23 c24 c25 c26 zc2 c30 c32 c33 zc3 MD LG AL
  go_loopw [50] (fun v50 wr => ∃ (j : Nat) (T : TabS) (U : Nat → TabS) (mt : MeterS), j ≤ g ∧ v50 = .int .i64 (j : Int) ∧ EV wr V p0.B p0.Q G5 cap5 k (fun q => (pt q).B) (fun q => (pt q).Q) d j T U M mt E w0 ∧ EI T U k d (hashH n1 G) g gn ((n2 : Int) + (n3 : Int)) ∧ (∀ q g' k', T.At q g' k' → j ≤ g') ∧ mt.limited = false ∧ mt.a2 = (j : Int) ∧
    Blk wr w0.heap.size 25 #[.int .i64 (g : Int), .int .i64 (gn : Int), .int .i64 (d : Int), .bool two, .slice (some ⟨b1, o1, none⟩) n1 cap1, .slice a2 n2 cap2, .slice a3 n3 cap3] ∧
    wr.ownsRow w2.heap.size 38 1 (.slice (some ⟨ga, 0, none⟩) (k + 1) acap) (k + 1) ((List.range (k + 1)).map (fun j => Value.pointer (some ⟨allB p0 pt j, 0, none⟩)))) (fun v50 _ => g - (intOf v50).toNat)
  case atStart => exact ⟨0, T, U, _, Nat.zero_le _, rfl, SC.out, E3.out, fun _ _ _ _ => Nat.zero_le _, rfl, rfl, CL.out, RL.out⟩
  case round =>
    clear SC E3 CL RL
    obtain ⟨j, T, U, mt, hj, rfl, hV, hE, hA, hl, ha2, hC, hR⟩ := hrel
    have KV := Lib.hid hV
    have KE := Lib.hid hE
    have KA := Lib.hid hA
    have KC := Lib.hid hC
    have KR := Lib.hid hR
    have HL := Lib.hid hl
    have HA := Lib.hid ha2
    clear hV hE hA hl ha2 hC hR
    by_cases hlt : j < g
    · have hltI : (j : Int) < (g : Int) := by omega
      have hst := KE.out.step HNG.out HHb.out (by omega) hlt
      have ST := Lib.hid (estep_ok KV.out (by rw [KE.out.tn]; exact hlt) HL.out hst.1)
      have HST := Lib.hid hst
      have hjn : j < T.n := by rw [KE.out.tn]; exact hlt
      clear hst
      go_wp2_with (go_at_call 8; (with_reducible refine ST.out.mono ?_); rintro e w4 ⟨rfl, hv4, hc4⟩; have V4 := Lib.hid hv4; have C4 := Lib.hid (KC.out.chg hc4 (fun e => (HXS.out _ e).1 rfl)); have R4 := Lib.hid (ownsRow_chgB KR.out hc4 (fun b hb e => (HXS.out _ e).2 (Option.some.inj hb).symm)); clear hv4)
      go_roundw
      case rel => exact ⟨j + 1, _, _, _, by omega, by go_num, V4.out, HST.out.2, fun q g' k' ha => by
        rw [at_takeT hjn] at ha
        have := KA.out q g' k' ha.2
        omega, (addN_limited _ _ _ _ _).trans HL.out, by
        have h1 : sumZ mt.a2 1 = ((j + 1 : Nat) : Int) := by rw [HA.out, sumZ_add (by omega) (by decide) (by omega)]; omega
        have h2 : sumZ ((j + 1 : Nat) : Int) 0 = ((j + 1 : Nat) : Int) := by rw [sumZ_add (by omega) (by decide) (by omega)]; omega
        rw [addN_a2 (by show sumZ (sumZ mt.a2 1) 0 = sumZ mt.a2 1; rw [h1, h2])]
        exact h1, C4.out, R4.out⟩
      case measure => simp [intOf]; omega
    · obtain rfl : j = g := by omega
      obtain ⟨ga', gcap, gcur, ega, hgab, hga, hgac⟩ := row_ptrs KR.out (by omega)
      cases ega
      have hcapA : k + 1 ≤ acap := by
        rcases KR.out.2 with ⟨e, -⟩ | ⟨g9, cap9, cur9, e, -, -, hle, -⟩
        · cases e
        · have := (Value.slice.inj e).2.2; omega
      have hk1 : 1 ≤ k := by have := HNG.out; omega
      have hk2 : k ≤ 2 := by have := HNG.out; omega
      have hsl := fun w => slice_from1 ga k acap hcapA hk1 w
      have hlv : T.lv = 0 := gone_lv KE.out.t.good (fun q g' k' ha => by have h1 := KA.out q g' k' ha; have h2 := ha.hg; rw [KE.out.tn] at h2; omega)
      have HLV := Lib.hid hlv
      have HG0 := Lib.hid (show ∀ i, i < k + 1 → wr.cell? ⟨ga, i, none⟩ = some (.pointer (some ⟨allB p0 pt i, 0, none⟩)) from hgac)
      have zga := hga.lt
      have HUI := Lib.hid KE.out.u
      clear hgac hga hgab hcapA hlv KE KA
      obtain ⟨wS, hwS⟩ : ∃ wS, wS = wr := ⟨_, rfl⟩
      subst hwS
      go_wp2
      go_loopw [60, 7] (fun v60 v7 w4 => ∃ (s : Nat) (z : Int), s ≤ k ∧ v60 = .int .i64 (s : Int) ∧ v7 = .int .i64 z ∧ 0 ≤ z ∧ z ≤ 512 * (s : Int) ∧ Below wS.heap.size wS w4) (fun v60 _ _ => k - (intOf v60).toNat)
      case atStart => exact ⟨0, 0, Nat.zero_le _, rfl, rfl, by omega, by omega, (by first | exact Below.refl _ _ | exact (Below.refl _ _).drew)⟩
      case round =>
        obtain ⟨s, z, hsk, rfl, rfl, hz1, hz2, hB4⟩ := hrel
        obtain ⟨wA, hwA⟩ : ∃ wA, wA = wr := ⟨_, rfl⟩
        subst hwA
        have BA := Lib.hid hB4
        clear hB4
        have g0 := fun (w' : World) (hb : Below wS.heap.size wS w') (i : Nat) (hi : i < k + 1) => (hb.cell (p := ⟨ga, i, none⟩) zga).trans (HG0.out i hi)
        have zg := Nat.lt_of_lt_of_le zga BA.out.size
        by_cases hlt2 : s < k
        · have hltI : (s : Int) < (k : Int) := by omega
          have gs := g0 wA BA.out (1 + s) (by omega)
          rw [show allB p0 pt (1 + s) = (pt s).B by rw [Nat.add_comm]; rfl] at gs
          have US := Lib.hid (fun (w' : World) (hb : Below wS.heap.size wS w') => (KV.out.later hb).u s hlt2)
          have hU := HUI.out.f s hlt2
          have hUn := HUI.out.n s hlt2
          have hUb := hU.good.bounds
          have LN := Lib.hid (fun (w' : World) (hb : Below wS.heap.size wS w') => TMW.len (US.out w' hb))
          have GR := Lib.hid (fun (w' : World) (hb : Below wS.heap.size wS w') => TMW.groups (US.out w' hb))
          have SN := Lib.hid (fun (x : Nat) (hx : x < (U s).n) (w' : World) (hb : Below wS.heap.size wS w') => TMW.scan (US.out w' hb) x hx none LensAt.n 0 0 0)
          rw [hUn] at GR
          have HU := Lib.hid hU
          generalize hlvv : (U s).lv = lv at *
          have ew3 : IntKind.i64.wrap (z + lv) = z + lv := by rw [IntKind.wrap_i64]; omega
          clear g0 hU
          go_wp2_with (first
            | (go_at_call 9; (with_reducible refine (LN.out _ BA.out).mono ?_); rintro e w' ⟨rfl, rfl⟩)
            | (go_at_call 10; (with_reducible refine (GR.out _ BA.out).mono ?_); rintro e w' ⟨rfl, rfl⟩))
          go_loopw [71] (fun v71 w5 => ∃ x : Nat, x ≤ gn ∧ v71 = .int .i64 (x : Int) ∧ Below wS.heap.size wS w5) (fun v71 _ => gn - (intOf v71).toNat)
          case atStart => exact ⟨0, Nat.zero_le _, rfl, BA.out⟩
          case round =>
            clear BA gs zg
            obtain ⟨x, hxn, rfl, hB5⟩ := hrel
            obtain ⟨wB, hwB⟩ : ∃ wB, wB = wr := ⟨_, rfl⟩
            subst hwB
            have BB := Lib.hid hB5
            clear hB5
            by_cases hlt3 : x < gn
            · have hltx : (x : Int) < (gn : Int) := by omega
              have SK := Lib.hid (SN.out x (by omega))
              have hxU : x < (U s).n := by rw [hUn]; exact hlt3
              obtain ⟨l, hl⟩ : ∃ l, l = entsL ((U s).M x) ((U s).S x) := ⟨_, rfl⟩
              have HE := Lib.hid (show ∀ e ∈ l, ∃ h : Nat, h < 18446744073709551616 ∧ e.hash = (h : Int) ∧ tIx k d h = s from fun e he => by
                rw [hl] at he
                obtain ⟨q1, -, q3⟩ := group_ents HU.out HHb.out hxU
                obtain ⟨e1, e2⟩ := q1 e he
                obtain ⟨k', ha⟩ := (q3 e.key).1 ⟨e, he, rfl⟩
                exact ⟨_, e2, e1, HUI.out.side s hlt2 e.key (HU.out.has_of ha)⟩)
              have hl8 : l.length ≤ 8 := by rw [hl]; exact entsL_len _ _
              rw [← hl] at SK
              clear hl hxU
              go_upto_region 25 with (go_at_call 11; (with_reducible refine (SK.out _ BB.out).mono ?_); rintro e w6 ⟨v, rfl, hr6, -, hc6⟩; have B6 := Lib.hid (BB.out.trans ((Below.of_chg (hc6.mono (fun _ _ e => by cases e))).mono BB.out.size)); obtain ⟨la, lcap, rfl⟩ := ownsRow_slice hr6; have R6 := Lib.hid hr6; clear hr6 hc6)
              go_wp2
              go_loopw [85] (fun v85 w7 => ∃ y : Nat, y ≤ l.length ∧ v85 = .int .i64 (y : Int) ∧ Below wS.heap.size wS w7 ∧ w7.ownsRow wB.heap.size 49 3 (.slice la l.length lcap) l.length (entV l)) (fun v85 _ => l.length - (intOf v85).toNat)
              case atStart => exact ⟨0, Nat.zero_le _, rfl, B6.out, R6.out⟩
              case round =>
                clear B6 R6 BB
                obtain ⟨y, hyl, rfl, hB7, hR7⟩ := hrel
                obtain ⟨wC, hwC⟩ : ∃ wC, wC = wr := ⟨_, rfl⟩
                subst hwC
                have BC := Lib.hid hB7
                have RC := Lib.hid hR7
                clear hB7 hR7
                by_cases hlt4 : y < l.length
                · have hlty : (y : Int) < (l.length : Int) := by omega
                  obtain ⟨lb, lcap', e, -, hrow⟩ := ents_own RC.out
                  cases e
                  obtain ⟨b, rfl, hbb, hbz, hcl⟩ := hrow (fun e => by rw [e] at hlt4; exact absurd hlt4 (by simp))
                  obtain ⟨g0, g1, g2⟩ := hcl y hlt4
                  obtain ⟨h, hh, he, hix⟩ := HE.out l[y] (List.getElem_mem hlt4)
                  rw [he] at g2
                  generalize l[y].key = ky at *
                  generalize l[y].val = vv at *
                  have BT := Lib.hid (fun w' => splitBit_ok h d hh (by omega) w')
                  have TG := Lib.hid (fun (w' : World) (hb : Below wS.heap.size wS w') => etarget_any V p0.B G5 cap5 k (fun q => (pt q).B) d j h hh w' (KV.out.later hb).e)
                  rw [hix] at TG
                  obtain ⟨q0, -, q2, q3, -, -, -, zq⟩ := case_cells (KC.out.below BC.out KC.out.lt)
                  have BD := Lib.hid (fun (o : Obj) => BC.out.alloc BC.out.size o)
                  clear hcl hrow he
                  rcases HK12.out with ⟨hkk, rfl⟩ | ⟨hkk, rfl⟩
                  · have hbit : bitN h d = s := by rw [hkk] at hix; exact hix
                    rw [hbit] at BT
                    clear HK12 HNG hbit hix hkk
                    go_wp2_with (first
                      | (go_at_call 12; (with_reducible refine (BT.out _).mono ?_); rintro e w' ⟨rfl, rfl⟩)
                      | (go_at_call 13; (with_reducible refine (TG.out _ (BD.out _)).mono ?_); rintro e w8 ⟨rfl, hb8⟩; have B8 := Lib.hid hb8; clear hb8))
                    go_roundw
                    case rel => exact ⟨y + 1, by omega, by go_num, (BD.out _).trans (B8.out.mono (by have := BC.out.size; simp; omega)), ownsRow_later RC.out (((Below.refl _ _).alloc (Nat.le_refl _) _).trans (B8.out.mono (by simp)))⟩
                    case measure => simp [intOf]; omega
                  · clear HK12 HNG hix hkk
                    go_wp2_with (first
                      | (go_at_call 12; (with_reducible refine (BT.out _).mono ?_); rintro e w' ⟨rfl, rfl⟩)
                      | (go_at_call 13; (with_reducible refine (TG.out _ (BD.out _)).mono ?_); rintro e w8 ⟨rfl, hb8⟩; have B8 := Lib.hid hb8; clear hb8))
                    go_roundw
                    case rel => exact ⟨y + 1, by omega, by go_num, (BD.out _).trans (B8.out.mono (by have := BC.out.size; simp; omega)), ownsRow_later RC.out (((Below.refl _ _).alloc (Nat.le_refl _) _).trans (B8.out.mono (by simp)))⟩
                    case measure => simp [intOf]; omega
                · obtain rfl : y = l.length := by omega
                  go_wp2
                  go_roundw
                  case rel => exact ⟨x + 1, by omega, by go_num, BC.out⟩
                  case measure => simp [intOf]; omega
            · obtain rfl : x = gn := by omega
              go_wp2
              go_roundw
              case rel => exact ⟨s + 1, _, by omega, by go_num, rfl, by omega, by omega, BB.out⟩
              case measure => simp [intOf]; omega
        · obtain rfl : s = k := by omega
          have G0 := Lib.hid (fun (w' : World) (hb : Below wS.heap.size wS w') => (show w'.cell? ⟨ga, 0, none⟩ = some (.pointer (some ⟨p0.B, 0, none⟩)) from g0 w' hb 0 (by omega)))
          have C0 := Lib.hid (fun (w' : World) (hb : Below wS.heap.size wS w') => (case_cells (KC.out.below hb KC.out.lt)).1)
          have HM := Lib.hid (fun (w' : World) (hb : Below wS.heap.size wS w') => meterAll_any mt M 36 w' (KV.out.later hb).m)
          rw [HA.out] at HM
          have LO := Lib.hid (fun (w' : World) (hb : Below wS.heap.size wS w') => TMW.len (KV.out.later hb).t)
          rw [HLV.out] at LO
          have hfu := field_units
          have hz0 : (0 : Int) ≤ z := hz1
          clear HLV HUI g0 HK12 HNG HG0
          have c0 := C0.out _ BA.out
          have gA := G0.out _ BA.out
          have zcA := (KC.out.below BA.out KC.out.lt).lt
          have zgA := Nat.lt_of_lt_of_le zga BA.out.size
          go_upto_region 34 with (fail)
          refine wp_region_noPanic ?_
          refine wp_region_seq (fun _ => False) #[⟨0, 0, 664613997892457936451903530140172288, 64, 0⟩, ⟨1, 1, 1329227995784915872903807060280344576, 664613997892457936451903530140172288, 2⟩, ⟨2, 3, 2658455991569831745807614120560689152, 1329227995784915872903807060280344576, 0⟩, ⟨0, 0, 5316911983139663491615228241121378304, 2, 0⟩, ⟨8, 8, 10633823966279326983230456482242756608, 5316911983139663491615228241121378304, 1⟩, ⟨20, 31, 21267647932558653966460912964485513216, 13292279957849158729038070602803445760, 0⟩, ⟨34, 63, 42535295865117307932921825928971026432, 21267647932558653966460912964485513216, 0⟩, ⟨64, 127, 85070591730234615865843651857942052864, 42535295865117307932921825928971026560, 0⟩, ⟨192, 255, 170141183460469231731687303715884105728, 127605887595351923798765477786913079296, 0⟩, ⟨320, 511, 340282366920938463463374607431768211456, 212676479325586539664609129644855132160, 0⟩, ⟨576, 1023, 680564733841876926926749214863536422912, 340282366920938463463374607431768211456, 0⟩, ⟨1024, 2047, 1361129467683753853853498429727072845824, 680564733841876926926749214863536422928, 0⟩, ⟨3072, 4095, 2722258935367507707706996859454145691648, 2041694201525630780780247644590609268736, 0⟩, ⟨5120, 8191, 5444517870735015415413993718908291383296, 3402823669209384634633746074317682114560, 1⟩, ⟨9216, 16383, 10889035741470030830827987437816582766592, 6125082604576892342340742933771827806208, 3⟩, ⟨17408, 32767, 21778071482940061661655974875633165533184, 11569600475311907757754736652680119189504, 0⟩, ⟨33792, 65535, 43556142965880123323311949751266331066368, 22458636216781938588582724090496701956096, 0⟩, ⟨131071, 131071, 4, 43556142965880123323311949751266331066368, 0⟩] 8208 [(0, 0), (3, 0), (4, 1), (1, 2), (2, 0), (5, 0), (6, 0), (7, 0), (8, 0), (9, 0), (10, 0), (11, 0), (12, 0), (13, 1), (14, 3), (15, 0), (16, 0), (17, 0)] (by kernel_rfl) (by kernel_rfl) (by kernel_rfl) (by kernel_rfl) (by kernel_rfl) (by kernel_rfl) (fun c a d v w h => by cases d <;> exact h) ?_
          refine seq_calc (by simp only [List.getElem?_toArray, List.getElem?_cons_succ, List.getElem?_cons_zero]; rfl) (by rfl) (fun u => by go_simp <;> with_reducible rfl) ?_
          try simp only [Act.put, List.setIfInBounds_toArray, List.set_cons_zero, List.set_cons_succ]
          refine seq_calc (by simp only [List.getElem?_toArray, List.getElem?_cons_succ, List.getElem?_cons_zero]; rfl) (by rfl) (fun u => by go_simp <;> with_reducible rfl) ?_
          try simp only [Act.put, List.setIfInBounds_toArray, List.set_cons_zero, List.set_cons_succ]
          refine seq_load1 (by simp only [List.getElem?_toArray, List.getElem?_cons_succ, List.getElem?_cons_zero]; rfl) (by rfl) rfl rfl Tryd.underlying3 rfl (by go_simp <;> with_reducible rfl) (by first | exact id | assumption | (simp; done) | (simp; omega)) ?_
          try simp only [Act.put, List.setIfInBounds_toArray, List.set_cons_zero, List.set_cons_succ]
          refine seq_do (by simp only [List.getElem?_toArray, List.getElem?_cons_succ, List.getElem?_cons_zero]; rfl) (by rfl) (fun K hK => ?_); go_wp2_with (first | (go_at_call 14; (with_reducible refine (HM.out _ BA.out.drew).mono ?_); rintro e w1 ⟨rfl, hb1⟩; have B1 := Lib.hid (BA.out.drew.trans (hb1.mono BA.out.size)); have c01 := C0.out _ B1.out; have g01 := G0.out _ B1.out; have zc1 := (KC.out.below B1.out KC.out.lt).lt; have zg1 := Nat.lt_of_lt_of_le zga B1.out.size) | (go_at_call 9; (with_reducible refine (LO.out _ B1.out).mono ?_); rintro e w' ⟨rfl, rfl⟩)); refine hK.out _ _ (by first | (with_reducible exact Chg.refl _ _) | (with_reducible assumption) | (refine Chg.of_below ?_; with_reducible assumption) | (with_reducible exact (Chg.refl _ _).alloc _) | (with_reducible exact (Chg.refl _ _).drewN _) | (with_reducible exact (Chg.refl _ _).drew) | exact ⟨rfl, rfl, rfl, Nat.le_refl _, fun _ _ _ => rfl⟩ | exact (Chg.refl _ _).setCell (.inl (.inl rfl)) _ | exact (Chg.refl _ _).setCell (.inl (.inr rfl)) _ | exact ((Chg.refl _ _).setCell (.inl (.inl rfl)) _).setCell (.inl (.inl rfl)) _ | exact ((Chg.refl _ _).setCell (.inl (.inr rfl)) _).setCell (.inl (.inr rfl)) _ | exact Chg.drew (Chg.setCell ⟨rfl, rfl, rfl, Nat.le_refl _, fun _ _ _ => rfl⟩ (.inl (.inl rfl)) _) | exact Chg.drew (Chg.setCell ⟨rfl, rfl, rfl, Nat.le_refl _, fun _ _ _ => rfl⟩ (.inl (.inr rfl)) _)) ?_; clear hK K
          try simp only [Act.put, List.setIfInBounds_toArray, List.set_cons_zero, List.set_cons_succ]
          refine seq_calc (by simp only [List.getElem?_toArray, List.getElem?_cons_succ, List.getElem?_cons_zero]; rfl) (by rfl) (fun u => by go_simp <;> with_reducible rfl) ?_
          try simp only [Act.put, List.setIfInBounds_toArray, List.set_cons_zero, List.set_cons_succ]
          refine seq_calc (by simp only [List.getElem?_toArray, List.getElem?_cons_succ, List.getElem?_cons_zero]; rfl) (by rfl) (fun u => by go_simp <;> with_reducible rfl) ?_
          try simp only [Act.put, List.setIfInBounds_toArray, List.set_cons_zero, List.set_cons_succ]
          refine seq_calc (by simp only [List.getElem?_toArray, List.getElem?_cons_succ, List.getElem?_cons_zero]; rfl) (by rfl) (fun u => by go_simp <;> with_reducible rfl) ?_
          try simp only [Act.put, List.setIfInBounds_toArray, List.set_cons_zero, List.set_cons_succ]
          first
            | (refine seq_skip (by simp only [List.getElem?_toArray, List.getElem?_cons_succ, List.getElem?_cons_zero]; rfl) (by rfl) ?_)
            | (refine seq_calc (by simp only [List.getElem?_toArray, List.getElem?_cons_succ, List.getElem?_cons_zero]; rfl) (by rfl) (fun u => by go_simp <;> with_reducible rfl) ?_)
          try simp only [Act.put, List.setIfInBounds_toArray, List.set_cons_zero, List.set_cons_succ]
          first
            | (refine seq_skip (by simp only [List.getElem?_toArray, List.getElem?_cons_succ, List.getElem?_cons_zero]; rfl) (by rfl) ?_)
            | (refine seq_calc (by simp only [List.getElem?_toArray, List.getElem?_cons_succ, List.getElem?_cons_zero]; rfl) (by rfl) (fun u => by go_simp <;> with_reducible rfl) ?_)
          try simp only [Act.put, List.setIfInBounds_toArray, List.set_cons_zero, List.set_cons_succ]
          refine seq_calc (by simp only [List.getElem?_toArray, List.getElem?_cons_succ, List.getElem?_cons_zero]; rfl) (by rfl) (fun u => by go_simp <;> with_reducible rfl) ?_
          try simp only [Act.put, List.setIfInBounds_toArray, List.set_cons_zero, List.set_cons_succ]
          refine seq_calc (by simp only [List.getElem?_toArray, List.getElem?_cons_succ, List.getElem?_cons_zero]; rfl) (by rfl) (fun u => by go_simp <;> with_reducible rfl) ?_
          try simp only [Act.put, List.setIfInBounds_toArray, List.set_cons_zero, List.set_cons_succ]
          first
            | (refine seq_skip (by simp only [List.getElem?_toArray, List.getElem?_cons_succ, List.getElem?_cons_zero]; rfl) (by rfl) ?_)
            | (refine seq_calc (by simp only [List.getElem?_toArray, List.getElem?_cons_succ, List.getElem?_cons_zero]; rfl) (by rfl) (fun u => by go_simp <;> with_reducible rfl) ?_)
          try simp only [Act.put, List.setIfInBounds_toArray, List.set_cons_zero, List.set_cons_succ]
          first
            | (refine seq_skip (by simp only [List.getElem?_toArray, List.getElem?_cons_succ, List.getElem?_cons_zero]; rfl) (by rfl) ?_)
            | (refine seq_calc (by simp only [List.getElem?_toArray, List.getElem?_cons_succ, List.getElem?_cons_zero]; rfl) (by rfl) (fun u => by go_simp <;> with_reducible rfl) ?_)
          try simp only [Act.put, List.setIfInBounds_toArray, List.set_cons_zero, List.set_cons_succ]
          first
            | (refine seq_skip (by simp only [List.getElem?_toArray, List.getElem?_cons_succ, List.getElem?_cons_zero]; rfl) (by rfl) ?_)
            | (refine seq_load1 (by simp only [List.getElem?_toArray, List.getElem?_cons_succ, List.getElem?_cons_zero]; rfl) (by rfl) rfl rfl Tryd.underlying38 rfl (by go_simp <;> with_reducible rfl) (by first | exact id | assumption | (simp; done) | (simp; omega)) ?_)
          try simp only [Act.put, List.setIfInBounds_toArray, List.set_cons_zero, List.set_cons_succ]
          first
            | (refine seq_skip (by simp only [List.getElem?_toArray, List.getElem?_cons_succ, List.getElem?_cons_zero]; rfl) (by rfl) ?_)
            | (refine seq_last (by simp only [List.getElem?_toArray, List.getElem?_cons_succ, List.getElem?_cons_zero]; rfl) (by rfl) (fun K hK => ?_); go_wp2_with (first | (go_at_call 14; (with_reducible refine (HM.out _ BA.out.drew).mono ?_); rintro e w1 ⟨rfl, hb1⟩; have B1 := Lib.hid (BA.out.drew.trans (hb1.mono BA.out.size)); have c01 := C0.out _ B1.out; have g01 := G0.out _ B1.out; have zc1 := (KC.out.below B1.out KC.out.lt).lt; have zg1 := Nat.lt_of_lt_of_le zga B1.out.size) | (go_at_call 9; (with_reducible refine (LO.out _ B1.out).mono ?_); rintro e w' ⟨rfl, rfl⟩)); refine hK.out _ _ ?_; clear hK K)
          try simp only [Act.put, List.setIfInBounds_toArray, List.set_cons_zero, List.set_cons_succ]
          first
            | (refine seq_skip (by simp only [List.getElem?_toArray, List.getElem?_cons_succ, List.getElem?_cons_zero]; rfl) (by rfl) ?_)
            | (refine seq_calc (by simp only [List.getElem?_toArray, List.getElem?_cons_succ, List.getElem?_cons_zero]; rfl) (by rfl) (fun u => by go_simp <;> with_reducible rfl) ?_)
          try simp only [Act.put, List.setIfInBounds_toArray, List.set_cons_zero, List.set_cons_succ]
          refine seq_calc (by simp only [List.getElem?_toArray, List.getElem?_cons_succ, List.getElem?_cons_zero]; rfl) (by rfl) (fun u => by go_simp <;> with_reducible rfl) ?_
          try simp only [Act.put, List.setIfInBounds_toArray, List.set_cons_zero, List.set_cons_succ]
          refine seq_calc (by simp only [List.getElem?_toArray, List.getElem?_cons_succ, List.getElem?_cons_zero]; rfl) (by rfl) (fun u => by go_simp <;> with_reducible rfl) ?_
          try simp only [Act.put, List.setIfInBounds_toArray, List.set_cons_zero, List.set_cons_succ]
          refine seq_nil ?_
          refine NoPanic.normal ?_
          go_wp2
          go_ret
          exact ⟨rfl, KV.out.t.bel.trans (B1.out.mono (by exact KV.out.t.bel.size))⟩
end Go.Proofs.YtffegcflcgmnoaaDoor
