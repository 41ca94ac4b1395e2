/- Texts joined: EvacAll. No condition but those that stand within. -/
import Derived.Deep.DeepCutAuto
import Derived.Deep.CutBlock
import Derived.Test.YtannohinhlefaaaGreatDoorPkSwar
import Derived.Test.YtannohinhlefaaaGreatDoorPkMeter
import Derived.Test.YtannohinhlefaaaGreatDoorPkErrs
import Derived.Test.YtannohinhlefaaaGreatDoorPkGroup
import Derived.Test.YtannohinhlefaaaGreatDoorPkTab
import Derived.Test.YtannohinhlefaaaGreatDoorPkTab2
import Derived.Test.YtannohinhlefaaaGreatDoorPkTab3
import Derived.Test.YtannohinhlefaaaGreatDoorPkTake
import Derived.Test.YtannohinhlefaaaGreatDoorPkTabM
import Derived.Test.YtannohinhlefaaaGreatDoorPkEvac
import Derived.Test.YtannohinhlefaaaGreatDoorPkSound
import Derived.Test.YtannohinhlefaaaGreatDoorPkRef09
import Derived.Test.YtannohinhlefaaaGreatDoorPkEvac2
import Derived.Test.YtannohinhlefaaaGreatDoorPkSound2
set_option linter.unusedVariables false
set_option linter.unusedSimpArgs false
namespace Go.Proofs.YtannohinhlefaaaGreatDoor
open Go.RowKit Go.Proofs
attribute [local go_sem] neq_nilG eql_nilG
structure E1 (w : World) (V O Q G cap k : Nat) (TB R : Nat → Nat) (d next : Nat) (T : TabS) (U : Nat → TabS) (E : Nat → Addr) (w0 : World) : Prop where
  e : EW w V O G cap k TB d next
  t : TN w O Q T E w0
  u : ∀ i, i < k → TN w (TB i) (R i) (U i) E w0
section
variable {w w' w0 : World} {V O Q G cap k : Nat} {TB R : Nat → Nat} {d next : Nat} {T : TabS} {U : Nat → TabS} {M : Nat} {mt : MeterS} {E : Nat → Addr}
theorem E1.later (h : E1 w V O Q G cap k TB R d next T U E w0) (hb : Below w.heap.size w w') : E1 w' V O Q G cap k TB R d next T U E w0 := ⟨h.e.later hb, h.t.later hb, fun i hi => (h.u i hi).later hb⟩
theorem EV.e1 (h : EV w V O Q G cap k TB R d next T U M mt E w0) : E1 w V O Q G cap k TB R d next T U E w0 := ⟨h.e, h.t, h.u⟩
theorem E1.target (h : E1 w V O Q G cap k TB R d next T U E w0) (hs : Nat) (hh : hs < 18446744073709551616) :
    Calls Tryz.prog 27 #[.pointer (some ⟨V, 0, none⟩), .int .u64 (hs : Int)] w fun e w' => e = .returned (.pointer (some ⟨TB (tIx k d hs), 0, none⟩)) ∧ Below w.heap.size w w' := etarget_any V O G cap k TB d next hs hh w h.e
theorem E1.find (h : E1 w V O Q G cap k TB R d next T U E w0) (key : Int) (hs : Nat) (hh : hs < 18446744073709551616) {en : EntS} {b : Bool} (he : T.ent key hs = en) (hb : T.has key hs = b) :
    Calls Tryz.prog 26 #[.pointer (some ⟨O, 0, none⟩), .agg #[.pointer none, .int .i64 0, .int .i64 0, .int .i64 0], .int .u64 key, .int .u64 (hs : Int)] w fun e w' =>
      e = .returned (.tuple #[.agg #[.int .u64 en.key, .int .u64 en.val, .int .u64 en.hash], .bool b]) ∧ Below w.heap.size w w' := by
  subst he hb; exact TN.find h.t key hs hh
theorem E1.findT (h : E1 w V O Q G cap k TB R d next T U E w0) {i : Nat} (hi : i < k) (key : Int) (hs : Nat) (hh : hs < 18446744073709551616) {en : EntS} {b : Bool} (he : (U i).ent key hs = en) (hb : (U i).has key hs = b) :
    Calls Tryz.prog 26 #[.pointer (some ⟨TB i, 0, none⟩), .agg #[.pointer none, .int .i64 0, .int .i64 0, .int .i64 0], .int .u64 key, .int .u64 (hs : Int)] w fun e w' =>
      e = .returned (.tuple #[.agg #[.int .u64 en.key, .int .u64 en.val, .int .u64 en.hash], .bool b]) ∧ Below w.heap.size w w' := by
  subst he hb; exact TN.find (h.u i hi) key hs hh
end
theorem row3_empty {w : World} {g : Nat} {e : TypeId} (h : Blk w g e #[]) : w.ownsRow g e 3 (.slice (some ⟨g, 0, none⟩) 0 0) 0 [] :=
  ⟨by simp, .inr ⟨g, 0, #[], rfl, Nat.le_refl _, h, by simp, by decide, rfl, by simp⟩⟩
theorem keyI_in {j n : Nat} (h : j < n) (h2 : n ≤ 1000) : keyI (j : Int) n = j := by
  unfold keyI
  rw [IntKind.wrap_u64, Int.emod_eq_of_lt (a := (j : Int)) (by omega) (by omega), Int.emod_eq_of_lt (by omega) (by omega), Int.toNat_natCast]
def XE (M O Q V k : Nat) (TB R : Nat → Nat) (b : Nat) : Prop := b = M ∨ b = O ∨ b = Q ∨ b = V ∨ ∃ i, i < k ∧ (b = TB i ∨ b = R i)
theorem ms_in {w w0 : World} {p0 : PB} {pt : Nat → PB} {k : Nat} {T T2 : TabS} {U U2 : Nat → TabS} {L0 : Int} {Lc : Nat → Int} {E : Nat → Addr} (h : MS w p0 pt k T T2 U U2 L0 Lc E w0) : (MIn p0 pt k p0.B ∧ MIn p0 pt k p0.Q) ∧ ∀ i, i < k → MIn p0 pt k (pt i).B ∧ MIn p0 pt k (pt i).Q := by
  have h0 := h.o.b
  have h1 := h.o.o
  refine ⟨⟨.inl (by omega), .inl (by omega)⟩, fun i hi => ?_⟩
  have h2 := (h.t i hi).b
  have h3 := (h.t i hi).o
  exact ⟨.inr ⟨i, hi, by omega⟩, .inr ⟨i, hi, by omega⟩⟩
theorem ea_sep {w3 w2 w0 : World} {c X k d V G5 cap5 ga n9 c9 M : Nat} {p0 : PB} {pt : Nat → PB} {T T2 : TabS} {U U2 : Nat → TabS} {L0 : Int} {Lc : Nat → Int} {vt : Value} {cs : Array Value} {E : Nat → Addr}
    (h : MM w3 c X k p0 pt T T2 U U2 L0 Lc d (.slice (some ⟨ga, 0, none⟩) n9 c9) vt cs E w0 w2) (hV : EW w3 V p0.B G5 cap5 k (fun q => (pt q).B) d 0) (hN : ∀ b, MIn p0 pt k b → b ≠ V ∧ b ≠ G5) (hX : V ≠ ga ∧ w2.heap.size ≤ V ∧ w2.heap.size ≤ G5 ∧ V ≠ G5) (hw : w0.heap.size < w2.heap.size) (hM : w3.heap.size ≤ M) :
    ESep V p0.B p0.Q G5 M k (fun q => (pt q).B) (fun q => (pt q).Q) w0.heap.size ∧ ∀ b, XE M p0.B p0.Q V k (fun q => (pt q).B) (fun q => (pt q).Q) b → b ≠ w0.heap.size ∧ b ≠ ga ∧ w0.heap.size ≤ b ∧ (w3.heap.size ≤ b → b = M) := by
  obtain ⟨hO, hTB⟩ := ms_in h.m
  have hVz := hV.b.lt
  have hGz := hV.lt
  have hgz := (h.ra.lt ga rfl).2
  have hz : ∀ b, MIn p0 pt k b → b ≠ V ∧ b ≠ G5 ∧ b < w3.heap.size ∧ w2.heap.size ≤ b ∧ b ≠ ga := fun b hb => ⟨(hN b hb).1, (hN b hb).2, (h.fr b hb).2.2.2.2, h.mb b hb, fun e => (h.fr b hb).2.2.1 (by rw [e]; rfl)⟩
  have z1 := hz _ hO.1
  have z2 := hz _ hO.2
  have z0 := h.m.o.b
  have z0' := h.m.o.o
  refine ⟨⟨by omega, ⟨by omega, by omega, by omega, by omega⟩, ⟨by omega, by omega, by omega⟩, ⟨by omega, by omega⟩, fun i hi => ?_, fun i hi => ?_, fun i j hi hj hij => ?_⟩, fun b hb => ?_⟩
  · have h1 := hz _ (hTB i hi).1
    have h3 := h.m.s0 i hi
    have h6 := (h.m.t i hi).b
    exact ⟨h1.1, h1.2.1, by omega, by omega, by omega⟩
  · have h1 := hz _ (hTB i hi).2
    have h3 := h.m.s0 i hi
    have h6 := (h.m.t i hi).b
    exact ⟨h1.1, h1.2.1, by omega, by omega, by omega⟩
  · have h6 := (h.m.t i hi).b
    have h7 := (h.m.t j hj).b
    have h8 := (h.m.t i hi).o
    have h9 := (h.m.t j hj).o
    rcases Nat.lt_or_gt_of_ne hij with e | e
    · have := h.m.s1 i j e hj; exact ⟨by omega, by omega, by omega, by omega⟩
    · have := h.m.s1 j i e hi; exact ⟨by omega, by omega, by omega, by omega⟩
  · rcases hb with e | e | e | e | ⟨i, hi, e | e⟩
    · subst e; exact ⟨by omega, by omega, by omega, fun _ => rfl⟩
    · subst e; exact ⟨by omega, by omega, by omega, fun _ => by omega⟩
    · subst e; exact ⟨by omega, by omega, by omega, fun _ => by omega⟩
    · subst e; exact ⟨by omega, by omega, by omega, fun _ => by omega⟩
    · have h1 := hz _ (hTB i hi).1
      dsimp only at e
      exact ⟨by omega, by omega, by omega, fun _ => by omega⟩
    · have h1 := hz _ (hTB i hi).2
      dsimp only at e
      exact ⟨by omega, by omega, by omega, fun _ => by omega⟩
theorem ea_step {w w0 : World} {V O Q G cap k d next g gn n c : Nat} {TB R : Nat → Nat} {T : TabS} {U : Nat → TabS} {M : Nat} {mt : MeterS} {E : Nat → Addr} {H : Int → Nat} {m : Int} {P : Nat → Bool}
    (h : EV w V O Q G cap k TB R d next T U M mt E w0) (hl : mt.limited = false) (L : EL T U k d H g gn m n next c P) (hk : k = 1 ∨ (k = 2 ∧ d ≤ 15)) (hHb : ∀ q, H q < 18446744073709551616) (hm : m ≤ 7 * (gn : Int)) (hng : next ≤ g) :
    Calls Tryz.prog 29 #[.pointer (some ⟨V, 0, none⟩), .pointer (some ⟨M, 0, none⟩)] w fun e w' => e = .returned (.bool (decide (next < g))) ∧
      ∃ (T' : TabS) (U' : Nat → TabS) (mt' : MeterS), mt'.limited = false ∧ EV w' V O Q G cap k TB R d (if next < g then next + 1 else next) T' U' M mt' E w0 ∧ EL T' U' k d H g gn m n (if next < g then next + 1 else next) c P ∧ Chg (XE M O Q V k TB R) w w' := by
  by_cases hn : next < g
  · obtain ⟨hok, hL⟩ := L.step hk hHb hm hn
    refine (estep_ok h (by rw [L.e.tn]; exact hn) hl hok).mono ?_
    rintro e w' ⟨rfl, h1, h2⟩
    rw [decide_eq_true hn, if_pos hn]
    refine ⟨rfl, _, _, _, ?_, h1, hL, h2⟩
    exact (addN_limited _ _ _ _ _).trans hl
  · refine (estep_no h (by rw [L.e.tn]; omega) _).mono ?_
    rintro e w' ⟨rfl, h1, h2⟩
    rw [decide_eq_false hn, if_neg hn]
    exact ⟨rfl, _, _, _, hl, h1, L, Chg.of_below h2⟩
def sumA (T : TabS) (U : Nat → TabS) : Nat → Int
  | 0 => 0
  | q + 1 => T.lv + lvSum U q
theorem sumA_succ (T : TabS) (U : Nat → TabS) (q : Nat) : sumA T U (q + 1) = sumA T U q + (if q = 0 then T.lv else (U (q - 1)).lv) := by
  cases q with
  | zero => simp [sumA, lvSum]
  | succ q => simp [sumA, lvSum, List.range_succ]; omega
def allT (T : TabS) (U : Nat → TabS) : Nat → TabS
  | 0 => T
  | q + 1 => U q
def allQ (p0 : PB) (pt : Nat → PB) : Nat → Nat
  | 0 => p0.Q
  | j + 1 => (pt j).Q
theorem E1.one {w w0 : World} {V G cap k d next : Nat} {p0 : PB} {pt : Nat → PB} {T : TabS} {U : Nat → TabS} {E : Nat → Addr} (h : E1 w V p0.B p0.Q G cap k (fun q => (pt q).B) (fun q => (pt q).Q) d next T U E w0) {q : Nat} (hq : q < k + 1) : TN w (allB p0 pt q) (allQ p0 pt q) (allT T U q) E w0 := by
  cases q with
  | zero => exact h.t
  | succ q => exact h.u q (by omega)
theorem EL.one {T : TabS} {U : Nat → TabS} {k d g gn n nx c : Nat} {H : Int → Nat} {m : Int} {P : Nat → Bool} (h : EL T U k d H g gn m n nx c P) (hn : n ≤ 1000) {q : Nat} (hq : q < k + 1) : TFun (allT T U q) H ∧ KB (allT T U q) := by
  cases q with
  | zero =>
    refine ⟨h.e.t, fun i g' k' ha => ?_⟩
    obtain ⟨⟨x, hx, rfl⟩, -⟩ := h.o i (h.e.t.has_of ha)
    omega
  | succ q =>
    have hF := h.e.u.f q (by omega)
    refine ⟨hF, fun i g' k' ha => ?_⟩
    obtain ⟨⟨x, hx, rfl⟩, -⟩ := h.u q (by omega) i (hF.has_of ha)
    omega
theorem sumA_bd {T : TabS} {U : Nat → TabS} {n : Nat} (h : ∀ q, q < n → 0 ≤ (allT T U q).lv ∧ (allT T U q).lv ≤ 1000) : ∀ q, q ≤ n → 0 ≤ sumA T U q ∧ sumA T U q ≤ 1000 * (q : Int)
  | 0, _ => ⟨Int.le_refl _, by simp [sumA]⟩
  | q + 1, hq => by
    have h1 := sumA_bd h q (by omega)
    have h2 := h q (by omega)
    have h3 := sumA_succ T U q
    have h4 : (allT T U q).lv = if q = 0 then T.lv else (U (q - 1)).lv := by cases q <;> rfl
    rw [← h4] at h3
    omega
theorem allT_lv (T : TabS) (U : Nat → TabS) (q : Nat) : (allT T U q).lv = if q = 0 then T.lv else (U (q - 1)).lv := by cases q <;> rfl
set_option maxRecDepth 100000 in
set_option maxHeartbeats 16000000 in
theorem evacAll_any (old new depth : Int) (two : Bool) (v1 v2 v3 : Value) (n1 n2 n3 : Nat) (f1 f2 f3 : Nat → Nat → Int) (E : Nat → Addr) (w0 : World) (he : EC w0 E [1, 2, 4, 5, 14, 16]) (hT : Tab64 w0) (h1 : RowsAt w0 v1 n1 1 .u64 f1) (h2 : RowsAt w0 v2 n2 1 .i64 f2) (h3 : RowsAt w0 v3 n3 1 .i64 f3) :
    Calls Tryz.prog 4 #[.agg (caseC old new depth two v1 v2 v3)] w0 fun e w' => e = .returned (.bool true) ∧ Below w0.heap.size w0 w' := by
  have m2 := h2.2.2
  have m3 := h3.2.2
  unfold maxLen at m2 m3
  have HEC := Lib.hid he
  have HT := Lib.hid hT
  have AL := Lib.hid (fun (w' : World) (hb' : Below w0.heap.size w0 w') => alive12_any E w' (HEC.out.below hb') (hT.below hb'))
  obtain ⟨a2, cap2, rfl, hx2⟩ := h2.cellAt (by decide)
  obtain ⟨a3, cap3, rfl, hx3⟩ := h3.cellAt (by decide)
  clear he hT h2 h3
  by_cases hs : ¬ ShortC old new depth n1 n2 n3
  · obtain ⟨a1, cap1, rfl, -⟩ := h1.cellAt (by decide)
    have LG := Lib.hid (fun (w' : World) => long_any old new depth two a1 a2 a3 n1 n2 n3 cap1 cap2 cap3 w')
    rw [decide_eq_false hs] at LG
    unfold caseC at LG ⊢
    clear hs h1 hx2 hx3
    have CB := Lib.hid (Blk.new w0 62 #[.int .i64 old, .int .i64 new, .int .i64 depth, .bool two, .slice a1 n1 cap1, .slice a2 n2 cap2, .slice a3 n3 cap3])
    go_enter Tryz.func4, Tryz.ntmps4
    go_wp2_with (first
      | (go_at_call 22; (with_reducible refine (AL.out _ ((Below.refl _ _).alloc (Nat.le_refl _) _)).mono ?_); rintro e w1 ⟨rfl, hb1⟩; have C1 := Lib.hid (CB.out.below hb1 CB.out.lt); have c1 := case_cells C1.out; have c10 := c1.1; have c11 := c1.2.1; have c12 := c1.2.2.1; have c13 := c1.2.2.2.1; have c14 := c1.2.2.2.2.1; have c15 := c1.2.2.2.2.2.1; have c16 := c1.2.2.2.2.2.2.1; have zc1 := C1.out.lt; clear c1)
      | (go_at_call 23; (with_reducible refine (LG.out _).mono ?_); rintro e w2 ⟨rfl, hb2⟩))
    go_ret
    exact ⟨rfl, ((show Below w0.heap.size w0 _ by go_grown).trans (hb1.mono (by simp))).trans (hb2.mono (by have := hb1.size; simp at this; omega))⟩
  have hs := Classical.not_not.1 hs
  obtain ⟨k1, k2, k3, k4, k5, k6, k7, k8, k9, k10⟩ := hs
  obtain ⟨b1, o1, cap1, G, rfl, hb1z, hG, hc1⟩ := hashes_of h1 k1
  obtain ⟨g, rfl⟩ := Int.eq_ofNat_of_zero_le (show 0 ≤ old by rw [rightB_iff] at k5; omega)
  obtain ⟨gn, rfl⟩ := Int.eq_ofNat_of_zero_le (show 0 ≤ new by rw [rightB_iff] at k6; omega)
  obtain ⟨d, rfl⟩ := Int.eq_ofNat_of_zero_le k9
  have LG := Lib.hid (fun (w' : World) => long_any (g : Int) (gn : Int) (d : Int) two (some ⟨b1, o1, none⟩) a2 a3 n1 n2 n3 cap1 cap2 cap3 w')
  rw [decide_eq_true (show ShortC (g : Int) (gn : Int) (d : Int) n1 n2 n3 from ⟨k1, k2, k3, k4, k5, k6, k7, k8, k9, k10⟩)] at LG
  obtain ⟨k, hk⟩ : ∃ k, k = if two = true then 2 else 1 := ⟨_, rfl⟩
  have hk12 : (k = 2 ∧ two = true) ∨ (k = 1 ∧ two = false) := by cases two <;> simp at hk <;> simp [hk]
  have MD := Lib.hid (fun (w' : World) (hw' : Below w0.heap.size w0 w') => made_any g gn d k two hk k5 k6 (by omega) b1 o1 n1 cap1 k1 k2 G a2 a3 n2 n3 cap2 cap3 k3 k4 (fun i => f2 i 0) (fun i => f3 i 0) E w0 w' HEC.out HT.out hw' hb1z hG hc1
    (fun h => by obtain ⟨b, off, e, hz, hc⟩ := hx2 h; exact ⟨b, off, e, hz, fun w' hw i hi => by simpa using hc w' hw i hi 0 (by decide)⟩)
    (fun h => by obtain ⟨b, off, e, hz, hc⟩ := hx3 h; exact ⟨b, off, e, hz, fun w' hw i hi => by simpa using hc w' hw i hi 0 (by decide)⟩))
  have HHb := Lib.hid (show ∀ q, hashH n1 G q < 18446744073709551616 from hashH_lt k1 hG)
  have hgb := right_bd k5
  have hgnb := right_bd k6
  have HCS := Lib.hid (rfl : caseC (g : Int) (gn : Int) (d : Int) two (.slice (some ⟨b1, o1, none⟩) n1 cap1) (.slice a2 n2 cap2) (.slice a3 n3 cap3) = #[.int .i64 (g : Int), .int .i64 (gn : Int), .int .i64 (d : Int), .bool two, .slice (some ⟨b1, o1, none⟩) n1 cap1, .slice a2 n2 cap2, .slice a3 n3 cap3])
  have CB := Lib.hid (Blk.new w0 62 #[.int .i64 (g : Int), .int .i64 (gn : Int), .int .i64 (d : Int), .bool two, .slice (some ⟨b1, o1, none⟩) n1 cap1, .slice a2 n2 cap2, .slice a3 n3 cap3])
  unfold caseC at LG MD ⊢
  have HC1 := Lib.hid hc1
  clear hk h1 hx2 hx3 hG hc1 k5 k6
  go_enter Tryz.func4, Tryz.ntmps4
  go_upto_region 6 with (first
    | (go_at_call 22; (with_reducible refine (AL.out _ ((Below.refl _ _).alloc (Nat.le_refl _) _)).mono ?_); rintro e w1 ⟨rfl, hb1⟩; have C1 := Lib.hid (CB.out.below hb1 CB.out.lt); have c1 := case_cells C1.out; have c10 := c1.1; have c11 := c1.2.1; have c12 := c1.2.2.1; have c13 := c1.2.2.2.1; have c14 := c1.2.2.2.2.1; have c15 := c1.2.2.2.2.2.1; have c16 := c1.2.2.2.2.2.2.1; have zc1 := C1.out.lt; clear c1)
    | (go_at_call 23; (with_reducible refine (LG.out _).mono ?_); rintro e w2 ⟨rfl, hb2⟩; have C2 := Lib.hid (C1.out.below hb2 C1.out.lt); have c1 := case_cells C2.out; have c20 := c1.1; have c21 := c1.2.1; have c22 := c1.2.2.1; have c23 := c1.2.2.2.1; have c24 := c1.2.2.2.2.1; have c25 := c1.2.2.2.2.2.1; have c26 := c1.2.2.2.2.2.2.1; have zc2 := C2.out.lt; have B2 := Lib.hid (((show Below w0.heap.size w0 _ by go_grown).trans (hb1.mono (by simp))).trans (hb2.mono (by have := hb1.size; simp at this; omega))); clear c1)
    | (go_at_call 24; (with_reducible refine (MD.out _ B2.out).mono ?_); rintro e w3 ⟨V, G5, cap5, X, gt, tcap, ga, acap, c, p0, pt, T, U, rfl, hM3, hV3, hN3, hX3, hE3⟩; have M3 := Lib.hid hM3; have V3 := Lib.hid hV3; have N3 := Lib.hid hN3; have E3 := Lib.hid hE3; have C3 := Lib.hid (C2.out.below hM3.b C2.out.lt); have c1 := case_cells C3.out; have c30 := c1.1; have c31 := c1.2.1; have c32 := c1.2.2.1; have c33 := c1.2.2.2.1; have c34 := c1.2.2.2.2.1; have c35 := c1.2.2.2.2.2.1; have c36 := c1.2.2.2.2.2.2.1; have zc3 := C3.out.lt; clear c1; clear hM3 hV3 hN3 hE3))
  have e9 : IntKind.i64.wrap ((n2 : Int) + (n3 : Int)) = (n2 : Int) + (n3 : Int) := by rw [IntKind.wrap_i64]; omega
  have e10 : IntKind.i64.wrap (6 * (gn : Int)) = 6 * (gn : Int) := by rw [IntKind.wrap_i64]; omega
  by_cases hov : 6 * (gn : Int) < (n2 : Int) + (n3 : Int)
  · go_wp2
    go_ret
    exact ⟨rfl, B2.out.trans (M3.out.b.mono B2.out.size)⟩
  have hov' : (n2 : Int) + (n3 : Int) ≤ 6 * (gn : Int) := by omega
  go_upto_region 9 with (fail)
  refine wp_at (fun w6 hw6 => ?_)
  have hkk : k = 1 ∨ (k = 2 ∧ d ≤ 15) := by omega
  have S3 := Lib.hid (show E1 w3 V p0.B p0.Q G5 cap5 k (fun q => (pt q).B) (fun q => (pt q).Q) d 0 T U E w0 from ⟨V3.out, M3.out.m.o.t, fun i hi => (M3.out.m.t i hi).t⟩)
  have L3 := Lib.hid (E3.out.start hkk)
  obtain ⟨P, hP⟩ : ∃ P, P = presB T U k d (hashH n1 G) := ⟨_, rfl⟩
  rw [← hP] at L3
  have HP := Lib.hid (show ∀ x : Nat, P x = (T.has x (hashH n1 G x) || (U (tIx k d (hashH n1 G x))).has x (hashH n1 G x)) from fun x => by rw [hP]; rfl)
  have B30 := Lib.hid (show Below w0.heap.size w0 w3 from B2.out.trans (M3.out.b.mono B2.out.size))
  have EN := Lib.hid (fun (q : Int) (w' : World) (hw' : Below w0.heap.size w0 w') => entry12_any (g : Int) (gn : Int) (d : Int) two (.slice a2 n2 cap2) (.slice a3 n3 cap3) b1 o1 n1 cap1 k1 (by omega) G q w' (Nat.lt_of_lt_of_le hb1z hw'.size) (HC1.out w' hw') rfl rfl)
  unfold caseC at EN
  have C6 := Lib.hid (C3.out.below (show Below w3.heap.size w3 w6 by rw [hw6]; go_grown) C3.out.lt)
  have c6 := case_cells C6.out
  have c64 := c6.2.2.2.2.1
  have zc6 := C6.out.lt
  have W6 := Lib.hid (show w6.ownsRow w3.heap.size 47 3 (.slice (some ⟨w3.heap.size, 0, none⟩) 0 0) (thereL P (hashH n1 G) 0).length (entV (thereL P (hashH n1 G) 0)) from by rw [hw6]; exact row3_empty (Blk.new _ _ _))
  have B6 := Lib.hid (show Below w3.heap.size w3 w6 by rw [hw6]; go_grown)
  obtain ⟨i0, hi, hz0, hz1, hz2⟩ := info_parts infoE
  have hw02 : w0.heap.size < w2.heap.size := C2.out.lt
  clear hP c6 c10 c11 c12 c13 c14 c15 c16 zc1 c20 c21 c22 c23 c24 c25 c26 zc2 c30 c31 c32 c33 c34 c35 c36 zc3 MD LG AL CB C1 C2 hb1 hb2 hw6 e9 e10 hov
  go_wp2
  go_loopw [6, 59] (fun v6 v59 wr => ∃ j : Nat, j ≤ n1 ∧ v59 = .int .i64 (j : Int) ∧ wr.ownsRow w3.heap.size 47 3 v6 (thereL P (hashH n1 G) j).length (entV (thereL P (hashH n1 G) j)) ∧ Below w3.heap.size w3 wr) (fun _ v59 _ => n1 - (intOf v59).toNat)
  case atStart => exact ⟨0, Nat.zero_le _, rfl, W6.out, B6.out⟩
  case round =>
    clear c64 zc6 C6 W6 B6
    obtain ⟨j, hj, rfl, hW, hB⟩ := hrel
    have KW := Lib.hid hW
    have KB := Lib.hid hB
    have CR := Lib.hid (C3.out.below hB C3.out.lt)
    have cr := case_cells CR.out
    obtain ⟨r0, r1, r2, r3, r4, r5, r6, rz⟩ := cr
    obtain ⟨va, vc, rfl⟩ := ownsRow_slice hW
    have hzB := hB.size
    clear hW hB
    by_cases hlt : j < n1
    · have hltI : (j : Int) < (n1 : Int) := by omega
      have EQ := Lib.hid (EN.out (j : Int))
      rw [keyI_in hlt (by omega)] at EQ
      have hPj := HP.out j
      rw [hashH_in hlt] at hPj
      have hGx := HHb.out (j : Int)
      rw [hashH_in hlt] at hGx
      have hap := L3.out.e.apart (j : Int)
      rw [hashH_in hlt] at hap
      have hent : entK (hashH n1 G) (j : Int) = ⟨(j : Int), (j : Int) + 5, (G j : Int)⟩ := by unfold entK; rw [hashH_in hlt]
      have hsuc := thereL_succ P (hashH n1 G) j
      rw [hent] at hsuc
      obtain ⟨h, hh⟩ : ∃ h, h = G j := ⟨_, rfl⟩
      rw [← hh] at EQ hPj hGx hap hsuc
      have hy := tIx_lt (h := h) hkk
      have TG := Lib.hid (fun (w' : World) (h' : Below w3.heap.size w3 w') => (S3.out.later h').target h hGx)
      obtain ⟨en1, he1⟩ : ∃ e, T.ent (j : Int) h = e := ⟨_, rfl⟩
      obtain ⟨bb1, hbb1⟩ : ∃ b, T.has (j : Int) h = b := ⟨_, rfl⟩
      obtain ⟨en2, he2⟩ : ∃ e, (U (tIx k d h)).ent (j : Int) h = e := ⟨_, rfl⟩
      obtain ⟨bb2, hbb2⟩ : ∃ b, (U (tIx k d h)).has (j : Int) h = b := ⟨_, rfl⟩
      have FI := Lib.hid (fun (w' : World) (h' : Below w3.heap.size w3 w') => (S3.out.later h').find (j : Int) h hGx he1 hbb1)
      have FT := Lib.hid (fun (w' : World) (h' : Below w3.heap.size w3 w') => (S3.out.later h').findT hy (j : Int) h hGx he2 hbb2)
      rw [hbb1, hbb2] at hPj hap
      generalize tIx k d h = y at *
      have HSUC := Lib.hid hsuc
      clear hent he1 he2 hbb1 hbb2 hsuc hh
      go_upto_region 13 with (go_at_call 25; (with_reducible refine (EQ.out _ (B30.out.trans (KB.out.mono B30.out.size))).mono ?_); rintro e w7 ⟨rfl, hb7⟩; have W7 := Lib.hid (ownsRow_later KW.out hb7); have B7 := Lib.hid (KB.out.trans (hb7.mono KB.out.size)))
      refine wp_at (fun w8 hw8 => ?_)
      have hb8 : Below w7.heap.size w7 w8 := by rw [hw8]; go_grown
      have A8 := Lib.hid (show Blk w8 w7.heap.size 47 #[.int .u64 (j : Int), .int .u64 ((j : Int) + 5), .int .u64 (h : Int)] by rw [hw8]; exact Blk.new _ _ _)
      obtain ⟨q80, q81, q82⟩ := cells3 A8.out
      have z8 := A8.out.lt
      have W8 := Lib.hid (ownsRow_later W7.out hb8)
      have B8 := Lib.hid (B7.out.trans (hb8.mono B7.out.size))
      obtain ⟨X8, hX8⟩ : ∃ X8, X8 = w7.heap.size := ⟨_, rfl⟩
      rw [← hX8] at A8 q80 q81 q82 z8 ⊢
      have ra0 := (M3.out.later B8.out).ra
      obtain ⟨g9, cap9, cur9, e9, -, hg9, hc9⟩ := row_ptrs ra0 (by omega)
      cases e9
      have ga0 : w8.cell? ⟨ga, 0, none⟩ = some (.pointer (some ⟨p0.B, 0, none⟩)) := hc9 0 (by omega)
      have zga := hg9.lt
      have hk0 : (0 : Int) < ((k + 1 : Nat) : Int) := by omega
      replace hw8 := Lib.hid hw8
      replace hX8 := Lib.hid hX8
      clear hb8 ra0 hg9 hc9 KW KB W7 B7 r0 r1 r2 r3 r4 r5 r6 rz CR hb7
      go_cut [9, 10] (fun v9 v10 wx => ∃ P9, v9 = .pointer (some ⟨P9, 0, none⟩) ∧ v10 = .bool bb1 ∧ Below w8.heap.size w8 wx ∧ Blk wx P9 47 #[.int .u64 en1.key, .int .u64 en1.val, .int .u64 en1.hash])
      case first =>
        refine wp_region_T (fun _ => False) #[⟨0, 0, 73786976294838206464, 16, 0⟩, ⟨1, 1, 147573952589676412928, 73786976294838206464, 0⟩, ⟨2, 3, 295147905179352825856, 147573952589676412928, 1⟩, ⟨0, 0, 590295810358705651712, 0, 0⟩, ⟨0, 0, 1180591620717411303424, 256, 0⟩, ⟨16, 16, 2361183241434822606848, 1180591620717411303424, 1⟩, ⟨0, 0, 4722366482869645213696, 256, 0⟩, ⟨64, 64, 9444732965739290427392, 4722366482869645213696, 1⟩, ⟨172, 255, 18889465931478580854784, 12691359922712171511808, 3⟩, ⟨256, 511, 36893488147419103232, 18889465931478580854784, 0⟩, ⟨512, 1023, 37778931862957161709568, 36893488147419103232, 0⟩, ⟨512, 1023, 75557863725914323419136, 36893488147419103232, 0⟩, ⟨0, 0, 512, 0, 2⟩, ⟨6143, 6143, 0, 37778931862957161710080, 3⟩, ⟨16383, 16383, 1024, 75557863725914323419136, 0⟩] 164 (.step 0 0 (.step 1 0 (.step 2 1 (.step 3 0 (.step 4 0 (.step 5 1 (.step 6 0 (.step 7 1 (.fork (.alt 8 (.step 9 0 (.step 10 0 (.step 11 0 (.step 12 2 (.step 13 3 (.step 14 0 Plan.done)))))) (.alt 12 (.step 8 3 (.step 9 0 (.step 10 0 (.step 11 0 (.step 13 3 (.step 14 0 Plan.done)))))) Plan.none))))))))))) (by kernel_rfl) (by kernel_rfl) (by kernel_rfl) (by kernel_rfl) (by kernel_rfl) (by kernel_rfl) (fun c a d v w h => by cases d <;> exact h) ?_
        refine T_calcA (h := ?_)
        try simp only [Act.put, List.setIfInBounds_toArray, List.set_cons_zero, List.set_cons_succ]
        refine T_calcA (h := ?_)
        try simp only [Act.put, List.setIfInBounds_toArray, List.set_cons_zero, List.set_cons_succ]
        refine T_load1A (hu := Tryz.underlying25) (h := ?_)
        try simp only [Act.put, List.setIfInBounds_toArray, List.set_cons_zero, List.set_cons_succ]
        refine T_calcA (h := ?_)
        try simp only [Act.put, List.setIfInBounds_toArray, List.set_cons_zero, List.set_cons_succ]
        refine T_calcA (h := ?_)
        try simp only [Act.put, List.setIfInBounds_toArray, List.set_cons_zero, List.set_cons_succ]
        refine T_load1A (hu := Tryz.underlying45) (h := ?_)
        try simp only [Act.put, List.setIfInBounds_toArray, List.set_cons_zero, List.set_cons_succ]
        refine T_calcA (h := ?_)
        try simp only [Act.put, List.setIfInBounds_toArray, List.set_cons_zero, List.set_cons_succ]
        refine T_load1A (hu := Tryz.underlying45) (h := ?_)
        try simp only [Act.put, List.setIfInBounds_toArray, List.set_cons_zero, List.set_cons_succ]
        refine T_fork (T_alt (by simp only [List.getElem?_toArray, List.getElem?_cons_succ, List.getElem?_cons_zero]; rfl) (by rfl) (fun K hK => ?_) (T_alt (by simp only [List.getElem?_toArray, List.getElem?_cons_succ, List.getElem?_cons_zero]; rfl) (by rfl) (fun K hK => ?_) T_none))
        (go_wp2_with ((go_at_call 26; go_loud ((with_reducible refine (FI.out _ (by first | exact B8.out.drew | exact (B8.out.alloc B8.out.size _).drew)).mono ?_); rintro e w9 ⟨rfl, hb9⟩; have Bq : Below w8.heap.size w8 w9 := (by first | exact Below.undrew hb9 | exact (((Below.refl _ w8).alloc (Nat.le_refl _) _).drew).trans (hb9.mono (by simp))); (try have P9 : Hid (Blk w9 w8.heap.size 47 #[.int .u64 0, .int .u64 0, .int .u64 0]) := Lib.hid (Blk.below (Blk.drew (Blk.new w8 _ _)) hb9 (by simp))); (try have p9 := cells3 P9.out); (try have p90 := p9.1); (try have p91 := p9.2.1); (try have p92 := p9.2.2); (try clear p9); (try have pf9 := fun j => P9.out.frozen j); (try have zP9 := P9.out.lt)))); refine hkI hK (h := ?_); clear hK K)
        try simp only [Act.put, List.setIfInBounds_toArray, List.set_cons_zero, List.set_cons_succ]
        refine T_calcA (h := ?_)
        try simp only [Act.put, List.setIfInBounds_toArray, List.set_cons_zero, List.set_cons_succ]
        refine T_calcA (h := ?_)
        try simp only [Act.put, List.setIfInBounds_toArray, List.set_cons_zero, List.set_cons_succ]
        refine T_calcA (h := ?_)
        try simp only [Act.put, List.setIfInBounds_toArray, List.set_cons_zero, List.set_cons_succ]
        refine T_doA (h := fun K hK => ?_); go_wp2_with (fail); refine hkI hK (h := ?_); clear hK K
        try simp only [Act.put, List.setIfInBounds_toArray, List.set_cons_zero, List.set_cons_succ]
        refine T_lastA (h := fun K hK => ?_); go_wp2_with (fail); refine hK.out _ _ ?_; clear hK K
        try simp only [Act.put, List.setIfInBounds_toArray, List.set_cons_zero, List.set_cons_succ]
        refine T_calcA (h := ?_)
        try simp only [Act.put, List.setIfInBounds_toArray, List.set_cons_zero, List.set_cons_succ]
        refine T_done ?_
        rotate_left 1
        (go_wp2_with (fail); refine hkI hK (h := ?_); clear hK K)
        try simp only [Act.put, List.setIfInBounds_toArray, List.set_cons_zero, List.set_cons_succ]
        refine T_lastA (h := fun K hK => ?_); go_wp2_with ((go_at_call 26; go_loud ((with_reducible refine (FI.out _ (by first | exact B8.out.drew | exact (B8.out.alloc B8.out.size _).drew)).mono ?_); rintro e w9 ⟨rfl, hb9⟩; have Bq : Below w8.heap.size w8 w9 := (by first | exact Below.undrew hb9 | exact (((Below.refl _ w8).alloc (Nat.le_refl _) _).drew).trans (hb9.mono (by simp))); (try have P9 : Hid (Blk w9 w8.heap.size 47 #[.int .u64 0, .int .u64 0, .int .u64 0]) := Lib.hid (Blk.below (Blk.drew (Blk.new w8 _ _)) hb9 (by simp))); (try have p9 := cells3 P9.out); (try have p90 := p9.1); (try have p91 := p9.2.1); (try have p92 := p9.2.2); (try clear p9); (try have pf9 := fun j => P9.out.frozen j); (try have zP9 := P9.out.lt)))); refine hK.out _ _ ?_; clear hK K
        try simp only [Act.put, List.setIfInBounds_toArray, List.set_cons_zero, List.set_cons_succ]
        refine T_calcA (h := ?_)
        try simp only [Act.put, List.setIfInBounds_toArray, List.set_cons_zero, List.set_cons_succ]
        refine T_calcA (h := ?_)
        try simp only [Act.put, List.setIfInBounds_toArray, List.set_cons_zero, List.set_cons_succ]
        refine T_calcA (h := ?_)
        try simp only [Act.put, List.setIfInBounds_toArray, List.set_cons_zero, List.set_cons_succ]
        refine T_lastA (h := fun K hK => ?_); go_wp2_with (fail); refine hK.out _ _ ?_; clear hK K
        try simp only [Act.put, List.setIfInBounds_toArray, List.set_cons_zero, List.set_cons_succ]
        refine T_calcA (h := ?_)
        try simp only [Act.put, List.setIfInBounds_toArray, List.set_cons_zero, List.set_cons_succ]
        refine T_done ?_
        rotate_left 1
        rotate_right 2
        all_goals (go_wp2; go_meet)
        all_goals
          first
            | exact ⟨_, rfl, rfl, Bq.alloc Bq.size _, Blk.new _ _ _⟩
            | exact ⟨_, rfl, rfl, ((Bq.setCell (p := ⟨_, 0, none⟩) (Nat.le_refl _) _).setCell (p := ⟨_, 1, none⟩) (Nat.le_refl _) _).setCell (p := ⟨_, 2, none⟩) (Nat.le_refl _) _, ((P9.out.set 0 _).set 1 _).set 2 _⟩
            | exact ⟨_, rfl, rfl, ((Bq.setCell (p := ⟨wt.heap.size, 0, none⟩) Bt.size _).setCell (p := ⟨wt.heap.size, 1, none⟩) Bt.size _).setCell (p := ⟨wt.heap.size, 2, none⟩) Bt.size _, ((PB.out.set 0 _).set 1 _).set 2 _⟩
      case rest =>
        obtain ⟨P9, rfl, rfl, hbc, -⟩ := hcut
        have BC := Lib.hid (B8.out.trans (hbc.mono B8.out.size))
        have WC := Lib.hid (ownsRow_later W8.out hbc)
        have AC := Lib.hid (A8.out.below hbc A8.out.lt)
        obtain ⟨qc0, qc1, qc2⟩ := cells3 AC.out
        have zc := AC.out.lt
        clear W8 A8 B8 q80 q81 q82 z8 ga0 zga hbc
        go_upto_region 14 with (fail)
        go_cut [11, 12] (fun v11 v12 wx => ∃ PA, v11 = .pointer (some ⟨PA, 0, none⟩) ∧ v12 = .bool bb2 ∧ Below wc.heap.size wc wx ∧ Blk wx PA 47 #[.int .u64 en2.key, .int .u64 en2.val, .int .u64 en2.hash])
        case first =>
          refine wp_region_T (fun _ => False) #[⟨0, 0, 302231454903657293676544, 8, 0⟩, ⟨0, 0, 604462909807314587353088, 256, 0⟩, ⟨2, 2, 1208925819614629174706176, 604462909807314587353088, 1⟩, ⟨5, 7, 2417851639229258349412352, 1511157274518286468382720, 2⟩, ⟨0, 0, 4835703278458516698824704, 0, 0⟩, ⟨0, 0, 9671406556917033397649408, 256, 0⟩, ⟨32, 32, 19342813113834066795298816, 9671406556917033397649408, 1⟩, ⟨0, 0, 38685626227668133590597632, 256, 0⟩, ⟨128, 128, 77371252455336267181195264, 38685626227668133590597632, 1⟩, ⟨344, 511, 154742504910672534362390528, 103967620486858109024731136, 3⟩, ⟨512, 1023, 151115727451828646838272, 154742504910672534362390528, 0⟩, ⟨1024, 2047, 309485009821345068724781056, 151115727451828646838272, 0⟩, ⟨1024, 2047, 618970019642690137449562112, 151115727451828646838272, 0⟩, ⟨0, 0, 2048, 0, 2⟩, ⟨12287, 12287, 0, 309485009821345068724783104, 3⟩, ⟨32767, 32767, 4096, 618970019642690137449562112, 0⟩] 324 (.step 0 0 (.step 1 0 (.step 2 1 (.step 4 0 (.step 5 0 (.step 6 1 (.step 7 0 (.step 8 1 (.fork (.alt 3 (.fork (.alt 9 (.step 10 0 (.step 11 0 (.step 12 0 (.step 13 2 (.step 14 3 (.step 15 0 Plan.done)))))) (.alt 13 (.step 9 3 (.step 10 0 (.step 11 0 (.step 12 0 (.step 14 3 (.step 15 0 Plan.done)))))) Plan.none))) (.alt 13 (.step 3 2 (.step 9 3 (.step 10 0 (.step 11 0 (.step 12 0 (.step 14 3 (.step 15 0 Plan.done))))))) Plan.none))))))))))) (by kernel_rfl) (by kernel_rfl) (by kernel_rfl) (by kernel_rfl) (by kernel_rfl) (by kernel_rfl) (fun c a d v w h => by cases d <;> exact h) ?_
          refine T_calcA (h := ?_)
          try simp only [Act.put, List.setIfInBounds_toArray, List.set_cons_zero, List.set_cons_succ]
          refine T_calcA (h := ?_)
          try simp only [Act.put, List.setIfInBounds_toArray, List.set_cons_zero, List.set_cons_succ]
          refine T_load1A (hu := Tryz.underlying45) (h := ?_)
          try simp only [Act.put, List.setIfInBounds_toArray, List.set_cons_zero, List.set_cons_succ]
          refine T_calcA (h := ?_)
          try simp only [Act.put, List.setIfInBounds_toArray, List.set_cons_zero, List.set_cons_succ]
          refine T_calcA (h := ?_)
          try simp only [Act.put, List.setIfInBounds_toArray, List.set_cons_zero, List.set_cons_succ]
          refine T_load1A (hu := Tryz.underlying45) (h := ?_)
          try simp only [Act.put, List.setIfInBounds_toArray, List.set_cons_zero, List.set_cons_succ]
          refine T_calcA (h := ?_)
          try simp only [Act.put, List.setIfInBounds_toArray, List.set_cons_zero, List.set_cons_succ]
          refine T_load1A (hu := Tryz.underlying45) (h := ?_)
          try simp only [Act.put, List.setIfInBounds_toArray, List.set_cons_zero, List.set_cons_succ]
          refine T_fork (T_alt (by simp only [List.getElem?_toArray, List.getElem?_cons_succ, List.getElem?_cons_zero]; rfl) (by rfl) (fun K hK => ?_) (T_alt (by simp only [List.getElem?_toArray, List.getElem?_cons_succ, List.getElem?_cons_zero]; rfl) (by rfl) (fun K hK => ?_) T_none))
          (go_wp2_with (first | (go_at_call 27; (with_reducible refine (TG.out _ (by first | exact BC.out.drew | exact (BC.out.alloc BC.out.size _).drew)).mono ?_); rintro e wt ⟨rfl, hbt⟩; have Bt : Below wc.heap.size wc wt := (by first | exact Below.undrew hbt | exact (((Below.refl _ wc).alloc (Nat.le_refl _) _).drew).trans (hbt.mono (by simp))); (try have P9 : Hid (Blk wt wc.heap.size 47 #[.int .u64 0, .int .u64 0, .int .u64 0]) := Lib.hid (Blk.below (Blk.drew (Blk.new wc _ _)) hbt (by simp))); have At := Lib.hid (AC.out.below Bt AC.out.lt); have qt := cells3 At.out; have qt0 := qt.1; have qt1 := qt.2.1; have qt2 := qt.2.2; have zt := At.out.lt; clear qt) | (go_at_call 26; (with_reducible refine (FT.out _ (by first | exact BC.out.trans (Bt.mono BC.out.size) | exact (BC.out.trans (Bt.mono BC.out.size)).alloc (Nat.le_trans BC.out.size Bt.size) _)).mono ?_); rintro e w9 ⟨rfl, hb9⟩; have Bq : Below wc.heap.size wc w9 := (by first | exact Bt.trans (hb9.mono Bt.size) | exact (Bt.alloc Bt.size _).trans (hb9.mono (by have := Bt.size; simp; omega))); (try replace P9 : Hid (Blk w9 wc.heap.size 47 #[.int .u64 0, .int .u64 0, .int .u64 0]) := Lib.hid (Blk.below P9.out hb9 P9.out.lt)); (try have PB : Hid (Blk w9 wt.heap.size 47 #[.int .u64 0, .int .u64 0, .int .u64 0]) := Lib.hid (Blk.below (Blk.new wt _ _) hb9 (by simp))); (first | have p9 := cells3 P9.out | have p9 := cells3 PB.out | skip); (try have p90 := p9.1); (try have p91 := p9.2.1); (try have p92 := p9.2.2); (try clear p9); (first | have pf9 := fun j => P9.out.frozen j | have pf9 := fun j => PB.out.frozen j | skip); (first | have zP9 := P9.out.lt | have zP9 := PB.out.lt | skip))); refine hkI hK (h := ?_); clear hK K)
          try simp only [Act.put, List.setIfInBounds_toArray, List.set_cons_zero, List.set_cons_succ]
          refine T_fork (T_alt (by simp only [List.getElem?_toArray, List.getElem?_cons_succ, List.getElem?_cons_zero]; rfl) (by rfl) (fun K hK => ?_) (T_alt (by simp only [List.getElem?_toArray, List.getElem?_cons_succ, List.getElem?_cons_zero]; rfl) (by rfl) (fun K hK => ?_) T_none))
          (go_wp2_with (first | (go_at_call 27; (with_reducible refine (TG.out _ (by first | exact BC.out.drew | exact (BC.out.alloc BC.out.size _).drew)).mono ?_); rintro e wt ⟨rfl, hbt⟩; have Bt : Below wc.heap.size wc wt := (by first | exact Below.undrew hbt | exact (((Below.refl _ wc).alloc (Nat.le_refl _) _).drew).trans (hbt.mono (by simp))); (try have P9 : Hid (Blk wt wc.heap.size 47 #[.int .u64 0, .int .u64 0, .int .u64 0]) := Lib.hid (Blk.below (Blk.drew (Blk.new wc _ _)) hbt (by simp))); have At := Lib.hid (AC.out.below Bt AC.out.lt); have qt := cells3 At.out; have qt0 := qt.1; have qt1 := qt.2.1; have qt2 := qt.2.2; have zt := At.out.lt; clear qt) | (go_at_call 26; (with_reducible refine (FT.out _ (by first | exact BC.out.trans (Bt.mono BC.out.size) | exact (BC.out.trans (Bt.mono BC.out.size)).alloc (Nat.le_trans BC.out.size Bt.size) _)).mono ?_); rintro e w9 ⟨rfl, hb9⟩; have Bq : Below wc.heap.size wc w9 := (by first | exact Bt.trans (hb9.mono Bt.size) | exact (Bt.alloc Bt.size _).trans (hb9.mono (by have := Bt.size; simp; omega))); (try replace P9 : Hid (Blk w9 wc.heap.size 47 #[.int .u64 0, .int .u64 0, .int .u64 0]) := Lib.hid (Blk.below P9.out hb9 P9.out.lt)); (try have PB : Hid (Blk w9 wt.heap.size 47 #[.int .u64 0, .int .u64 0, .int .u64 0]) := Lib.hid (Blk.below (Blk.new wt _ _) hb9 (by simp))); (first | have p9 := cells3 P9.out | have p9 := cells3 PB.out | skip); (try have p90 := p9.1); (try have p91 := p9.2.1); (try have p92 := p9.2.2); (try clear p9); (first | have pf9 := fun j => P9.out.frozen j | have pf9 := fun j => PB.out.frozen j | skip); (first | have zP9 := P9.out.lt | have zP9 := PB.out.lt | skip))); refine hkI hK (h := ?_); clear hK K)
          try simp only [Act.put, List.setIfInBounds_toArray, List.set_cons_zero, List.set_cons_succ]
          refine T_calcA (h := ?_)
          try simp only [Act.put, List.setIfInBounds_toArray, List.set_cons_zero, List.set_cons_succ]
          refine T_calcA (h := ?_)
          try simp only [Act.put, List.setIfInBounds_toArray, List.set_cons_zero, List.set_cons_succ]
          refine T_calcA (h := ?_)
          try simp only [Act.put, List.setIfInBounds_toArray, List.set_cons_zero, List.set_cons_succ]
          refine T_doA (h := fun K hK => ?_); go_wp2_with (fail); refine hkI hK (h := ?_); clear hK K
          try simp only [Act.put, List.setIfInBounds_toArray, List.set_cons_zero, List.set_cons_succ]
          refine T_lastA (h := fun K hK => ?_); go_wp2_with (fail); refine hK.out _ _ ?_; clear hK K
          try simp only [Act.put, List.setIfInBounds_toArray, List.set_cons_zero, List.set_cons_succ]
          refine T_calcA (h := ?_)
          try simp only [Act.put, List.setIfInBounds_toArray, List.set_cons_zero, List.set_cons_succ]
          refine T_done ?_
          rotate_left 1
          (go_wp2_with (fail); refine hkI hK (h := ?_); clear hK K)
          try simp only [Act.put, List.setIfInBounds_toArray, List.set_cons_zero, List.set_cons_succ]
          refine T_lastA (h := fun K hK => ?_); go_wp2_with (first | (go_at_call 27; (with_reducible refine (TG.out _ (by first | exact BC.out.drew | exact (BC.out.alloc BC.out.size _).drew)).mono ?_); rintro e wt ⟨rfl, hbt⟩; have Bt : Below wc.heap.size wc wt := (by first | exact Below.undrew hbt | exact (((Below.refl _ wc).alloc (Nat.le_refl _) _).drew).trans (hbt.mono (by simp))); (try have P9 : Hid (Blk wt wc.heap.size 47 #[.int .u64 0, .int .u64 0, .int .u64 0]) := Lib.hid (Blk.below (Blk.drew (Blk.new wc _ _)) hbt (by simp))); have At := Lib.hid (AC.out.below Bt AC.out.lt); have qt := cells3 At.out; have qt0 := qt.1; have qt1 := qt.2.1; have qt2 := qt.2.2; have zt := At.out.lt; clear qt) | (go_at_call 26; (with_reducible refine (FT.out _ (by first | exact BC.out.trans (Bt.mono BC.out.size) | exact (BC.out.trans (Bt.mono BC.out.size)).alloc (Nat.le_trans BC.out.size Bt.size) _)).mono ?_); rintro e w9 ⟨rfl, hb9⟩; have Bq : Below wc.heap.size wc w9 := (by first | exact Bt.trans (hb9.mono Bt.size) | exact (Bt.alloc Bt.size _).trans (hb9.mono (by have := Bt.size; simp; omega))); (try replace P9 : Hid (Blk w9 wc.heap.size 47 #[.int .u64 0, .int .u64 0, .int .u64 0]) := Lib.hid (Blk.below P9.out hb9 P9.out.lt)); (try have PB : Hid (Blk w9 wt.heap.size 47 #[.int .u64 0, .int .u64 0, .int .u64 0]) := Lib.hid (Blk.below (Blk.new wt _ _) hb9 (by simp))); (first | have p9 := cells3 P9.out | have p9 := cells3 PB.out | skip); (try have p90 := p9.1); (try have p91 := p9.2.1); (try have p92 := p9.2.2); (try clear p9); (first | have pf9 := fun j => P9.out.frozen j | have pf9 := fun j => PB.out.frozen j | skip); (first | have zP9 := P9.out.lt | have zP9 := PB.out.lt | skip))); refine hK.out _ _ ?_; clear hK K
          try simp only [Act.put, List.setIfInBounds_toArray, List.set_cons_zero, List.set_cons_succ]
          refine T_calcA (h := ?_)
          try simp only [Act.put, List.setIfInBounds_toArray, List.set_cons_zero, List.set_cons_succ]
          refine T_calcA (h := ?_)
          try simp only [Act.put, List.setIfInBounds_toArray, List.set_cons_zero, List.set_cons_succ]
          refine T_calcA (h := ?_)
          try simp only [Act.put, List.setIfInBounds_toArray, List.set_cons_zero, List.set_cons_succ]
          refine T_lastA (h := fun K hK => ?_); go_wp2_with (fail); refine hK.out _ _ ?_; clear hK K
          try simp only [Act.put, List.setIfInBounds_toArray, List.set_cons_zero, List.set_cons_succ]
          refine T_calcA (h := ?_)
          try simp only [Act.put, List.setIfInBounds_toArray, List.set_cons_zero, List.set_cons_succ]
          refine T_done ?_
          rotate_left 1
          rotate_right 2
          rotate_left 2
          (go_wp2_with (fail); refine hkI hK (h := ?_); clear hK K)
          try simp only [Act.put, List.setIfInBounds_toArray, List.set_cons_zero, List.set_cons_succ]
          refine T_doA (h := fun K hK => ?_); go_wp2_with (first | (go_at_call 27; (with_reducible refine (TG.out _ (by first | exact BC.out.drew | exact (BC.out.alloc BC.out.size _).drew)).mono ?_); rintro e wt ⟨rfl, hbt⟩; have Bt : Below wc.heap.size wc wt := (by first | exact Below.undrew hbt | exact (((Below.refl _ wc).alloc (Nat.le_refl _) _).drew).trans (hbt.mono (by simp))); (try have P9 : Hid (Blk wt wc.heap.size 47 #[.int .u64 0, .int .u64 0, .int .u64 0]) := Lib.hid (Blk.below (Blk.drew (Blk.new wc _ _)) hbt (by simp))); have At := Lib.hid (AC.out.below Bt AC.out.lt); have qt := cells3 At.out; have qt0 := qt.1; have qt1 := qt.2.1; have qt2 := qt.2.2; have zt := At.out.lt; clear qt) | (go_at_call 26; (with_reducible refine (FT.out _ (by first | exact BC.out.trans (Bt.mono BC.out.size) | exact (BC.out.trans (Bt.mono BC.out.size)).alloc (Nat.le_trans BC.out.size Bt.size) _)).mono ?_); rintro e w9 ⟨rfl, hb9⟩; have Bq : Below wc.heap.size wc w9 := (by first | exact Bt.trans (hb9.mono Bt.size) | exact (Bt.alloc Bt.size _).trans (hb9.mono (by have := Bt.size; simp; omega))); (try replace P9 : Hid (Blk w9 wc.heap.size 47 #[.int .u64 0, .int .u64 0, .int .u64 0]) := Lib.hid (Blk.below P9.out hb9 P9.out.lt)); (try have PB : Hid (Blk w9 wt.heap.size 47 #[.int .u64 0, .int .u64 0, .int .u64 0]) := Lib.hid (Blk.below (Blk.new wt _ _) hb9 (by simp))); (first | have p9 := cells3 P9.out | have p9 := cells3 PB.out | skip); (try have p90 := p9.1); (try have p91 := p9.2.1); (try have p92 := p9.2.2); (try clear p9); (first | have pf9 := fun j => P9.out.frozen j | have pf9 := fun j => PB.out.frozen j | skip); (first | have zP9 := P9.out.lt | have zP9 := PB.out.lt | skip))); refine hkI hK (h := ?_); clear hK K
          try simp only [Act.put, List.setIfInBounds_toArray, List.set_cons_zero, List.set_cons_succ]
          refine T_lastA (h := fun K hK => ?_); go_wp2_with (first | (go_at_call 27; (with_reducible refine (TG.out _ (by first | exact BC.out.drew | exact (BC.out.alloc BC.out.size _).drew)).mono ?_); rintro e wt ⟨rfl, hbt⟩; have Bt : Below wc.heap.size wc wt := (by first | exact Below.undrew hbt | exact (((Below.refl _ wc).alloc (Nat.le_refl _) _).drew).trans (hbt.mono (by simp))); (try have P9 : Hid (Blk wt wc.heap.size 47 #[.int .u64 0, .int .u64 0, .int .u64 0]) := Lib.hid (Blk.below (Blk.drew (Blk.new wc _ _)) hbt (by simp))); have At := Lib.hid (AC.out.below Bt AC.out.lt); have qt := cells3 At.out; have qt0 := qt.1; have qt1 := qt.2.1; have qt2 := qt.2.2; have zt := At.out.lt; clear qt) | (go_at_call 26; (with_reducible refine (FT.out _ (by first | exact BC.out.trans (Bt.mono BC.out.size) | exact (BC.out.trans (Bt.mono BC.out.size)).alloc (Nat.le_trans BC.out.size Bt.size) _)).mono ?_); rintro e w9 ⟨rfl, hb9⟩; have Bq : Below wc.heap.size wc w9 := (by first | exact Bt.trans (hb9.mono Bt.size) | exact (Bt.alloc Bt.size _).trans (hb9.mono (by have := Bt.size; simp; omega))); (try replace P9 : Hid (Blk w9 wc.heap.size 47 #[.int .u64 0, .int .u64 0, .int .u64 0]) := Lib.hid (Blk.below P9.out hb9 P9.out.lt)); (try have PB : Hid (Blk w9 wt.heap.size 47 #[.int .u64 0, .int .u64 0, .int .u64 0]) := Lib.hid (Blk.below (Blk.new wt _ _) hb9 (by simp))); (first | have p9 := cells3 P9.out | have p9 := cells3 PB.out | skip); (try have p90 := p9.1); (try have p91 := p9.2.1); (try have p92 := p9.2.2); (try clear p9); (first | have pf9 := fun j => P9.out.frozen j | have pf9 := fun j => PB.out.frozen j | skip); (first | have zP9 := P9.out.lt | have zP9 := PB.out.lt | skip))); refine hK.out _ _ ?_; clear hK K
          try simp only [Act.put, List.setIfInBounds_toArray, List.set_cons_zero, List.set_cons_succ]
          refine T_calcA (h := ?_)
          try simp only [Act.put, List.setIfInBounds_toArray, List.set_cons_zero, List.set_cons_succ]
          refine T_calcA (h := ?_)
          try simp only [Act.put, List.setIfInBounds_toArray, List.set_cons_zero, List.set_cons_succ]
          refine T_calcA (h := ?_)
          try simp only [Act.put, List.setIfInBounds_toArray, List.set_cons_zero, List.set_cons_succ]
          refine T_lastA (h := fun K hK => ?_); go_wp2_with (fail); refine hK.out _ _ ?_; clear hK K
          try simp only [Act.put, List.setIfInBounds_toArray, List.set_cons_zero, List.set_cons_succ]
          refine T_calcA (h := ?_)
          try simp only [Act.put, List.setIfInBounds_toArray, List.set_cons_zero, List.set_cons_succ]
          refine T_done ?_
          rotate_left 1
          rotate_right 3
          all_goals (go_wp2; go_meet)
          all_goals
            first
              | exact ⟨_, rfl, rfl, Bq.alloc Bq.size _, Blk.new _ _ _⟩
              | exact ⟨_, rfl, rfl, ((Bq.setCell (p := ⟨_, 0, none⟩) (Nat.le_refl _) _).setCell (p := ⟨_, 1, none⟩) (Nat.le_refl _) _).setCell (p := ⟨_, 2, none⟩) (Nat.le_refl _) _, ((P9.out.set 0 _).set 1 _).set 2 _⟩
              | exact ⟨_, rfl, rfl, ((Bq.setCell (p := ⟨wt.heap.size, 0, none⟩) Bt.size _).setCell (p := ⟨wt.heap.size, 1, none⟩) Bt.size _).setCell (p := ⟨wt.heap.size, 2, none⟩) Bt.size _, ((PB.out.set 0 _).set 1 _).set 2 _⟩
        case rest =>
          obtain ⟨PA, rfl, rfl, hbd, -⟩ := hcut
          have BD := Lib.hid (BC.out.trans (hbd.mono BC.out.size))
          have WD := Lib.hid (ownsRow_later WC.out hbd)
          have AD := Lib.hid (AC.out.below hbd AC.out.lt)
          obtain ⟨qd0, qd1, qd2⟩ := cells3 AD.out
          have zd := AD.out.lt
          have hlen : (thereL P (hashH n1 G) j).length ≤ j := by rw [thereL_length]; exact cntP_le P j
          have hjj : j ≤ 60 := by omega
          clear WC AC BC qc0 qc1 qc2 zc hbd FI FT TG EQ
          cases hc1 : bb1 with
          | true =>
            have hc2 : bb2 = false := hap hc1
            have hPt : P j = true := by rw [hPj, hc1]; rfl
            subst hc2 hc1
            rw [hPt] at HSUC
            go_wp2_with (at_builtin; refine wpList_append_own _ rfl _ _ 68 rfl w3.heap.size 47 i0 (.agg #[.int .u64 0, .int .u64 0, .int .u64 0]) 3 24 Tryz.underlying68 hi hz0 hz1 hz2 rfl (by decide) _ _ _ rfl (ownsRow_later WD.out ((Below.refl _ _).alloc (Nat.le_refl _) _)) ⟨wc.heap.size, 0, none⟩ 1 1 [.int .u64 (j : Int), .int .u64 ((j : Int) + 5), .int .u64 (h : Int)] rfl rfl (cell3_new wc _ _ _ _) (by simp [Value.oneCell']) (by unfold maxLen; omega) (by omega) (by have := BD.out.size; simp; omega) ?_; intro v' w13 hown hgrow _; have W13 := Lib.hid hown; have B13 := Lib.hid (BD.out.trans (below_append WD.out BD.out.size hgrow)); clear hown hgrow)
            go_roundw
            case rel => exact ⟨j + 1, by omega, by go_num, by have e := HSUC.out; rw [if_pos rfl] at e; rw [e, List.length_append, entV_append]; exact W13.out, B13.out⟩
            case measure => simp [intOf]; omega
          | false =>
            cases hc2 : bb2 with
            | true =>
              have hPt : P j = true := by rw [hPj, hc1, hc2]; rfl
              subst hc2 hc1
              rw [hPt] at HSUC
              go_wp2_with (at_builtin; refine wpList_append_own _ rfl _ _ 68 rfl w3.heap.size 47 i0 (.agg #[.int .u64 0, .int .u64 0, .int .u64 0]) 3 24 Tryz.underlying68 hi hz0 hz1 hz2 rfl (by decide) _ _ _ rfl (ownsRow_later WD.out ((Below.refl _ _).alloc (Nat.le_refl _) _)) ⟨wc.heap.size, 0, none⟩ 1 1 [.int .u64 (j : Int), .int .u64 ((j : Int) + 5), .int .u64 (h : Int)] rfl rfl (cell3_new wc _ _ _ _) (by simp [Value.oneCell']) (by unfold maxLen; omega) (by omega) (by have := BD.out.size; simp; omega) ?_; intro v' w13 hown hgrow _; have W13 := Lib.hid hown; have B13 := Lib.hid (BD.out.trans (below_append WD.out BD.out.size hgrow)); clear hown hgrow)
              go_roundw
              case rel => exact ⟨j + 1, by omega, by go_num, by have e := HSUC.out; rw [if_pos rfl] at e; rw [e, List.length_append, entV_append]; exact W13.out, B13.out⟩
              case measure => simp [intOf]; omega
            | false =>
              have hPt : P j = false := by rw [hPj, hc1, hc2]; rfl
              subst hc2 hc1
              rw [hPt] at HSUC
              go_wp2
              go_roundw
              case rel => exact ⟨j + 1, by omega, by go_num, by have e := HSUC.out; rw [if_neg (by decide), List.append_nil] at e; rw [e]; exact WD.out, BD.out⟩
              case measure => simp [intOf]; omega
    · obtain rfl : j = n1 := by omega
      have HT0 := Lib.hid (show w0.heap.size < w2.heap.size from hw02)
      obtain ⟨M, hM⟩ : ∃ M, M = wr.heap.size := ⟨_, rfl⟩
      have SE := Lib.hid (ea_sep M3.out V3.out N3.out ⟨hX3.2.1, hX3.2.2.2.1, hX3.2.2.2.2.1, hX3.2.2.2.2.2.1⟩ HT0.out (show w3.heap.size ≤ M by omega))
      obtain ⟨l, hl⟩ : ∃ l, l = thereL P (hashH j G) j := ⟨_, rfl⟩
      have HLL := Lib.hid (show l.length = cntP P j by rw [hl]; exact thereL_length _ _ _)
      have HAT := Lib.hid (show ∀ q (hq : q < l.length), ∃ x : Nat, x < j ∧ P x = true ∧ l[q] = entK (hashH j G) (x : Int) from fun q hq => by subst hl; exact thereL_at _ _ _ q hq)
      have hll60 : l.length ≤ 60 := by have := HLL.out; have := cntP_le P j; omega
      rw [← hl] at KW
      rw [← hl]
      go_upto_region 22 with (fail)
      refine wp_at (fun wL hwL => ?_)
      have hbL : Below wr.heap.size wr wL := by rw [hwL]; go_grown
      have SL := Lib.hid (show EV wL V p0.B p0.Q G5 cap5 k (fun q => (pt q).B) (fun q => (pt q).Q) d 0 T U M MeterS.zero E w0 from by
        have h1 := (S3.out.later KB.out).later hbL
        exact ⟨h1.e, h1.t, h1.u, by rw [hwL, hM]; simp only [MeterS.zero, MeterS.cells]; exact Blk.new _ _ _, SE.out.1⟩)
      have B3L := Lib.hid (KB.out.trans (hbL.mono KB.out.size))
      have WL := Lib.hid (ownsRow_later KW.out hbL)
      have CL := Lib.hid (CR.out.below hbL CR.out.lt)
      have AL := Lib.hid (show ∀ q, q < k + 1 → wL.cell? ⟨ga, q, none⟩ = some (.pointer (some ⟨allB p0 pt q, 0, none⟩)) from by
        have ra0 := (M3.out.later B3L.out).ra
        obtain ⟨g9, cap9, cur9, e9, -, hg9, hc9⟩ := row_ptrs ra0 (by omega)
        cases e9
        exact hc9)
      have zgL : ga < wL.heap.size := Nat.lt_of_lt_of_le (M3.out.ra.lt ga rfl).2 B3L.out.size
      have zML : M < wL.heap.size := SL.out.m.lt
      rw [← hM]
      replace hM := Lib.hid hM
      replace hwL := Lib.hid hwL
      replace hl := Lib.hid hl
      have HX := Lib.hid (show ∀ b, XE M p0.B p0.Q V k (fun q => (pt q).B) (fun q => (pt q).Q) b → b ≠ w0.heap.size ∧ b ≠ ga ∧ (w3.heap.size ≤ b → b = M) from fun b hb => ⟨(SE.out.2 b hb).1, (SE.out.2 b hb).2.1, (SE.out.2 b hb).2.2.2⟩)
      have HMW := Lib.hid (show ∀ b, (Value.slice va l.length vc).ownBlock = some b → b ≠ M from fun b hb => by have := (KW.out.lt b hb).2; have := hM.out; omega)
      clear hbL SE KW KB CR r0 r1 r2 r3 r4 r5 r6 rz S3 M3 V3 N3 hX3 E3 EN C3
      go_loopw [14] (fun v14 wr => ∃ (i : Nat) (T : TabS) (U : Nat → TabS) (mt : MeterS), i ≤ g + 1 ∧ v14 = .int .i64 (i : Int) ∧ mt.limited = false ∧ EV wr V p0.B p0.Q G5 cap5 k (fun q => (pt q).B) (fun q => (pt q).Q) d (if i ≤ g then i else g) T U M mt E w0 ∧ EL T U k d (hashH j G) g gn ((n2 : Int) + (n3 : Int)) j (if i ≤ g then i else g) (cntP P j) P ∧ Chg (XE M p0.B p0.Q V k (fun q => (pt q).B) (fun q => (pt q).Q)) wL wr) (fun v14 _ => g + 1 - (intOf v14).toNat)
      case atStart => exact ⟨0, T, U, MeterS.zero, Nat.zero_le _, rfl, rfl, by simpa using SL.out, by simpa using L3.out, Chg.refl _ _⟩
      case round =>
        clear SL L3
        obtain ⟨i, T, U, mt, hig, rfl, hml, hEV, hEL, hC⟩ := hrel
        have KC := Lib.hid (CL.out.chg hC (fun e => (HX.out _ e).1 rfl))
        have kc := case_cells KC.out
        have kc0 := kc.1
        have kzc := KC.out.lt
        by_cases hlt : i ≤ g
        · rw [if_pos hlt] at hEV hEL
          have hltI : (i : Int) ≤ (g : Int) := by omega
          obtain ⟨wO, hwO⟩ : ∃ wO, wO = wr := ⟨_, rfl⟩
          subst hwO
          have HV := Lib.hid hEV
          have HL := Lib.hid hEL
          have WR := Lib.hid (ownsRow_chgB WL.out hC (fun b hb e => HMW.out b hb ((HX.out b e).2.2 (WL.out.lt b hb).1)))
          have AR := Lib.hid (show ∀ q, q < k + 1 → wO.cell? ⟨ga, q, none⟩ = some (.pointer (some ⟨allB p0 pt q, 0, none⟩)) from fun q hq => (hC.cell (p := ⟨ga, q, none⟩) zgL (fun e => (HX.out _ e).2.1 rfl)).trans (AL.out q hq))
          have zgR : ga < wO.heap.size := Nat.lt_of_lt_of_le zgL hC.size
          have HCC := Lib.hid hC
          clear hEV hEL hC WL AL zgL kc
          go_wp2
          go_loopw [113] (fun v113 wx => ∃ q : Nat, q ≤ l.length ∧ v113 = .int .i64 (q : Int) ∧ Below wO.heap.size wO wx) (fun v113 _ => l.length - (intOf v113).toNat)
          case atStart => exact ⟨0, Nat.zero_le _, rfl, Below.refl _ _⟩
          case round =>
            clear kc0 kzc
            obtain ⟨q, hq, rfl, hB⟩ := hrel
            have KB := Lib.hid hB
            clear hB
            by_cases hql : q < l.length
            · have hqI : (q : Int) < (l.length : Int) := by omega
              obtain ⟨ea', ecap', e, -, hrow⟩ := ents_own (ownsRow_later WR.out KB.out)
              cases e
              obtain ⟨b, rfl, hbb, hbz, hcl⟩ := hrow (fun e => by rw [e] at hql; exact absurd hql (by simp))
              obtain ⟨g0, g1, g2⟩ := hcl q hql
              obtain ⟨x, hx, hPx, hlx⟩ := HAT.out q hql
              rw [hlx] at g0 g1 g2
              simp only [entK] at g0 g1 g2
              have hat := HL.out.at hkk hx hPx
              have hGx := HHb.out (x : Int)
              unfold entK at hat
              obtain ⟨h, hh⟩ : ∃ h, h = hashH j G (x : Int) := ⟨_, rfl⟩
              rw [← hh] at g2 hat hGx
              have hy := tIx_lt (h := h) hkk
              have TG := Lib.hid (fun (w' : World) (h' : Below wO.heap.size wO w') => (HV.out.e1.later h').target h hGx)
              obtain ⟨en1, he1⟩ : ∃ e, T.ent (x : Int) h = e := ⟨_, rfl⟩
              obtain ⟨bb1, hbb1⟩ : ∃ b, T.has (x : Int) h = b := ⟨_, rfl⟩
              obtain ⟨en2, he2⟩ : ∃ e, (U (tIx k d h)).ent (x : Int) h = e := ⟨_, rfl⟩
              obtain ⟨bb2, hbb2⟩ : ∃ b, (U (tIx k d h)).has (x : Int) h = b := ⟨_, rfl⟩
              have FI := Lib.hid (fun (w' : World) (h' : Below wO.heap.size wO w') => (HV.out.e1.later h').find (x : Int) h hGx he1 hbb1)
              have FT := Lib.hid (fun (w' : World) (h' : Below wO.heap.size wO w') => (HV.out.e1.later h').findT hy (x : Int) h hGx he2 hbb2)
              rw [he1, hbb1, he2, hbb2] at hat
              generalize tIx k d h = y at *
              have HAX := Lib.hid hat
              clear he1 he2 hbb1 hbb2 hh hat hcl hrow hlx
              go_upto_region 27 with (fail)
              refine wp_at (fun w8 hw8 => ?_)
              obtain ⟨w7, hw7⟩ : ∃ w7, w7 = wr := ⟨_, rfl⟩
              subst hw7
              have hb8 : Below w7.heap.size w7 w8 := by rw [hw8]; go_grown
              have A8 := Lib.hid (show Blk w8 w7.heap.size 47 #[.int .u64 (x : Int), .int .u64 ((x : Int) + 5), .int .u64 (h : Int)] by rw [hw8]; exact Blk.new _ _ _)
              obtain ⟨q80, q81, q82⟩ := cells3 A8.out
              have z8 := A8.out.lt
              have B8 := Lib.hid (KB.out.trans (hb8.mono KB.out.size))
              obtain ⟨X8, hX8⟩ : ∃ X8, X8 = w7.heap.size := ⟨_, rfl⟩
              rw [← hX8] at A8 q80 q81 q82 z8 ⊢
              have ga0 : w8.cell? ⟨ga, 0, none⟩ = some (.pointer (some ⟨p0.B, 0, none⟩)) := (B8.out.cell (p := ⟨ga, 0, none⟩) zgR).trans (AR.out 0 (by omega))
              have zga : ga < w8.heap.size := Nat.lt_of_lt_of_le zgR B8.out.size
              have hk0 : (0 : Int) < ((k + 1 : Nat) : Int) := by omega
              replace hw8 := Lib.hid hw8
              replace hX8 := Lib.hid hX8
              clear hb8 KB g0 g1 g2 hbz hbb
              go_cut [17, 18] (fun v17 v18 wx => ∃ P9, v17 = .pointer (some ⟨P9, 0, none⟩) ∧ v18 = .bool bb1 ∧ Below w8.heap.size w8 wx ∧ Blk wx P9 47 #[.int .u64 en1.key, .int .u64 en1.val, .int .u64 en1.hash])
              case first =>
                refine wp_region_T (fun _ => False) #[⟨0, 0, 332306998946228968225951765070086144, 16, 0⟩, ⟨1, 1, 664613997892457936451903530140172288, 332306998946228968225951765070086144, 0⟩, ⟨2, 3, 1329227995784915872903807060280344576, 664613997892457936451903530140172288, 1⟩, ⟨0, 0, 2658455991569831745807614120560689152, 0, 0⟩, ⟨0, 0, 5316911983139663491615228241121378304, 65536, 0⟩, ⟨16, 16, 10633823966279326983230456482242756608, 5316911983139663491615228241121378304, 1⟩, ⟨0, 0, 21267647932558653966460912964485513216, 65536, 0⟩, ⟨64, 64, 42535295865117307932921825928971026432, 21267647932558653966460912964485513216, 1⟩, ⟨172, 255, 85070591730234615865843651857942052864, 57156803818751382534863703592054816768, 3⟩, ⟨256, 511, 166153499473114484112975882535043072, 85070591730234615865843651857942052864, 0⟩, ⟨512, 1023, 170141183460469231731687303715884105728, 166153499473114484112975882535043072, 0⟩, ⟨512, 1023, 340282366920938463463374607431768211456, 166153499473114484112975882535043072, 0⟩, ⟨0, 0, 131072, 0, 2⟩, ⟨6143, 6143, 0, 170141183460469231731687303715884236800, 3⟩, ⟨16383, 16383, 262144, 340282366920938463463374607431768211456, 0⟩] 164 (.step 0 0 (.step 1 0 (.step 2 1 (.step 3 0 (.step 4 0 (.step 5 1 (.step 6 0 (.step 7 1 (.fork (.alt 8 (.step 9 0 (.step 10 0 (.step 11 0 (.step 12 2 (.step 13 3 (.step 14 0 Plan.done)))))) (.alt 12 (.step 8 3 (.step 9 0 (.step 10 0 (.step 11 0 (.step 13 3 (.step 14 0 Plan.done)))))) Plan.none))))))))))) (by kernel_rfl) (by kernel_rfl) (by kernel_rfl) (by kernel_rfl) (by kernel_rfl) (by kernel_rfl) (fun c a d v w h => by cases d <;> exact h) ?_
                refine T_calcA (h := ?_)
                try simp only [Act.put, List.setIfInBounds_toArray, List.set_cons_zero, List.set_cons_succ]
                refine T_calcA (h := ?_)
                try simp only [Act.put, List.setIfInBounds_toArray, List.set_cons_zero, List.set_cons_succ]
                refine T_load1A (hu := Tryz.underlying25) (h := ?_)
                try simp only [Act.put, List.setIfInBounds_toArray, List.set_cons_zero, List.set_cons_succ]
                refine T_calcA (h := ?_)
                try simp only [Act.put, List.setIfInBounds_toArray, List.set_cons_zero, List.set_cons_succ]
                refine T_calcA (h := ?_)
                try simp only [Act.put, List.setIfInBounds_toArray, List.set_cons_zero, List.set_cons_succ]
                refine T_load1A (hu := Tryz.underlying45) (h := ?_)
                try simp only [Act.put, List.setIfInBounds_toArray, List.set_cons_zero, List.set_cons_succ]
                refine T_calcA (h := ?_)
                try simp only [Act.put, List.setIfInBounds_toArray, List.set_cons_zero, List.set_cons_succ]
                refine T_load1A (hu := Tryz.underlying45) (h := ?_)
                try simp only [Act.put, List.setIfInBounds_toArray, List.set_cons_zero, List.set_cons_succ]
                refine T_fork (T_alt (by simp only [List.getElem?_toArray, List.getElem?_cons_succ, List.getElem?_cons_zero]; rfl) (by rfl) (fun K hK => ?_) (T_alt (by simp only [List.getElem?_toArray, List.getElem?_cons_succ, List.getElem?_cons_zero]; rfl) (by rfl) (fun K hK => ?_) T_none))
                (go_wp2_with ((go_at_call 26; (with_reducible refine (FI.out _ (by first | exact B8.out.drew | exact (B8.out.alloc B8.out.size _).drew)).mono ?_); rintro e w9 ⟨rfl, hb9⟩; have Bq : Below w8.heap.size w8 w9 := (by first | exact Below.undrew hb9 | exact (((Below.refl _ w8).alloc (Nat.le_refl _) _).drew).trans (hb9.mono (by simp))); (try have P9 : Hid (Blk w9 w8.heap.size 47 #[.int .u64 0, .int .u64 0, .int .u64 0]) := Lib.hid (Blk.below (Blk.drew (Blk.new w8 _ _)) hb9 (by simp))); (try have p9 := cells3 P9.out); (try have p90 := p9.1); (try have p91 := p9.2.1); (try have p92 := p9.2.2); (try clear p9); (try have pf9 := fun j => P9.out.frozen j); (try have zP9 := P9.out.lt))); refine hkI hK (h := ?_); clear hK K)
                try simp only [Act.put, List.setIfInBounds_toArray, List.set_cons_zero, List.set_cons_succ]
                refine T_calcA (h := ?_)
                try simp only [Act.put, List.setIfInBounds_toArray, List.set_cons_zero, List.set_cons_succ]
                refine T_calcA (h := ?_)
                try simp only [Act.put, List.setIfInBounds_toArray, List.set_cons_zero, List.set_cons_succ]
                refine T_calcA (h := ?_)
                try simp only [Act.put, List.setIfInBounds_toArray, List.set_cons_zero, List.set_cons_succ]
                refine T_doA (h := fun K hK => ?_); go_wp2_with (fail); refine hkI hK (h := ?_); clear hK K
                try simp only [Act.put, List.setIfInBounds_toArray, List.set_cons_zero, List.set_cons_succ]
                refine T_lastA (h := fun K hK => ?_); go_wp2_with (fail); refine hK.out _ _ ?_; clear hK K
                try simp only [Act.put, List.setIfInBounds_toArray, List.set_cons_zero, List.set_cons_succ]
                refine T_calcA (h := ?_)
                try simp only [Act.put, List.setIfInBounds_toArray, List.set_cons_zero, List.set_cons_succ]
                refine T_done ?_
                rotate_left 1
                (go_wp2_with (fail); refine hkI hK (h := ?_); clear hK K)
                try simp only [Act.put, List.setIfInBounds_toArray, List.set_cons_zero, List.set_cons_succ]
                refine T_lastA (h := fun K hK => ?_); go_wp2_with ((go_at_call 26; (with_reducible refine (FI.out _ (by first | exact B8.out.drew | exact (B8.out.alloc B8.out.size _).drew)).mono ?_); rintro e w9 ⟨rfl, hb9⟩; have Bq : Below w8.heap.size w8 w9 := (by first | exact Below.undrew hb9 | exact (((Below.refl _ w8).alloc (Nat.le_refl _) _).drew).trans (hb9.mono (by simp))); (try have P9 : Hid (Blk w9 w8.heap.size 47 #[.int .u64 0, .int .u64 0, .int .u64 0]) := Lib.hid (Blk.below (Blk.drew (Blk.new w8 _ _)) hb9 (by simp))); (try have p9 := cells3 P9.out); (try have p90 := p9.1); (try have p91 := p9.2.1); (try have p92 := p9.2.2); (try clear p9); (try have pf9 := fun j => P9.out.frozen j); (try have zP9 := P9.out.lt))); refine hK.out _ _ ?_; clear hK K
                try simp only [Act.put, List.setIfInBounds_toArray, List.set_cons_zero, List.set_cons_succ]
                refine T_calcA (h := ?_)
                try simp only [Act.put, List.setIfInBounds_toArray, List.set_cons_zero, List.set_cons_succ]
                refine T_calcA (h := ?_)
                try simp only [Act.put, List.setIfInBounds_toArray, List.set_cons_zero, List.set_cons_succ]
                refine T_calcA (h := ?_)
                try simp only [Act.put, List.setIfInBounds_toArray, List.set_cons_zero, List.set_cons_succ]
                refine T_lastA (h := fun K hK => ?_); go_wp2_with (fail); refine hK.out _ _ ?_; clear hK K
                try simp only [Act.put, List.setIfInBounds_toArray, List.set_cons_zero, List.set_cons_succ]
                refine T_calcA (h := ?_)
                try simp only [Act.put, List.setIfInBounds_toArray, List.set_cons_zero, List.set_cons_succ]
                refine T_done ?_
                rotate_left 1
                rotate_right 2
                all_goals (go_wp2; go_meet)
                all_goals
                  first
                    | exact ⟨_, rfl, rfl, Bq.alloc Bq.size _, Blk.new _ _ _⟩
                    | exact ⟨_, rfl, rfl, ((Bq.setCell (p := ⟨_, 0, none⟩) (Nat.le_refl _) _).setCell (p := ⟨_, 1, none⟩) (Nat.le_refl _) _).setCell (p := ⟨_, 2, none⟩) (Nat.le_refl _) _, ((P9.out.set 0 _).set 1 _).set 2 _⟩
                    | exact ⟨_, rfl, rfl, ((Bq.setCell (p := ⟨wt.heap.size, 0, none⟩) Bt.size _).setCell (p := ⟨wt.heap.size, 1, none⟩) Bt.size _).setCell (p := ⟨wt.heap.size, 2, none⟩) Bt.size _, ((PB.out.set 0 _).set 1 _).set 2 _⟩
              case rest =>
                obtain ⟨P9, rfl, rfl, hbc, hP9⟩ := hcut
                have BC := Lib.hid (B8.out.trans (hbc.mono B8.out.size))
                have AC := Lib.hid (A8.out.below hbc A8.out.lt)
                have DC := Lib.hid hP9
                obtain ⟨qc0, qc1, qc2⟩ := cells3 AC.out
                have zc := AC.out.lt
                clear A8 B8 q80 q81 q82 z8 ga0 zga hbc hP9
                go_upto_region 28 with (fail)
                go_cut [19, 20] (fun v11 v12 wx => ∃ PA, v11 = .pointer (some ⟨PA, 0, none⟩) ∧ v12 = .bool bb2 ∧ Below wc.heap.size wc wx ∧ Blk wx PA 47 #[.int .u64 en2.key, .int .u64 en2.val, .int .u64 en2.hash])
                case first =>
                  refine wp_region_T (fun _ => False) #[⟨0, 0, 1361129467683753853853498429727072845824, 8, 0⟩, ⟨0, 0, 2722258935367507707706996859454145691648, 65536, 0⟩, ⟨2, 2, 5444517870735015415413993718908291383296, 2722258935367507707706996859454145691648, 1⟩, ⟨5, 7, 10889035741470030830827987437816582766592, 6805647338418769269267492148635364229120, 2⟩, ⟨0, 0, 21778071482940061661655974875633165533184, 0, 0⟩, ⟨0, 0, 43556142965880123323311949751266331066368, 65536, 0⟩, ⟨32, 32, 87112285931760246646623899502532662132736, 43556142965880123323311949751266331066368, 1⟩, ⟨0, 0, 174224571863520493293247799005065324265472, 65536, 0⟩, ⟨128, 128, 348449143727040986586495598010130648530944, 174224571863520493293247799005065324265472, 1⟩, ⟨344, 511, 696898287454081973172991196020261297061888, 468228536883211325725603459826113058963456, 3⟩, ⟨512, 1023, 680564733841876926926749214863536422912, 696898287454081973172991196020261297061888, 0⟩, ⟨1024, 2047, 1393796574908163946345982392040522594123776, 680564733841876926926749214863536422912, 0⟩, ⟨1024, 2047, 2787593149816327892691964784081045188247552, 680564733841876926926749214863536422912, 0⟩, ⟨0, 0, 524288, 0, 2⟩, ⟨12287, 12287, 0, 1393796574908163946345982392040522594648064, 3⟩, ⟨32767, 32767, 1048576, 2787593149816327892691964784081045188247552, 0⟩] 324 (.step 0 0 (.step 1 0 (.step 2 1 (.step 4 0 (.step 5 0 (.step 6 1 (.step 7 0 (.step 8 1 (.fork (.alt 3 (.fork (.alt 9 (.step 10 0 (.step 11 0 (.step 12 0 (.step 13 2 (.step 14 3 (.step 15 0 Plan.done)))))) (.alt 13 (.step 9 3 (.step 10 0 (.step 11 0 (.step 12 0 (.step 14 3 (.step 15 0 Plan.done)))))) Plan.none))) (.alt 13 (.step 3 2 (.step 9 3 (.step 10 0 (.step 11 0 (.step 12 0 (.step 14 3 (.step 15 0 Plan.done))))))) Plan.none))))))))))) (by kernel_rfl) (by kernel_rfl) (by kernel_rfl) (by kernel_rfl) (by kernel_rfl) (by kernel_rfl) (fun c a d v w h => by cases d <;> exact h) ?_
                  refine T_calcA (h := ?_)
                  try simp only [Act.put, List.setIfInBounds_toArray, List.set_cons_zero, List.set_cons_succ]
                  refine T_calcA (h := ?_)
                  try simp only [Act.put, List.setIfInBounds_toArray, List.set_cons_zero, List.set_cons_succ]
                  refine T_load1A (hu := Tryz.underlying45) (h := ?_)
                  try simp only [Act.put, List.setIfInBounds_toArray, List.set_cons_zero, List.set_cons_succ]
                  refine T_calcA (h := ?_)
                  try simp only [Act.put, List.setIfInBounds_toArray, List.set_cons_zero, List.set_cons_succ]
                  refine T_calcA (h := ?_)
                  try simp only [Act.put, List.setIfInBounds_toArray, List.set_cons_zero, List.set_cons_succ]
                  refine T_load1A (hu := Tryz.underlying45) (h := ?_)
                  try simp only [Act.put, List.setIfInBounds_toArray, List.set_cons_zero, List.set_cons_succ]
                  refine T_calcA (h := ?_)
                  try simp only [Act.put, List.setIfInBounds_toArray, List.set_cons_zero, List.set_cons_succ]
                  refine T_load1A (hu := Tryz.underlying45) (h := ?_)
                  try simp only [Act.put, List.setIfInBounds_toArray, List.set_cons_zero, List.set_cons_succ]
                  refine T_fork (T_alt (by simp only [List.getElem?_toArray, List.getElem?_cons_succ, List.getElem?_cons_zero]; rfl) (by rfl) (fun K hK => ?_) (T_alt (by simp only [List.getElem?_toArray, List.getElem?_cons_succ, List.getElem?_cons_zero]; rfl) (by rfl) (fun K hK => ?_) T_none))
                  (go_wp2_with (first | (go_at_call 27; (with_reducible refine (TG.out _ (by first | exact BC.out.drew | exact (BC.out.alloc BC.out.size _).drew)).mono ?_); rintro e wt ⟨rfl, hbt⟩; have Bt : Below wc.heap.size wc wt := (by first | exact Below.undrew hbt | exact (((Below.refl _ wc).alloc (Nat.le_refl _) _).drew).trans (hbt.mono (by simp))); (try have P9 : Hid (Blk wt wc.heap.size 47 #[.int .u64 0, .int .u64 0, .int .u64 0]) := Lib.hid (Blk.below (Blk.drew (Blk.new wc _ _)) hbt (by simp))); have At := Lib.hid (AC.out.below Bt AC.out.lt); have qt := cells3 At.out; have qt0 := qt.1; have qt1 := qt.2.1; have qt2 := qt.2.2; have zt := At.out.lt; clear qt) | (go_at_call 26; (with_reducible refine (FT.out _ (by first | exact BC.out.trans (Bt.mono BC.out.size) | exact (BC.out.trans (Bt.mono BC.out.size)).alloc (Nat.le_trans BC.out.size Bt.size) _)).mono ?_); rintro e w9 ⟨rfl, hb9⟩; have Bq : Below wc.heap.size wc w9 := (by first | exact Bt.trans (hb9.mono Bt.size) | exact (Bt.alloc Bt.size _).trans (hb9.mono (by have := Bt.size; simp; omega))); (try replace P9 : Hid (Blk w9 wc.heap.size 47 #[.int .u64 0, .int .u64 0, .int .u64 0]) := Lib.hid (Blk.below P9.out hb9 P9.out.lt)); (try have PB : Hid (Blk w9 wt.heap.size 47 #[.int .u64 0, .int .u64 0, .int .u64 0]) := Lib.hid (Blk.below (Blk.new wt _ _) hb9 (by simp))); (first | have p9 := cells3 P9.out | have p9 := cells3 PB.out | skip); (try have p90 := p9.1); (try have p91 := p9.2.1); (try have p92 := p9.2.2); (try clear p9); (first | have pf9 := fun j => P9.out.frozen j | have pf9 := fun j => PB.out.frozen j | skip); (first | have zP9 := P9.out.lt | have zP9 := PB.out.lt | skip))); refine hkI hK (h := ?_); clear hK K)
                  try simp only [Act.put, List.setIfInBounds_toArray, List.set_cons_zero, List.set_cons_succ]
                  refine T_fork (T_alt (by simp only [List.getElem?_toArray, List.getElem?_cons_succ, List.getElem?_cons_zero]; rfl) (by rfl) (fun K hK => ?_) (T_alt (by simp only [List.getElem?_toArray, List.getElem?_cons_succ, List.getElem?_cons_zero]; rfl) (by rfl) (fun K hK => ?_) T_none))
                  (go_wp2_with (first | (go_at_call 27; (with_reducible refine (TG.out _ (by first | exact BC.out.drew | exact (BC.out.alloc BC.out.size _).drew)).mono ?_); rintro e wt ⟨rfl, hbt⟩; have Bt : Below wc.heap.size wc wt := (by first | exact Below.undrew hbt | exact (((Below.refl _ wc).alloc (Nat.le_refl _) _).drew).trans (hbt.mono (by simp))); (try have P9 : Hid (Blk wt wc.heap.size 47 #[.int .u64 0, .int .u64 0, .int .u64 0]) := Lib.hid (Blk.below (Blk.drew (Blk.new wc _ _)) hbt (by simp))); have At := Lib.hid (AC.out.below Bt AC.out.lt); have qt := cells3 At.out; have qt0 := qt.1; have qt1 := qt.2.1; have qt2 := qt.2.2; have zt := At.out.lt; clear qt) | (go_at_call 26; (with_reducible refine (FT.out _ (by first | exact BC.out.trans (Bt.mono BC.out.size) | exact (BC.out.trans (Bt.mono BC.out.size)).alloc (Nat.le_trans BC.out.size Bt.size) _)).mono ?_); rintro e w9 ⟨rfl, hb9⟩; have Bq : Below wc.heap.size wc w9 := (by first | exact Bt.trans (hb9.mono Bt.size) | exact (Bt.alloc Bt.size _).trans (hb9.mono (by have := Bt.size; simp; omega))); (try replace P9 : Hid (Blk w9 wc.heap.size 47 #[.int .u64 0, .int .u64 0, .int .u64 0]) := Lib.hid (Blk.below P9.out hb9 P9.out.lt)); (try have PB : Hid (Blk w9 wt.heap.size 47 #[.int .u64 0, .int .u64 0, .int .u64 0]) := Lib.hid (Blk.below (Blk.new wt _ _) hb9 (by simp))); (first | have p9 := cells3 P9.out | have p9 := cells3 PB.out | skip); (try have p90 := p9.1); (try have p91 := p9.2.1); (try have p92 := p9.2.2); (try clear p9); (first | have pf9 := fun j => P9.out.frozen j | have pf9 := fun j => PB.out.frozen j | skip); (first | have zP9 := P9.out.lt | have zP9 := PB.out.lt | skip))); refine hkI hK (h := ?_); clear hK K)
                  try simp only [Act.put, List.setIfInBounds_toArray, List.set_cons_zero, List.set_cons_succ]
                  refine T_calcA (h := ?_)
                  try simp only [Act.put, List.setIfInBounds_toArray, List.set_cons_zero, List.set_cons_succ]
                  refine T_calcA (h := ?_)
                  try simp only [Act.put, List.setIfInBounds_toArray, List.set_cons_zero, List.set_cons_succ]
                  refine T_calcA (h := ?_)
                  try simp only [Act.put, List.setIfInBounds_toArray, List.set_cons_zero, List.set_cons_succ]
                  refine T_doA (h := fun K hK => ?_); go_wp2_with (fail); refine hkI hK (h := ?_); clear hK K
                  try simp only [Act.put, List.setIfInBounds_toArray, List.set_cons_zero, List.set_cons_succ]
                  refine T_lastA (h := fun K hK => ?_); go_wp2_with (fail); refine hK.out _ _ ?_; clear hK K
                  try simp only [Act.put, List.setIfInBounds_toArray, List.set_cons_zero, List.set_cons_succ]
                  refine T_calcA (h := ?_)
                  try simp only [Act.put, List.setIfInBounds_toArray, List.set_cons_zero, List.set_cons_succ]
                  refine T_done ?_
                  rotate_left 1
                  (go_wp2_with (fail); refine hkI hK (h := ?_); clear hK K)
                  try simp only [Act.put, List.setIfInBounds_toArray, List.set_cons_zero, List.set_cons_succ]
                  refine T_lastA (h := fun K hK => ?_); go_wp2_with (first | (go_at_call 27; (with_reducible refine (TG.out _ (by first | exact BC.out.drew | exact (BC.out.alloc BC.out.size _).drew)).mono ?_); rintro e wt ⟨rfl, hbt⟩; have Bt : Below wc.heap.size wc wt := (by first | exact Below.undrew hbt | exact (((Below.refl _ wc).alloc (Nat.le_refl _) _).drew).trans (hbt.mono (by simp))); (try have P9 : Hid (Blk wt wc.heap.size 47 #[.int .u64 0, .int .u64 0, .int .u64 0]) := Lib.hid (Blk.below (Blk.drew (Blk.new wc _ _)) hbt (by simp))); have At := Lib.hid (AC.out.below Bt AC.out.lt); have qt := cells3 At.out; have qt0 := qt.1; have qt1 := qt.2.1; have qt2 := qt.2.2; have zt := At.out.lt; clear qt) | (go_at_call 26; (with_reducible refine (FT.out _ (by first | exact BC.out.trans (Bt.mono BC.out.size) | exact (BC.out.trans (Bt.mono BC.out.size)).alloc (Nat.le_trans BC.out.size Bt.size) _)).mono ?_); rintro e w9 ⟨rfl, hb9⟩; have Bq : Below wc.heap.size wc w9 := (by first | exact Bt.trans (hb9.mono Bt.size) | exact (Bt.alloc Bt.size _).trans (hb9.mono (by have := Bt.size; simp; omega))); (try replace P9 : Hid (Blk w9 wc.heap.size 47 #[.int .u64 0, .int .u64 0, .int .u64 0]) := Lib.hid (Blk.below P9.out hb9 P9.out.lt)); (try have PB : Hid (Blk w9 wt.heap.size 47 #[.int .u64 0, .int .u64 0, .int .u64 0]) := Lib.hid (Blk.below (Blk.new wt _ _) hb9 (by simp))); (first | have p9 := cells3 P9.out | have p9 := cells3 PB.out | skip); (try have p90 := p9.1); (try have p91 := p9.2.1); (try have p92 := p9.2.2); (try clear p9); (first | have pf9 := fun j => P9.out.frozen j | have pf9 := fun j => PB.out.frozen j | skip); (first | have zP9 := P9.out.lt | have zP9 := PB.out.lt | skip))); refine hK.out _ _ ?_; clear hK K
                  try simp only [Act.put, List.setIfInBounds_toArray, List.set_cons_zero, List.set_cons_succ]
                  refine T_calcA (h := ?_)
                  try simp only [Act.put, List.setIfInBounds_toArray, List.set_cons_zero, List.set_cons_succ]
                  refine T_calcA (h := ?_)
                  try simp only [Act.put, List.setIfInBounds_toArray, List.set_cons_zero, List.set_cons_succ]
                  refine T_calcA (h := ?_)
                  try simp only [Act.put, List.setIfInBounds_toArray, List.set_cons_zero, List.set_cons_succ]
                  refine T_lastA (h := fun K hK => ?_); go_wp2_with (fail); refine hK.out _ _ ?_; clear hK K
                  try simp only [Act.put, List.setIfInBounds_toArray, List.set_cons_zero, List.set_cons_succ]
                  refine T_calcA (h := ?_)
                  try simp only [Act.put, List.setIfInBounds_toArray, List.set_cons_zero, List.set_cons_succ]
                  refine T_done ?_
                  rotate_left 1
                  rotate_right 2
                  rotate_left 2
                  (go_wp2_with (fail); refine hkI hK (h := ?_); clear hK K)
                  try simp only [Act.put, List.setIfInBounds_toArray, List.set_cons_zero, List.set_cons_succ]
                  refine T_doA (h := fun K hK => ?_); go_wp2_with (first | (go_at_call 27; (with_reducible refine (TG.out _ (by first | exact BC.out.drew | exact (BC.out.alloc BC.out.size _).drew)).mono ?_); rintro e wt ⟨rfl, hbt⟩; have Bt : Below wc.heap.size wc wt := (by first | exact Below.undrew hbt | exact (((Below.refl _ wc).alloc (Nat.le_refl _) _).drew).trans (hbt.mono (by simp))); (try have P9 : Hid (Blk wt wc.heap.size 47 #[.int .u64 0, .int .u64 0, .int .u64 0]) := Lib.hid (Blk.below (Blk.drew (Blk.new wc _ _)) hbt (by simp))); have At := Lib.hid (AC.out.below Bt AC.out.lt); have qt := cells3 At.out; have qt0 := qt.1; have qt1 := qt.2.1; have qt2 := qt.2.2; have zt := At.out.lt; clear qt) | (go_at_call 26; (with_reducible refine (FT.out _ (by first | exact BC.out.trans (Bt.mono BC.out.size) | exact (BC.out.trans (Bt.mono BC.out.size)).alloc (Nat.le_trans BC.out.size Bt.size) _)).mono ?_); rintro e w9 ⟨rfl, hb9⟩; have Bq : Below wc.heap.size wc w9 := (by first | exact Bt.trans (hb9.mono Bt.size) | exact (Bt.alloc Bt.size _).trans (hb9.mono (by have := Bt.size; simp; omega))); (try replace P9 : Hid (Blk w9 wc.heap.size 47 #[.int .u64 0, .int .u64 0, .int .u64 0]) := Lib.hid (Blk.below P9.out hb9 P9.out.lt)); (try have PB : Hid (Blk w9 wt.heap.size 47 #[.int .u64 0, .int .u64 0, .int .u64 0]) := Lib.hid (Blk.below (Blk.new wt _ _) hb9 (by simp))); (first | have p9 := cells3 P9.out | have p9 := cells3 PB.out | skip); (try have p90 := p9.1); (try have p91 := p9.2.1); (try have p92 := p9.2.2); (try clear p9); (first | have pf9 := fun j => P9.out.frozen j | have pf9 := fun j => PB.out.frozen j | skip); (first | have zP9 := P9.out.lt | have zP9 := PB.out.lt | skip))); refine hkI hK (h := ?_); clear hK K
                  try simp only [Act.put, List.setIfInBounds_toArray, List.set_cons_zero, List.set_cons_succ]
                  refine T_lastA (h := fun K hK => ?_); go_wp2_with (first | (go_at_call 27; (with_reducible refine (TG.out _ (by first | exact BC.out.drew | exact (BC.out.alloc BC.out.size _).drew)).mono ?_); rintro e wt ⟨rfl, hbt⟩; have Bt : Below wc.heap.size wc wt := (by first | exact Below.undrew hbt | exact (((Below.refl _ wc).alloc (Nat.le_refl _) _).drew).trans (hbt.mono (by simp))); (try have P9 : Hid (Blk wt wc.heap.size 47 #[.int .u64 0, .int .u64 0, .int .u64 0]) := Lib.hid (Blk.below (Blk.drew (Blk.new wc _ _)) hbt (by simp))); have At := Lib.hid (AC.out.below Bt AC.out.lt); have qt := cells3 At.out; have qt0 := qt.1; have qt1 := qt.2.1; have qt2 := qt.2.2; have zt := At.out.lt; clear qt) | (go_at_call 26; (with_reducible refine (FT.out _ (by first | exact BC.out.trans (Bt.mono BC.out.size) | exact (BC.out.trans (Bt.mono BC.out.size)).alloc (Nat.le_trans BC.out.size Bt.size) _)).mono ?_); rintro e w9 ⟨rfl, hb9⟩; have Bq : Below wc.heap.size wc w9 := (by first | exact Bt.trans (hb9.mono Bt.size) | exact (Bt.alloc Bt.size _).trans (hb9.mono (by have := Bt.size; simp; omega))); (try replace P9 : Hid (Blk w9 wc.heap.size 47 #[.int .u64 0, .int .u64 0, .int .u64 0]) := Lib.hid (Blk.below P9.out hb9 P9.out.lt)); (try have PB : Hid (Blk w9 wt.heap.size 47 #[.int .u64 0, .int .u64 0, .int .u64 0]) := Lib.hid (Blk.below (Blk.new wt _ _) hb9 (by simp))); (first | have p9 := cells3 P9.out | have p9 := cells3 PB.out | skip); (try have p90 := p9.1); (try have p91 := p9.2.1); (try have p92 := p9.2.2); (try clear p9); (first | have pf9 := fun j => P9.out.frozen j | have pf9 := fun j => PB.out.frozen j | skip); (first | have zP9 := P9.out.lt | have zP9 := PB.out.lt | skip))); refine hK.out _ _ ?_; clear hK K
                  try simp only [Act.put, List.setIfInBounds_toArray, List.set_cons_zero, List.set_cons_succ]
                  refine T_calcA (h := ?_)
                  try simp only [Act.put, List.setIfInBounds_toArray, List.set_cons_zero, List.set_cons_succ]
                  refine T_calcA (h := ?_)
                  try simp only [Act.put, List.setIfInBounds_toArray, List.set_cons_zero, List.set_cons_succ]
                  refine T_calcA (h := ?_)
                  try simp only [Act.put, List.setIfInBounds_toArray, List.set_cons_zero, List.set_cons_succ]
                  refine T_lastA (h := fun K hK => ?_); go_wp2_with (fail); refine hK.out _ _ ?_; clear hK K
                  try simp only [Act.put, List.setIfInBounds_toArray, List.set_cons_zero, List.set_cons_succ]
                  refine T_calcA (h := ?_)
                  try simp only [Act.put, List.setIfInBounds_toArray, List.set_cons_zero, List.set_cons_succ]
                  refine T_done ?_
                  rotate_left 1
                  rotate_right 3
                  all_goals (go_wp2; go_meet)
                  all_goals
                    first
                      | exact ⟨_, rfl, rfl, Bq.alloc Bq.size _, Blk.new _ _ _⟩
                      | exact ⟨_, rfl, rfl, ((Bq.setCell (p := ⟨_, 0, none⟩) (Nat.le_refl _) _).setCell (p := ⟨_, 1, none⟩) (Nat.le_refl _) _).setCell (p := ⟨_, 2, none⟩) (Nat.le_refl _) _, ((P9.out.set 0 _).set 1 _).set 2 _⟩
                      | exact ⟨_, rfl, rfl, ((Bq.setCell (p := ⟨wt.heap.size, 0, none⟩) Bt.size _).setCell (p := ⟨wt.heap.size, 1, none⟩) Bt.size _).setCell (p := ⟨wt.heap.size, 2, none⟩) Bt.size _, ((PB.out.set 0 _).set 1 _).set 2 _⟩
                case rest =>
                  obtain ⟨PA, rfl, rfl, hbd, hPA⟩ := hcut
                  have BD := Lib.hid (BC.out.trans (hbd.mono BC.out.size))
                  have AD := Lib.hid (AC.out.below hbd AC.out.lt)
                  have DD := Lib.hid (DC.out.below hbd DC.out.lt)
                  obtain ⟨qd0, qd1, qd2⟩ := cells3 AD.out
                  have zd := AD.out.lt
                  obtain ⟨qe0, qe1, qe2⟩ := cells3 DD.out
                  have ze := DD.out.lt
                  obtain ⟨qf0, qf1, qf2⟩ := cells3 hPA
                  have zf := hPA.lt
                  clear AC BC DC qc0 qc1 qc2 zc hbd FI FT TG hPA AD DD
                  rcases HAX.out with ⟨rfl, rfl, rfl⟩ | ⟨rfl, rfl, rfl⟩
                  · clear HAX
                    go_wp2
                    go_roundw
                    case rel => exact ⟨q + 1, by omega, by go_num, BD.out⟩
                    case measure => simp [intOf]; omega
                  · clear HAX
                    go_wp2
                    go_roundw
                    case rel => exact ⟨q + 1, by omega, by go_num, BD.out⟩
                    case measure => simp [intOf]; omega
            · obtain rfl : q = l.length := by omega
              have KCr := Lib.hid (KC.out.below KB.out KC.out.lt)
              have kcr := case_cells KCr.out
              have kcr0 := kcr.1
              have kzr := KCr.out.lt
              have HSB := Lib.hid (show ∀ q, q < k + 1 → 0 ≤ (allT T U q).lv ∧ (allT T U q).lv ≤ 1000 from fun q hq => by have := (HV.out.e1.one hq).good.bounds; omega)
              obtain ⟨wP, hwP⟩ : ∃ wP, wP = wr := ⟨_, rfl⟩
              subst hwP
              clear kcr
              go_wp2
              go_loopw [164, 21] (fun v164 v21 wx => ∃ q : Nat, q ≤ k + 1 ∧ v164 = .int .i64 (q : Int) ∧ v21 = .int .i64 (sumA T U q) ∧ Below wP.heap.size wP wx) (fun v164 _ _ => k + 1 - (intOf v164).toNat)
              case atStart => exact ⟨0, Nat.zero_le _, rfl, rfl, Below.refl _ _⟩
              case round =>
                clear kcr0 kzr
                obtain ⟨q, hq, rfl, rfl, hB⟩ := hrel
                have KB2 := Lib.hid hB
                clear hB
                by_cases hqk : q < k + 1
                · have hqI : (q : Int) < ((k + 1 : Nat) : Int) := by omega
                  have BO := Lib.hid (KB.out.trans (KB2.out.mono KB.out.size))
                  have ar := (BO.out.cell (p := ⟨ga, q, none⟩) zgR).trans (AR.out q hqk)
                  have zga : ga < wr.heap.size := Nat.lt_of_lt_of_le zgR BO.out.size
                  have hb1 := sumA_bd HSB.out q (by omega)
                  have hb2 := HSB.out q hqk
                  have hsc := sumA_succ T U q
                  rw [← allT_lv] at hsc
                  have LN := Lib.hid (fun (w' : World) (h' : Below wO.heap.size wO w') => TMW.len ((HV.out.e1.later h').one hqk))
                  have CK := Lib.hid (fun (w' : World) (h' : Below wO.heap.size wO w') => scheck_any ((HV.out.e1.later h').one hqk) (HL.out.one (by omega) hqk).1 HHb.out (HL.out.one (by omega) hqk).2)
                  have HSC := Lib.hid hsc
                  generalize (allT T U q).lv = lv at *
                  generalize sumA T U q = sq at *
                  generalize allB p0 pt q = tbq at *
                  clear hsc
                  have hwr : IntKind.i64.wrap (sq + lv) = sq + lv := by rw [IntKind.wrap_i64]; omega
                  go_wp2_with (first
                    | (go_at_call 12; (with_reducible refine (LN.out _ BO.out).mono ?_); rintro e w4 ⟨rfl, rfl⟩)
                    | (go_at_call 28; (with_reducible refine (CK.out _ BO.out).mono ?_); rintro e w5 ⟨rfl, hb5⟩; have B5 := Lib.hid (KB2.out.trans (hb5.mono KB2.out.size))))
                  go_roundw
                  case rel => exact ⟨q + 1, by omega, by go_num, by rw [HSC.out], B5.out⟩
                  case measure => simp [intOf]; omega
                · obtain rfl : q = k + 1 := by omega
                  have hsum : sumA T U (k + 1) = (l.length : Int) := by
                    show T.lv + lvSum U k = _
                    rw [HL.out.c, HLL.out]
                  rw [hsum]
                  have BO := Lib.hid (KB.out.trans (KB2.out.mono KB.out.size))
                  have KC4 := Lib.hid (KCr.out.below KB2.out KCr.out.lt)
                  have kc4 := case_cells KC4.out
                  have kc40 := kc4.1
                  have kz4 := KC4.out.lt
                  have ST := Lib.hid (fun (w' : World) (h' : Below wO.heap.size wO w') => ea_step (HV.out.later h') hml HL.out hkk HHb.out (by omega) hlt)
                  have e : (if i + 1 ≤ g then i + 1 else g) = (if i < g then i + 1 else i) := by split <;> split <;> omega
                  have HE8 := Lib.hid e
                  clear kc4 hsum e
                  by_cases hlg : i < g
                  · have hlgI : (i : Int) < (g : Int) := by omega
                    rw [decide_eq_true hlg] at ST
                    go_wp2
                    have hxc : ¬ XE M p0.B p0.Q V k (fun q => (pt q).B) (fun q => (pt q).Q) w0.heap.size := fun e => (HX.out _ e).1 rfl
                    refine wp_region_seq (XE M p0.B p0.Q V k (fun q => (pt q).B) (fun q => (pt q).Q)) #[⟨0, 0, 95780971304118053647396689196894323976171195136475136, 2097152, 0⟩, ⟨0, 0, 191561942608236107294793378393788647952342390272950272, 64, 0⟩, ⟨2, 2, 383123885216472214589586756787577295904684780545900544, 191561942608236107294793378393788647952342390272950272, 0⟩, ⟨5, 7, 766247770432944429179173513575154591809369561091801088, 478904856520590268236983445984471619880855975682375680, 0⟩, ⟨8, 15, 1532495540865888858358347027150309183618739122183602176, 766247770432944429179173513575154591809369561091801088, 0⟩, ⟨16, 31, 3064991081731777716716694054300618367237478244367204352, 1532495540865888858358347027150309183618739122183602184, 0⟩, ⟨16, 31, 6129982163463555433433388108601236734474956488734408704, 1532495540865888858358347027150309183618739122183610368, 0⟩, ⟨112, 127, 12259964326927110866866776217202473468949912977468817408, 10727468786061222008508429190052164285331173855285215232, 2⟩, ⟨16, 31, 24519928653854221733733552434404946937899825954937634816, 1532495540865888858358347027150309183618739122183618560, 0⟩, ⟨16, 31, 49039857307708443467467104868809893875799651909875269632, 1532495540865888858358347027150309183618739122183602178, 0⟩, ⟨528, 543, 98079714615416886934934209737619787751599303819750539264, 50572352848574332325825451895960203059418391032058871808, 1⟩, ⟨1296, 1823, 196159429230833773869868419475239575503198607639501078528, 124132138810136997527026109199175043873117868896871776256, 0⟩, ⟨2192, 4095, 392318858461667547739736838950479151006397215279002157056, 209951889098626773595093542719592358155767259739153498112, 0⟩, ⟨4112, 8191, 784637716923335095479473677900958302012794430558004314112, 393851354002533436598095185977629460190015954401185759232, 0⟩] 1024 [(0, 0), (1, 0), (2, 0), (3, 0), (4, 0), (5, 0), (6, 0), (8, 0), (9, 0), (10, 1), (11, 0), (7, 2), (12, 0), (13, 0)] (by kernel_rfl) (by kernel_rfl) (by kernel_rfl) (by kernel_rfl) (by kernel_rfl) (by kernel_rfl) (fun c a d v w h => by cases d <;> exact h) ?_
                    refine seq_calcA (h := ?_)
                    try simp only [Act.put, List.setIfInBounds_toArray, List.set_cons_zero, List.set_cons_succ]
                    refine seq_calcA (h := ?_)
                    try simp only [Act.put, List.setIfInBounds_toArray, List.set_cons_zero, List.set_cons_succ]
                    refine seq_calcA (h := ?_)
                    try simp only [Act.put, List.setIfInBounds_toArray, List.set_cons_zero, List.set_cons_succ]
                    refine seq_calcA (h := ?_)
                    try simp only [Act.put, List.setIfInBounds_toArray, List.set_cons_zero, List.set_cons_succ]
                    refine seq_calcA (h := ?_)
                    try simp only [Act.put, List.setIfInBounds_toArray, List.set_cons_zero, List.set_cons_succ]
                    first
                      | (refine seq_skipA (h := ?_))
                      | (refine seq_calcA (h := ?_))
                    try simp only [Act.put, List.setIfInBounds_toArray, List.set_cons_zero, List.set_cons_succ]
                    first
                      | (refine seq_skipA (h := ?_))
                      | (refine seq_calcA (h := ?_))
                    try simp only [Act.put, List.setIfInBounds_toArray, List.set_cons_zero, List.set_cons_succ]
                    first
                      | (refine seq_skipA (h := ?_))
                      | (refine seq_calcA (h := ?_))
                    try simp only [Act.put, List.setIfInBounds_toArray, List.set_cons_zero, List.set_cons_succ]
                    first
                      | (refine seq_skipA (h := ?_))
                      | (refine seq_calcA (h := ?_))
                    try simp only [Act.put, List.setIfInBounds_toArray, List.set_cons_zero, List.set_cons_succ]
                    first
                      | (refine seq_skipA (h := ?_))
                      | (refine seq_load1A (hu := Tryz.underlying3) (h := ?_))
                    try simp only [Act.put, List.setIfInBounds_toArray, List.set_cons_zero, List.set_cons_succ]
                    first
                      | (refine seq_skipA (h := ?_))
                      | (refine seq_calcA (h := ?_))
                    try simp only [Act.put, List.setIfInBounds_toArray, List.set_cons_zero, List.set_cons_succ]
                    first
                      | (refine seq_skipA (h := ?_))
                      | (refine seq_doA (h := fun K hK => ?_); go_wp2_with ((go_at_call 29; (with_reducible refine (ST.out _ (by first | exact BO.out | exact BO.out.drew)).mono ?_); rintro e w5 ⟨rfl, T', U', mt', hml5, hEV5, hEL5, hC5⟩; have EV5 := Lib.hid hEV5; have EL5 := Lib.hid hEL5; have HC5 := Lib.hid hC5; have KC5 := Lib.hid ((show Blk (World.drew wr) _ _ _ from Blk.drew KC4.out).chg hC5 (fun e => (HX.out _ e).1 rfl)); have kc5 := case_cells KC5.out; have kc50 := kc5.1; have kz5 := KC5.out.lt; clear kc5 hEV5 hEL5)); refine hkA hK (h := ?_); clear hK K)
                    try simp only [Act.put, List.setIfInBounds_toArray, List.set_cons_zero, List.set_cons_succ]
                    first
                      | (refine seq_skipA (h := ?_))
                      | (refine seq_calcA (h := ?_))
                    try simp only [Act.put, List.setIfInBounds_toArray, List.set_cons_zero, List.set_cons_succ]
                    refine seq_calcA (h := ?_)
                    try simp only [Act.put, List.setIfInBounds_toArray, List.set_cons_zero, List.set_cons_succ]
                    refine seq_nil ?_
                    go_wp2
                    go_roundw
                    case rel => exact ⟨i + 1, T', U', mt', by omega, by go_num, hml5, by rw [HE8.out]; exact EV5.out, by rw [HE8.out]; exact EL5.out, (HCC.out.trans (Chg.of_below BO.out)).trans ((Chg.refl _ _).drew.trans HC5.out)⟩
                    case measure => simp [intOf]; omega
                  · have hlgI : ¬ (i : Int) < (g : Int) := by omega
                    rw [decide_eq_false hlg] at ST
                    go_wp2
                    have hxc : ¬ XE M p0.B p0.Q V k (fun q => (pt q).B) (fun q => (pt q).Q) w0.heap.size := fun e => (HX.out _ e).1 rfl
                    refine wp_region_seq (XE M p0.B p0.Q V k (fun q => (pt q).B) (fun q => (pt q).Q)) #[⟨0, 0, 95780971304118053647396689196894323976171195136475136, 2097152, 0⟩, ⟨0, 0, 191561942608236107294793378393788647952342390272950272, 64, 0⟩, ⟨2, 2, 383123885216472214589586756787577295904684780545900544, 191561942608236107294793378393788647952342390272950272, 0⟩, ⟨5, 7, 766247770432944429179173513575154591809369561091801088, 478904856520590268236983445984471619880855975682375680, 0⟩, ⟨8, 15, 1532495540865888858358347027150309183618739122183602176, 766247770432944429179173513575154591809369561091801088, 0⟩, ⟨16, 31, 3064991081731777716716694054300618367237478244367204352, 1532495540865888858358347027150309183618739122183602184, 0⟩, ⟨16, 31, 6129982163463555433433388108601236734474956488734408704, 1532495540865888858358347027150309183618739122183610368, 0⟩, ⟨112, 127, 12259964326927110866866776217202473468949912977468817408, 10727468786061222008508429190052164285331173855285215232, 2⟩, ⟨16, 31, 24519928653854221733733552434404946937899825954937634816, 1532495540865888858358347027150309183618739122183618560, 0⟩, ⟨16, 31, 49039857307708443467467104868809893875799651909875269632, 1532495540865888858358347027150309183618739122183602178, 0⟩, ⟨528, 543, 98079714615416886934934209737619787751599303819750539264, 50572352848574332325825451895960203059418391032058871808, 1⟩, ⟨1296, 1823, 196159429230833773869868419475239575503198607639501078528, 124132138810136997527026109199175043873117868896871776256, 0⟩, ⟨2192, 4095, 392318858461667547739736838950479151006397215279002157056, 209951889098626773595093542719592358155767259739153498112, 0⟩, ⟨4112, 8191, 784637716923335095479473677900958302012794430558004314112, 393851354002533436598095185977629460190015954401185759232, 0⟩] 1024 [(0, 0), (1, 0), (2, 0), (3, 0), (4, 0), (5, 0), (6, 0), (8, 0), (9, 0), (10, 1), (11, 0), (7, 2), (12, 0), (13, 0)] (by kernel_rfl) (by kernel_rfl) (by kernel_rfl) (by kernel_rfl) (by kernel_rfl) (by kernel_rfl) (fun c a d v w h => by cases d <;> exact h) ?_
                    refine seq_calcA (h := ?_)
                    try simp only [Act.put, List.setIfInBounds_toArray, List.set_cons_zero, List.set_cons_succ]
                    refine seq_calcA (h := ?_)
                    try simp only [Act.put, List.setIfInBounds_toArray, List.set_cons_zero, List.set_cons_succ]
                    refine seq_calcA (h := ?_)
                    try simp only [Act.put, List.setIfInBounds_toArray, List.set_cons_zero, List.set_cons_succ]
                    refine seq_calcA (h := ?_)
                    try simp only [Act.put, List.setIfInBounds_toArray, List.set_cons_zero, List.set_cons_succ]
                    refine seq_calcA (h := ?_)
                    try simp only [Act.put, List.setIfInBounds_toArray, List.set_cons_zero, List.set_cons_succ]
                    first
                      | (refine seq_skipA (h := ?_))
                      | (refine seq_calcA (h := ?_))
                    try simp only [Act.put, List.setIfInBounds_toArray, List.set_cons_zero, List.set_cons_succ]
                    first
                      | (refine seq_skipA (h := ?_))
                      | (refine seq_calcA (h := ?_))
                    try simp only [Act.put, List.setIfInBounds_toArray, List.set_cons_zero, List.set_cons_succ]
                    first
                      | (refine seq_skipA (h := ?_))
                      | (refine seq_calcA (h := ?_))
                    try simp only [Act.put, List.setIfInBounds_toArray, List.set_cons_zero, List.set_cons_succ]
                    first
                      | (refine seq_skipA (h := ?_))
                      | (refine seq_calcA (h := ?_))
                    try simp only [Act.put, List.setIfInBounds_toArray, List.set_cons_zero, List.set_cons_succ]
                    first
                      | (refine seq_skipA (h := ?_))
                      | (refine seq_load1A (hu := Tryz.underlying3) (h := ?_))
                    try simp only [Act.put, List.setIfInBounds_toArray, List.set_cons_zero, List.set_cons_succ]
                    first
                      | (refine seq_skipA (h := ?_))
                      | (refine seq_calcA (h := ?_))
                    try simp only [Act.put, List.setIfInBounds_toArray, List.set_cons_zero, List.set_cons_succ]
                    first
                      | (refine seq_skipA (h := ?_))
                      | (refine seq_doA (h := fun K hK => ?_); go_wp2_with ((go_at_call 29; (with_reducible refine (ST.out _ (by first | exact BO.out | exact BO.out.drew)).mono ?_); rintro e w5 ⟨rfl, T', U', mt', hml5, hEV5, hEL5, hC5⟩; have EV5 := Lib.hid hEV5; have EL5 := Lib.hid hEL5; have HC5 := Lib.hid hC5; have KC5 := Lib.hid ((show Blk (World.drew wr) _ _ _ from Blk.drew KC4.out).chg hC5 (fun e => (HX.out _ e).1 rfl)); have kc5 := case_cells KC5.out; have kc50 := kc5.1; have kz5 := KC5.out.lt; clear kc5 hEV5 hEL5)); refine hkA hK (h := ?_); clear hK K)
                    try simp only [Act.put, List.setIfInBounds_toArray, List.set_cons_zero, List.set_cons_succ]
                    first
                      | (refine seq_skipA (h := ?_))
                      | (refine seq_calcA (h := ?_))
                    try simp only [Act.put, List.setIfInBounds_toArray, List.set_cons_zero, List.set_cons_succ]
                    refine seq_calcA (h := ?_)
                    try simp only [Act.put, List.setIfInBounds_toArray, List.set_cons_zero, List.set_cons_succ]
                    refine seq_nil ?_
                    go_wp2
                    go_roundw
                    case rel => exact ⟨i + 1, T', U', mt', by omega, by go_num, hml5, by rw [HE8.out]; exact EV5.out, by rw [HE8.out]; exact EL5.out, (HCC.out.trans (Chg.of_below BO.out)).trans ((Chg.refl _ _).drew.trans HC5.out)⟩
                    case measure => simp [intOf]; omega
        · obtain rfl : i = g + 1 := by omega
          rw [if_neg hlt] at hEV hEL
          have HV := Lib.hid hEV
          have hlv : T.lv = 0 := gone_lvJ hEL.e.t.good hEL.empty
          have hTn : T.n = g := hEL.e.tn
          have hltI : ¬ ((g + 1 : Nat) : Int) ≤ (g : Int) := by omega
          have LN := Lib.hid (fun (w' : World) (h' : EV w' V p0.B p0.Q G5 cap5 k (fun q => (pt q).B) (fun q => (pt q).Q) d g T U M mt E w0) => TMW.len h'.t)
          have LE := Lib.hid (fun (w' : World) (h' : EV w' V p0.B p0.Q G5 cap5 k (fun q => (pt q).B) (fun q => (pt q).Q) d g T U M mt E w0) => eleft_any V p0.B p0.Q G5 cap5 k _ d g T.n h'.t.good.bounds.1 (by omega) _ _ w' h'.e h'.t.t.head)
          rw [hlv] at LN
          rw [hTn, Nat.sub_self] at LE
          have ar : wr.cell? ⟨ga, 0, none⟩ = some (.pointer (some ⟨p0.B, 0, none⟩)) := (hC.cell (p := ⟨ga, 0, none⟩) zgL (fun e => (HX.out _ e).2.1 rfl)).trans (AL.out 0 (by omega))
          have zgr : ga < wr.heap.size := Nat.lt_of_lt_of_le zgL hC.size
          have hk0 : (0 : Int) < ((k + 1 : Nat) : Int) := by omega
          clear hEV hEL hC
          go_wp2_with (first
            | (go_at_call 12; (with_reducible refine (LN.out _ HV.out).mono ?_); rintro e w4 ⟨rfl, rfl⟩)
            | (go_at_call 30; (with_reducible refine (LE.out _ HV.out).mono ?_); rintro e w5 ⟨rfl, hb5⟩))
          go_ret
          exact ⟨rfl, HV.out.t.bel.trans (hb5.mono HV.out.t.bel.size)⟩
end Go.Proofs.YtannohinhlefaaaGreatDoor
