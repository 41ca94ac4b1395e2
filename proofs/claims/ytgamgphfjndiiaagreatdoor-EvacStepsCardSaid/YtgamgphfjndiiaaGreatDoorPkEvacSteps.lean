/- Texts joined: EvacBad Ref12 Ref12b EvacStepsP EvacSteps. No condition but those that stand within. -/
import Derived.Lib.Builder
import Derived.Test.YtgamgphfjndiiaaGreatDoorPkSwar
import Derived.Test.YtgamgphfjndiiaaGreatDoorPkMeter
import Derived.Test.YtgamgphfjndiiaaGreatDoorPkErrs
import Derived.Test.YtgamgphfjndiiaaGreatDoorPkGroup
import Derived.Test.YtgamgphfjndiiaaGreatDoorPkTab
import Derived.Test.YtgamgphfjndiiaaGreatDoorPkTab2
import Derived.Test.YtgamgphfjndiiaaGreatDoorPkTab3
import Derived.Test.YtgamgphfjndiiaaGreatDoorPkTake
import Derived.Test.YtgamgphfjndiiaaGreatDoorPkTabM
import Derived.Test.YtgamgphfjndiiaaGreatDoorPkEvac
import Derived.Test.YtgamgphfjndiiaaGreatDoorPkRef09
import Derived.Test.YtgamgphfjndiiaaGreatDoorPkEvac2
namespace Go.Proofs.YtgamgphfjndiiaaGreatDoor
set_option linter.unusedVariables false
set_option linter.unusedSimpArgs false
open Go.RowKit Go.Proofs
attribute [local go_sem] neq_nilG eql_nilG

section
variable {w w' w0 : World} {V O Q G cap k : Nat} {TB R : Nat → Nat} {d next : Nat} {T : TabS} {U : Nat → TabS} {M : Nat} {mt : MeterS} {E : Nat → Addr}
set_option maxRecDepth 100000 in
set_option maxHeartbeats 8000000 in
theorem estep_bad (h : EV w V O Q G cap k TB R d next T U M mt E w0) (hn : next < T.n) (hl : mt.limited = false) (hno : ¬ EvOk k d (entsL (T.M next) (T.S next)) U) (hbr : ∀ w', Below w0.heap.size w0 w' → w'.cell? ⟨1, 0, none⟩ = some (errAt E 10)) :
    Calls Tryz.prog 31 #[.pointer (some ⟨V, 0, none⟩), .pointer (some ⟨M, 0, none⟩)] w fun e w' =>
      e = .panicked [{ v := raisedV (errAt E 10), recovered := false }] ∧ Chg (fun b => b = M ∨ b = O ∨ b = Q ∨ b = V ∨ ∃ i, i < k ∧ (b = TB i ∨ b = R i)) w w' := by
  have hb := h.t.good.bounds
  have LF := Lib.hid (eleft_any V O Q G cap k TB d next T.n hb.1 (by omega) _ _ w h.e h.t.t.head)
  have e0 : (((T.n - next : Nat) : Int) == 0) = false := by simp; omega
  have HH := Lib.hid (fun e => ents_hash (e := e) (h.t.good.good next hn))
  have hl8 := entsL_len (T.M next) (T.S next)
  have hki := h.e.hk
  have UN := Lib.hid (fun (w' : World) (h : EV w' V O Q G cap k TB R d next T U M mt E w0) => h.unit hl)
  have TK := Lib.hid (fun (w' : World) (h : EV w' V O Q G cap k TB R d next T U M (mt.add 0 0 1) E w0) => h.take hn 0 1 0)
  have WK := Lib.hid (fun (w' : World) => working_any (some ⟨M, 0, none⟩) w')
  have zM := h.m.lt
  have HV := Lib.hid h
  obtain ⟨c0, c1, c2, c3, zV, hf⟩ := ecells h.e
  obtain ⟨hVO, hVQ, hVG, hVM⟩ := h.s.v
  have HNO := Lib.hid hno
  have HBR := Lib.hid hbr
  have hn64 : next < 64 := by omega
  obtain ⟨l, hll⟩ : ∃ l, l = entsL (T.M next) (T.S next) := ⟨_, rfl⟩
  rw [← hll] at TK HNO hl8 HH
  clear h hno hbr hll hn c0 c1 c2 c3 hf
  go_enter Tryz.func31, Tryz.ntmps31
  go_wp2_with (first
    | (go_at_call 33; refine LF.out.mono ?_; rintro e w1 ⟨rfl, hb1⟩; have V1 := Lib.hid (HV.out.later hb1); have hz1 := hb1.size; clear HV LF)
    | (go_at_call 76; (with_reducible refine (UN.out _ V1.out).mono ?_); rintro e w2 ⟨rfl, hv2, hc2⟩; have V2 := Lib.hid hv2; have hz2 := hc2.size; have C2 := Lib.hid (show Chg (fun b => b = M ∨ b = O ∨ b = Q ∨ b = V ∨ ∃ i, i < k ∧ (b = TB i ∨ b = R i)) w w2 from (Chg.of_below hb1).trans (hc2.mono (fun _ _ e => .inl e))); obtain ⟨d0, d1, d2, d3, zV2, df⟩ := ecells V2.out.e; clear hv2 V1))
  refine wp_region_seq (fun b => b = M ∨ b = O ∨ b = Q) #[⟨0, 0, 16384, 1, 0⟩, ⟨1, 1, 32768, 16384, 0⟩, ⟨2, 3, 65536, 32768, 0⟩, ⟨4, 7, 131072, 65536, 1⟩, ⟨0, 0, 262144, 2, 0⟩, ⟨16, 16, 524288, 262144, 2⟩, ⟨0, 0, 1048576, 1, 0⟩, ⟨64, 64, 2097152, 1048576, 0⟩, ⟨128, 192, 4194304, 2097152, 0⟩, ⟨256, 448, 8388608, 4194304, 1⟩, ⟨552, 1023, 16777216, 9043968, 3⟩, ⟨1024, 2047, 33554432, 16777216, 0⟩, ⟨1024, 2047, 67108864, 16777216, 0⟩, ⟨7168, 8191, 134217728, 100663296, 3⟩, ⟨8192, 16383, 268435456, 134217728, 0⟩, ⟨0, 0, 536870912, 0, 0⟩] 520 [(0, 0), (1, 0), (2, 0), (3, 1), (4, 0), (6, 0), (7, 0), (8, 0), (9, 1), (15, 0), (5, 2), (10, 3), (11, 0), (12, 0), (13, 3), (14, 0)] (by kernel_rfl) (by kernel_rfl) (by kernel_rfl) (by kernel_rfl) (by kernel_rfl) (by kernel_rfl) (fun c a d v w h => by cases d <;> exact h) ?_
  refine seq_calc (by simp only [List.getElem?_toArray, List.getElem?_cons_succ, List.getElem?_cons_zero]; rfl) (by rfl) (fun u => by go_simp <;> with_reducible rfl) ?_
  try simp only [Act.put, List.setIfInBounds_toArray, List.set_cons_zero, List.set_cons_succ]
  refine seq_calc (by simp only [List.getElem?_toArray, List.getElem?_cons_succ, List.getElem?_cons_zero]; rfl) (by rfl) (fun u => by go_simp <;> with_reducible rfl) ?_
  try simp only [Act.put, List.setIfInBounds_toArray, List.set_cons_zero, List.set_cons_succ]
  refine seq_calc (by simp only [List.getElem?_toArray, List.getElem?_cons_succ, List.getElem?_cons_zero]; rfl) (by rfl) (fun u => by go_simp <;> with_reducible rfl) ?_
  try simp only [Act.put, List.setIfInBounds_toArray, List.set_cons_zero, List.set_cons_succ]
  refine seq_load1 (by simp only [List.getElem?_toArray, List.getElem?_cons_succ, List.getElem?_cons_zero]; rfl) (by rfl) rfl rfl Tryz.underlying25 rfl (by go_simp <;> with_reducible rfl) (by first | exact id | assumption | (simp; done) | (simp; omega)) ?_
  try simp only [Act.put, List.setIfInBounds_toArray, List.set_cons_zero, List.set_cons_succ]
  refine seq_calc (by simp only [List.getElem?_toArray, List.getElem?_cons_succ, List.getElem?_cons_zero]; rfl) (by rfl) (fun u => by go_simp <;> with_reducible rfl) ?_
  try simp only [Act.put, List.setIfInBounds_toArray, List.set_cons_zero, List.set_cons_succ]
  refine seq_calc (by simp only [List.getElem?_toArray, List.getElem?_cons_succ, List.getElem?_cons_zero]; rfl) (by rfl) (fun u => by go_simp <;> with_reducible rfl) ?_
  try simp only [Act.put, List.setIfInBounds_toArray, List.set_cons_zero, List.set_cons_succ]
  refine seq_calc (by simp only [List.getElem?_toArray, List.getElem?_cons_succ, List.getElem?_cons_zero]; rfl) (by rfl) (fun u => by go_simp <;> with_reducible rfl) ?_
  try simp only [Act.put, List.setIfInBounds_toArray, List.set_cons_zero, List.set_cons_succ]
  refine seq_calc (by simp only [List.getElem?_toArray, List.getElem?_cons_succ, List.getElem?_cons_zero]; rfl) (by rfl) (fun u => by go_simp <;> with_reducible rfl) ?_
  try simp only [Act.put, List.setIfInBounds_toArray, List.set_cons_zero, List.set_cons_succ]
  refine seq_load1 (by simp only [List.getElem?_toArray, List.getElem?_cons_succ, List.getElem?_cons_zero]; rfl) (by rfl) rfl rfl Tryz.underlying3 rfl (by go_simp <;> with_reducible rfl) (by first | exact id | assumption | (simp; done) | (simp; omega)) ?_
  try simp only [Act.put, List.setIfInBounds_toArray, List.set_cons_zero, List.set_cons_succ]
  refine seq_calc (by simp only [List.getElem?_toArray, List.getElem?_cons_succ, List.getElem?_cons_zero]; rfl) (by rfl) (fun u => by go_simp <;> with_reducible rfl) ?_
  try simp only [Act.put, List.setIfInBounds_toArray, List.set_cons_zero, List.set_cons_succ]
  refine seq_do (by simp only [List.getElem?_toArray, List.getElem?_cons_succ, List.getElem?_cons_zero]; rfl) (by rfl) (fun K hK => ?_); go_wp2_with (first | (go_at_call 78; (with_reducible refine (WK.out _).mono ?_); rintro e w3 ⟨rfl, hb3⟩; have V3 := Lib.hid (V2.out.drew.later hb3); obtain ⟨d30, d31, d32, d33, zV3, df3⟩ := ecells V3.out.e) | (go_at_call 60; (with_reducible refine (TK.out _ V3.out).mono ?_); rintro e w4 ⟨vl, rfl, hr4, hv4, hc4⟩; obtain ⟨av, capv, rfl⟩ := ownsRow_slice hr4; have V4 := Lib.hid hv4; have R4 := Lib.hid hr4; have C4 := Lib.hid hc4; clear hv4 hr4) | (go_at_call 77; (with_reducible refine (mustE_ok _ _ _ _).mono ?_); rintro e w5 ⟨rfl, rfl⟩)); refine hK.out _ _ (by first | (with_reducible exact Chg.refl _ _) | (with_reducible assumption) | (refine Chg.of_below ?_; with_reducible assumption) | (with_reducible exact (Chg.refl _ _).alloc _) | (with_reducible exact (Chg.refl _ _).drewN _) | (with_reducible exact (Chg.refl _ _).drew) | exact ⟨rfl, rfl, rfl, Nat.le_refl _, fun _ _ _ => rfl⟩ | exact (Chg.refl _ _).setCell (.inl (.inl rfl)) _ | exact (Chg.refl _ _).setCell (.inl (.inr rfl)) _ | exact ((Chg.refl _ _).setCell (.inl (.inl rfl)) _).setCell (.inl (.inl rfl)) _ | exact ((Chg.refl _ _).setCell (.inl (.inr rfl)) _).setCell (.inl (.inr rfl)) _ | exact Chg.drew (Chg.setCell ⟨rfl, rfl, rfl, Nat.le_refl _, fun _ _ _ => rfl⟩ (.inl (.inl rfl)) _) | exact Chg.drew (Chg.setCell ⟨rfl, rfl, rfl, Nat.le_refl _, fun _ _ _ => rfl⟩ (.inl (.inr rfl)) _)) ?_; clear hK K
  try simp only [Act.put, List.setIfInBounds_toArray, List.set_cons_zero, List.set_cons_succ]
  refine seq_last (by simp only [List.getElem?_toArray, List.getElem?_cons_succ, List.getElem?_cons_zero]; rfl) (by rfl) (fun K hK => ?_); go_wp2_with (first | (go_at_call 78; (with_reducible refine (WK.out _).mono ?_); rintro e w3 ⟨rfl, hb3⟩; have V3 := Lib.hid (V2.out.drew.later hb3); obtain ⟨d30, d31, d32, d33, zV3, df3⟩ := ecells V3.out.e) | (go_at_call 60; (with_reducible refine (TK.out _ V3.out).mono ?_); rintro e w4 ⟨vl, rfl, hr4, hv4, hc4⟩; obtain ⟨av, capv, rfl⟩ := ownsRow_slice hr4; have V4 := Lib.hid hv4; have R4 := Lib.hid hr4; have C4 := Lib.hid hc4; clear hv4 hr4) | (go_at_call 77; (with_reducible refine (mustE_ok _ _ _ _).mono ?_); rintro e w5 ⟨rfl, rfl⟩)); refine hK.out _ _ ?_; clear hK K
  try simp only [Act.put, List.setIfInBounds_toArray, List.set_cons_zero, List.set_cons_succ]
  refine seq_calc (by simp only [List.getElem?_toArray, List.getElem?_cons_succ, List.getElem?_cons_zero]; rfl) (by rfl) (fun u => by go_simp <;> with_reducible rfl) ?_
  try simp only [Act.put, List.setIfInBounds_toArray, List.set_cons_zero, List.set_cons_succ]
  refine seq_calc (by simp only [List.getElem?_toArray, List.getElem?_cons_succ, List.getElem?_cons_zero]; rfl) (by rfl) (fun u => by go_simp <;> with_reducible rfl) ?_
  try simp only [Act.put, List.setIfInBounds_toArray, List.set_cons_zero, List.set_cons_succ]
  refine seq_last (by simp only [List.getElem?_toArray, List.getElem?_cons_succ, List.getElem?_cons_zero]; rfl) (by rfl) (fun K hK => ?_); go_wp2_with (first | (go_at_call 78; (with_reducible refine (WK.out _).mono ?_); rintro e w3 ⟨rfl, hb3⟩; have V3 := Lib.hid (V2.out.drew.later hb3); obtain ⟨d30, d31, d32, d33, zV3, df3⟩ := ecells V3.out.e) | (go_at_call 60; (with_reducible refine (TK.out _ V3.out).mono ?_); rintro e w4 ⟨vl, rfl, hr4, hv4, hc4⟩; obtain ⟨av, capv, rfl⟩ := ownsRow_slice hr4; have V4 := Lib.hid hv4; have R4 := Lib.hid hr4; have C4 := Lib.hid hc4; clear hv4 hr4) | (go_at_call 77; (with_reducible refine (mustE_ok _ _ _ _).mono ?_); rintro e w5 ⟨rfl, rfl⟩)); refine hK.out _ _ ?_; clear hK K
  try simp only [Act.put, List.setIfInBounds_toArray, List.set_cons_zero, List.set_cons_succ]
  refine seq_calc (by simp only [List.getElem?_toArray, List.getElem?_cons_succ, List.getElem?_cons_zero]; rfl) (by rfl) (fun u => by go_simp <;> with_reducible rfl) ?_
  try simp only [Act.put, List.setIfInBounds_toArray, List.set_cons_zero, List.set_cons_succ]
  refine seq_nil ?_
  go_wp2
  refine wp_at (fun wL hwL => ?_)
  obtain ⟨m1, hm1⟩ : ∃ m1, m1 = (mt.add 0 0 1).add 0 1 0 := ⟨_, rfl⟩
  obtain ⟨b0, hb0⟩ : ∃ b0, b0 = w3.heap.size := ⟨_, rfl⟩
  have hMb : M < b0 := by have := V3.out.m.lt; omega
  have hXb : ∀ i, i < k → TB i < b0 ∧ R i < b0 := fun i hi => by have h1 := (V3.out.u i hi).ltB; have h2 := (V3.out.u i hi).ltQ; omega
  have hwb : w.heap.size ≤ b0 := by rw [hb0]; have := hb3.size; simp at this; omega
  have D0 := Lib.hid (show ESt wL V O Q G cap k TB R d next (T.takeT next) l (evF k d (l.take 0) (U, 0)) M m1 E b0 (.slice av l.length capv) w0 w by
    rw [hwL, hm1, hb0]
    refine ⟨V4.out, R4.out, ((C2.out.drew.thenBelow hb3).trans (C4.out.mono (fun _ _ e => ?_)))⟩
    rcases e with e | e | e
    · exact .inl e
    · exact .inr (.inl e)
    · exact .inr (.inr (.inl e)))
  have HM1 := Lib.hid hm1
  have HXB := Lib.hid hXb
  replace hwL := Lib.hid hwL
  clear V2 V3 V4 R4 C4 C2 hb3 hb0 hm1 hXb d0 d1 d2 d3 d30 d31 d32 d33 df df3 zV2 zV3 TK UN
  go_loopw [29] (fun v29 wr => ∃ j : Nat, j ≤ l.length ∧ v29 = .int .i64 (j : Int) ∧ ESt wr V O Q G cap k TB R d next (T.takeT next) l (evF k d (l.take j) (U, 0)) M m1 E b0 (.slice av l.length capv) w0 w ∧ (∀ i (hi : i < l.length), i < j → ((evF k d (l.take i) (U, 0)).1 (tIx k d l[i].hash.toNat)).putB l[i].key l[i].hash.toNat = true)) (fun v29 _ => l.length - (intOf v29).toNat)
  case atStart => exact ⟨0, Nat.zero_le _, rfl, D0.out, fun i _ hi => by omega⟩
  case round =>
    clear D0
    obtain ⟨j, hj, rfl, hS, hA⟩ := hrel
    have KS := Lib.hid hS
    have HA := Lib.hid hA
    clear hS hA
    by_cases hlt : j < l.length
    · have hltI : (j : Int) < (l.length : Int) := by omega
      have HT := Lib.hid (evF_take (k := k) (d := d) hlt (U, 0))
      obtain ⟨av', capv', e, -, hrow⟩ := ents_own KS.out.r
      cases e
      obtain ⟨b, rfl, hbb, hbz, hcl⟩ := hrow (fun e => by rw [e] at hlt; exact absurd hlt (by simp))
      obtain ⟨g0, g1, g2⟩ := hcl j hlt
      obtain ⟨hh1, hh2⟩ := HH.out l[j] (List.getElem_mem hlt)
      unfold evS at HT
      obtain ⟨s, hs⟩ : ∃ s, s = evF k d (l.take j) (U, 0) := ⟨_, rfl⟩
      have HSE := Lib.hid hs
      rw [← hs] at HT KS
      rw [hh1] at g2
      generalize hq1 : l[j].hash.toNat = hs' at HT g2 hh2
      generalize hq2 : l[j].key = ky at HT g0
      replace hq1 := Lib.hid hq1
      replace hq2 := Lib.hid hq2
      generalize l[j].val = vv at *
      have hi := tIx_lt (h := hs') hki
      have TG := Lib.hid (fun (w' : World) (h : EW w' V O G cap k TB d next) => etarget_any V O G cap k TB d next hs' hh2 w' h)
      generalize hq3 : tIx k d hs' = i at *
      replace hq3 := Lib.hid hq3
      have PU := Lib.hid (fun (w' : World) (h : EV w' V O Q G cap k TB R d next (T.takeT next) s.1 M (addN m1 0 1 0 s.2) E w0) => h.put hi ky vv hs' hh2 0 1 0)
      rw [addN_add] at PU
      clear hcl hrow hh1 hs
      go_upto_region 7 with (fail)
      refine wp_at (fun w5 hw5 => ?_)
      have S5 := Lib.hid (show ESt w5 V O Q G cap k TB R d next (T.takeT next) l s M m1 E b0 (.slice (some ⟨b, 0, none⟩) l.length capv) w0 w by rw [hw5]; exact KS.out.later (by go_grown))
      have P5 := Lib.hid (show Blk w5 wr.heap.size 47 #[.int .u64 ky, .int .u64 vv, .int .u64 (hs' : Int)] by rw [hw5]; exact Blk.new _ _ _)
      obtain ⟨p0, p1, p2⟩ := cells3 P5.out
      have zP := P5.out.lt
      have zM5 := S5.out.e.m.lt
      have zT5 := (S5.out.e.u i hi).ltB
      have zR5 := (S5.out.e.u i hi).ltQ
      obtain ⟨zTb, zRb⟩ := HXB.out i hi
      have hzwr : b0 ≤ wr.heap.size := by omega
      replace hw5 := Lib.hid hw5
      clear KS g0 g1 g2 hbz
      by_cases hpb : (s.1 i).putB ky hs' = true
      · rw [hpb, putN_new hpb, errN_0] at PU
        have HPB := Lib.hid hpb
        clear hpb
        refine wp_region_seq (fun b => b = M ∨ b = TB i ∨ b = R i) #[⟨0, 0, 17179869184, 1, 0⟩, ⟨0, 0, 34359738368, 64, 0⟩, ⟨2, 2, 68719476736, 34359738368, 1⟩, ⟨5, 7, 137438953472, 85899345920, 2⟩, ⟨0, 0, 274877906944, 2, 0⟩, ⟨24, 31, 549755813888, 274877906944, 2⟩, ⟨0, 0, 1099511627776, 64, 1⟩, ⟨104, 127, 2199023255552, 1786706395136, 3⟩, ⟨128, 255, 8589934592, 2199023255552, 0⟩, ⟨256, 511, 4398046511104, 8589934592, 0⟩, ⟨256, 511, 8796093022208, 8589934592, 0⟩, ⟨1023, 1023, 128, 4398046511104, 0⟩, ⟨4095, 4095, 256, 8796093022208, 0⟩] 68 [(0, 0), (1, 0), (2, 1), (4, 0), (6, 1), (3, 2), (5, 2), (7, 3), (8, 0), (9, 0), (10, 0), (11, 0), (12, 0)] (by kernel_rfl) (by kernel_rfl) (by kernel_rfl) (by kernel_rfl) (by kernel_rfl) (by kernel_rfl) (fun c a d v w h => by cases d <;> exact h) ?_
        refine seq_calc (by simp only [List.getElem?_toArray, List.getElem?_cons_succ, List.getElem?_cons_zero]; rfl) (by rfl) (fun u => by go_simp <;> with_reducible rfl) ?_
        try simp only [Act.put, List.setIfInBounds_toArray, List.set_cons_zero, List.set_cons_succ]
        refine seq_calc (by simp only [List.getElem?_toArray, List.getElem?_cons_succ, List.getElem?_cons_zero]; rfl) (by rfl) (fun u => by go_simp <;> with_reducible rfl) ?_
        try simp only [Act.put, List.setIfInBounds_toArray, List.set_cons_zero, List.set_cons_succ]
        refine seq_load1 (by simp only [List.getElem?_toArray, List.getElem?_cons_succ, List.getElem?_cons_zero]; rfl) (by rfl) rfl rfl Tryz.underlying45 rfl (by go_simp <;> with_reducible rfl) (by first | exact id | assumption | (simp; done) | (simp; omega)) ?_
        try simp only [Act.put, List.setIfInBounds_toArray, List.set_cons_zero, List.set_cons_succ]
        refine seq_calc (by simp only [List.getElem?_toArray, List.getElem?_cons_succ, List.getElem?_cons_zero]; rfl) (by rfl) (fun u => by go_simp <;> with_reducible rfl) ?_
        try simp only [Act.put, List.setIfInBounds_toArray, List.set_cons_zero, List.set_cons_succ]
        refine seq_loads [_, _, _] (by simp only [List.getElem?_toArray, List.getElem?_cons_succ, List.getElem?_cons_zero]; rfl) (by rfl) rfl rfl Tryz.underlying47 rfl (by kernel_rfl) (by first | (with_reducible assumption) | (refine cellsAre_range ?_; simp only [cellsAre]; (repeat' (first | exact True.intro | apply And.intro)); all_goals (go_simp <;> with_reducible rfl))) (by first | exact id | assumption | (simp; done) | (simp; omega)) ?_
        try simp only [Act.put, List.setIfInBounds_toArray, List.set_cons_zero, List.set_cons_succ]
        refine seq_do (by simp only [List.getElem?_toArray, List.getElem?_cons_succ, List.getElem?_cons_zero]; rfl) (by rfl) (fun K hK => ?_); go_wp2_with (first | (go_at_call 47; (with_reducible refine (TG.out _ S5.out.drew.e.e).mono ?_); rintro e w6 ⟨rfl, hb6⟩; have S6 := Lib.hid (S5.out.drew.later hb6)) | (go_at_call 78; (with_reducible refine (WK.out _).mono ?_); rintro e w7 ⟨rfl, hb7⟩; have S7 := Lib.hid (S6.out.later hb7)) | (go_at_call 48; (with_reducible refine (PU.out _ S7.out.e).mono ?_); rintro e w8 ⟨rfl, hv8, hc8⟩; have V8 := Lib.hid hv8; have R8 := Lib.hid (ownsRow_chg S7.out.r hc8 (by rintro b' hb' (e | e | e) <;> omega)); have C8 := Lib.hid (S7.out.c.trans (hc8.mono (fun _ _ e => show _ = M ∨ _ = O ∨ _ = Q ∨ _ = V ∨ ∃ i, i < k ∧ (_ = TB i ∨ _ = R i) by rcases e with e | e | e; exact .inl e; exact .inr (.inr (.inr (.inr ⟨i, hi, .inl e⟩))); exact .inr (.inr (.inr (.inr ⟨i, hi, .inr e⟩)))))); clear hv8)); refine hK.out _ _ (by first | (with_reducible exact Chg.refl _ _) | (with_reducible assumption) | (refine Chg.of_below ?_; with_reducible assumption) | (with_reducible exact (Chg.refl _ _).alloc _) | (with_reducible exact (Chg.refl _ _).drewN _) | (with_reducible exact (Chg.refl _ _).drew) | exact ⟨rfl, rfl, rfl, Nat.le_refl _, fun _ _ _ => rfl⟩ | exact (Chg.refl _ _).setCell (.inl (.inl rfl)) _ | exact (Chg.refl _ _).setCell (.inl (.inr rfl)) _ | exact ((Chg.refl _ _).setCell (.inl (.inl rfl)) _).setCell (.inl (.inl rfl)) _ | exact ((Chg.refl _ _).setCell (.inl (.inr rfl)) _).setCell (.inl (.inr rfl)) _ | exact Chg.drew (Chg.setCell ⟨rfl, rfl, rfl, Nat.le_refl _, fun _ _ _ => rfl⟩ (.inl (.inl rfl)) _) | exact Chg.drew (Chg.setCell ⟨rfl, rfl, rfl, Nat.le_refl _, fun _ _ _ => rfl⟩ (.inl (.inr rfl)) _)) ?_; clear hK K
        try simp only [Act.put, List.setIfInBounds_toArray, List.set_cons_zero, List.set_cons_succ]
        refine seq_do (by simp only [List.getElem?_toArray, List.getElem?_cons_succ, List.getElem?_cons_zero]; rfl) (by rfl) (fun K hK => ?_); go_wp2_with (first | (go_at_call 47; (with_reducible refine (TG.out _ S5.out.drew.e.e).mono ?_); rintro e w6 ⟨rfl, hb6⟩; have S6 := Lib.hid (S5.out.drew.later hb6)) | (go_at_call 78; (with_reducible refine (WK.out _).mono ?_); rintro e w7 ⟨rfl, hb7⟩; have S7 := Lib.hid (S6.out.later hb7)) | (go_at_call 48; (with_reducible refine (PU.out _ S7.out.e).mono ?_); rintro e w8 ⟨rfl, hv8, hc8⟩; have V8 := Lib.hid hv8; have R8 := Lib.hid (ownsRow_chg S7.out.r hc8 (by rintro b' hb' (e | e | e) <;> omega)); have C8 := Lib.hid (S7.out.c.trans (hc8.mono (fun _ _ e => show _ = M ∨ _ = O ∨ _ = Q ∨ _ = V ∨ ∃ i, i < k ∧ (_ = TB i ∨ _ = R i) by rcases e with e | e | e; exact .inl e; exact .inr (.inr (.inr (.inr ⟨i, hi, .inl e⟩))); exact .inr (.inr (.inr (.inr ⟨i, hi, .inr e⟩)))))); clear hv8)); refine hK.out _ _ (by first | (with_reducible exact Chg.refl _ _) | (with_reducible assumption) | (refine Chg.of_below ?_; with_reducible assumption) | (with_reducible exact (Chg.refl _ _).alloc _) | (with_reducible exact (Chg.refl _ _).drewN _) | (with_reducible exact (Chg.refl _ _).drew) | exact ⟨rfl, rfl, rfl, Nat.le_refl _, fun _ _ _ => rfl⟩ | exact (Chg.refl _ _).setCell (.inl (.inl rfl)) _ | exact (Chg.refl _ _).setCell (.inl (.inr rfl)) _ | exact ((Chg.refl _ _).setCell (.inl (.inl rfl)) _).setCell (.inl (.inl rfl)) _ | exact ((Chg.refl _ _).setCell (.inl (.inr rfl)) _).setCell (.inl (.inr rfl)) _ | exact Chg.drew (Chg.setCell ⟨rfl, rfl, rfl, Nat.le_refl _, fun _ _ _ => rfl⟩ (.inl (.inl rfl)) _) | exact Chg.drew (Chg.setCell ⟨rfl, rfl, rfl, Nat.le_refl _, fun _ _ _ => rfl⟩ (.inl (.inr rfl)) _)) ?_; clear hK K
        try simp only [Act.put, List.setIfInBounds_toArray, List.set_cons_zero, List.set_cons_succ]
        refine seq_last (by simp only [List.getElem?_toArray, List.getElem?_cons_succ, List.getElem?_cons_zero]; rfl) (by rfl) (fun K hK => ?_); go_wp2_with (first | (go_at_call 47; (with_reducible refine (TG.out _ S5.out.drew.e.e).mono ?_); rintro e w6 ⟨rfl, hb6⟩; have S6 := Lib.hid (S5.out.drew.later hb6)) | (go_at_call 78; (with_reducible refine (WK.out _).mono ?_); rintro e w7 ⟨rfl, hb7⟩; have S7 := Lib.hid (S6.out.later hb7)) | (go_at_call 48; (with_reducible refine (PU.out _ S7.out.e).mono ?_); rintro e w8 ⟨rfl, hv8, hc8⟩; have V8 := Lib.hid hv8; have R8 := Lib.hid (ownsRow_chg S7.out.r hc8 (by rintro b' hb' (e | e | e) <;> omega)); have C8 := Lib.hid (S7.out.c.trans (hc8.mono (fun _ _ e => show _ = M ∨ _ = O ∨ _ = Q ∨ _ = V ∨ ∃ i, i < k ∧ (_ = TB i ∨ _ = R i) by rcases e with e | e | e; exact .inl e; exact .inr (.inr (.inr (.inr ⟨i, hi, .inl e⟩))); exact .inr (.inr (.inr (.inr ⟨i, hi, .inr e⟩)))))); clear hv8)); refine hK.out _ _ ?_; clear hK K
        try simp only [Act.put, List.setIfInBounds_toArray, List.set_cons_zero, List.set_cons_succ]
        refine seq_calc (by simp only [List.getElem?_toArray, List.getElem?_cons_succ, List.getElem?_cons_zero]; rfl) (by rfl) (fun u => by go_simp <;> with_reducible rfl) ?_
        try simp only [Act.put, List.setIfInBounds_toArray, List.set_cons_zero, List.set_cons_succ]
        refine seq_calc (by simp only [List.getElem?_toArray, List.getElem?_cons_succ, List.getElem?_cons_zero]; rfl) (by rfl) (fun u => by go_simp <;> with_reducible rfl) ?_
        try simp only [Act.put, List.setIfInBounds_toArray, List.set_cons_zero, List.set_cons_succ]
        refine seq_calc (by simp only [List.getElem?_toArray, List.getElem?_cons_succ, List.getElem?_cons_zero]; rfl) (by rfl) (fun u => by go_simp <;> with_reducible rfl) ?_
        try simp only [Act.put, List.setIfInBounds_toArray, List.set_cons_zero, List.set_cons_succ]
        refine seq_calc (by simp only [List.getElem?_toArray, List.getElem?_cons_succ, List.getElem?_cons_zero]; rfl) (by rfl) (fun u => by go_simp <;> with_reducible rfl) ?_
        try simp only [Act.put, List.setIfInBounds_toArray, List.set_cons_zero, List.set_cons_succ]
        refine seq_calc (by simp only [List.getElem?_toArray, List.getElem?_cons_succ, List.getElem?_cons_zero]; rfl) (by rfl) (fun u => by go_simp <;> with_reducible rfl) ?_
        try simp only [Act.put, List.setIfInBounds_toArray, List.set_cons_zero, List.set_cons_succ]
        refine seq_nil ?_
        go_wp2_with (go_at_call 79; (with_reducible refine (need_yes _).mono ?_); rintro e w9 ⟨rfl, rfl⟩)
        go_roundw
        case rel =>
          refine ⟨j + 1, by omega, by go_num, by rw [HT.out]; exact ⟨V8.out, R8.out, C8.out⟩, fun i' hi' hlt' => ?_⟩
          by_cases e : i' = j
          · subst e; rw [hq1.out, hq2.out, hq3.out, ← HSE.out]; exact HPB.out
          · exact HA.out i' hi' (by omega)
        case measure => simp [intOf]; omega
      · replace hpb : (s.1 i).putB ky hs' = false := by simpa using hpb
        rw [hpb] at PU
        have HPB := Lib.hid hpb
        generalize (s.1 i).putN ky hs' = pn at *
        clear hpb
        refine wp_region_seq (fun b => b = M ∨ b = TB i ∨ b = R i) #[⟨0, 0, 17179869184, 1, 0⟩, ⟨0, 0, 34359738368, 64, 0⟩, ⟨2, 2, 68719476736, 34359738368, 1⟩, ⟨5, 7, 137438953472, 85899345920, 2⟩, ⟨0, 0, 274877906944, 2, 0⟩, ⟨24, 31, 549755813888, 274877906944, 2⟩, ⟨0, 0, 1099511627776, 64, 1⟩, ⟨104, 127, 2199023255552, 1786706395136, 3⟩, ⟨128, 255, 8589934592, 2199023255552, 0⟩, ⟨256, 511, 4398046511104, 8589934592, 0⟩, ⟨256, 511, 8796093022208, 8589934592, 0⟩, ⟨1023, 1023, 128, 4398046511104, 0⟩, ⟨4095, 4095, 256, 8796093022208, 0⟩] 68 [(0, 0), (1, 0), (2, 1), (4, 0), (6, 1), (3, 2), (5, 2), (7, 3), (8, 0), (9, 0), (10, 0), (11, 0), (12, 0)] (by kernel_rfl) (by kernel_rfl) (by kernel_rfl) (by kernel_rfl) (by kernel_rfl) (by kernel_rfl) (fun c a d v w h => by cases d <;> exact h) ?_
        refine seq_calc (by simp only [List.getElem?_toArray, List.getElem?_cons_succ, List.getElem?_cons_zero]; rfl) (by rfl) (fun u => by go_simp <;> with_reducible rfl) ?_
        try simp only [Act.put, List.setIfInBounds_toArray, List.set_cons_zero, List.set_cons_succ]
        refine seq_calc (by simp only [List.getElem?_toArray, List.getElem?_cons_succ, List.getElem?_cons_zero]; rfl) (by rfl) (fun u => by go_simp <;> with_reducible rfl) ?_
        try simp only [Act.put, List.setIfInBounds_toArray, List.set_cons_zero, List.set_cons_succ]
        refine seq_load1 (by simp only [List.getElem?_toArray, List.getElem?_cons_succ, List.getElem?_cons_zero]; rfl) (by rfl) rfl rfl Tryz.underlying45 rfl (by go_simp <;> with_reducible rfl) (by first | exact id | assumption | (simp; done) | (simp; omega)) ?_
        try simp only [Act.put, List.setIfInBounds_toArray, List.set_cons_zero, List.set_cons_succ]
        refine seq_calc (by simp only [List.getElem?_toArray, List.getElem?_cons_succ, List.getElem?_cons_zero]; rfl) (by rfl) (fun u => by go_simp <;> with_reducible rfl) ?_
        try simp only [Act.put, List.setIfInBounds_toArray, List.set_cons_zero, List.set_cons_succ]
        refine seq_loads [_, _, _] (by simp only [List.getElem?_toArray, List.getElem?_cons_succ, List.getElem?_cons_zero]; rfl) (by rfl) rfl rfl Tryz.underlying47 rfl (by kernel_rfl) (by first | (with_reducible assumption) | (refine cellsAre_range ?_; simp only [cellsAre]; (repeat' (first | exact True.intro | apply And.intro)); all_goals (go_simp <;> with_reducible rfl))) (by first | exact id | assumption | (simp; done) | (simp; omega)) ?_
        try simp only [Act.put, List.setIfInBounds_toArray, List.set_cons_zero, List.set_cons_succ]
        refine seq_do (by simp only [List.getElem?_toArray, List.getElem?_cons_succ, List.getElem?_cons_zero]; rfl) (by rfl) (fun K hK => ?_); go_wp2_with (first | (go_at_call 47; (with_reducible refine (TG.out _ S5.out.drew.e.e).mono ?_); rintro e w6 ⟨rfl, hb6⟩; have S6 := Lib.hid (S5.out.drew.later hb6)) | (go_at_call 78; (with_reducible refine (WK.out _).mono ?_); rintro e w7 ⟨rfl, hb7⟩; have S7 := Lib.hid (S6.out.later hb7)) | (go_at_call 48; (with_reducible refine (PU.out _ S7.out.e).mono ?_); rintro e w8 ⟨rfl, hv8, hc8⟩; have V8 := Lib.hid hv8; have N8 := Lib.hid (need_no E _ (HBR.out _ hv8.t.bel)); have C8 := Lib.hid (S7.out.c.trans (hc8.mono (fun _ _ e => show _ = M ∨ _ = O ∨ _ = Q ∨ _ = V ∨ ∃ i, i < k ∧ (_ = TB i ∨ _ = R i) by rcases e with e | e | e; exact .inl e; exact .inr (.inr (.inr (.inr ⟨i, hi, .inl e⟩))); exact .inr (.inr (.inr (.inr ⟨i, hi, .inr e⟩)))))); clear hv8)); refine hK.out _ _ (by first | (with_reducible exact Chg.refl _ _) | (with_reducible assumption) | (refine Chg.of_below ?_; with_reducible assumption) | (with_reducible exact (Chg.refl _ _).alloc _) | (with_reducible exact (Chg.refl _ _).drewN _) | (with_reducible exact (Chg.refl _ _).drew) | exact ⟨rfl, rfl, rfl, Nat.le_refl _, fun _ _ _ => rfl⟩ | exact (Chg.refl _ _).setCell (.inl (.inl rfl)) _ | exact (Chg.refl _ _).setCell (.inl (.inr rfl)) _ | exact ((Chg.refl _ _).setCell (.inl (.inl rfl)) _).setCell (.inl (.inl rfl)) _ | exact ((Chg.refl _ _).setCell (.inl (.inr rfl)) _).setCell (.inl (.inr rfl)) _ | exact Chg.drew (Chg.setCell ⟨rfl, rfl, rfl, Nat.le_refl _, fun _ _ _ => rfl⟩ (.inl (.inl rfl)) _) | exact Chg.drew (Chg.setCell ⟨rfl, rfl, rfl, Nat.le_refl _, fun _ _ _ => rfl⟩ (.inl (.inr rfl)) _)) ?_; clear hK K
        try simp only [Act.put, List.setIfInBounds_toArray, List.set_cons_zero, List.set_cons_succ]
        refine seq_do (by simp only [List.getElem?_toArray, List.getElem?_cons_succ, List.getElem?_cons_zero]; rfl) (by rfl) (fun K hK => ?_); go_wp2_with (first | (go_at_call 47; (with_reducible refine (TG.out _ S5.out.drew.e.e).mono ?_); rintro e w6 ⟨rfl, hb6⟩; have S6 := Lib.hid (S5.out.drew.later hb6)) | (go_at_call 78; (with_reducible refine (WK.out _).mono ?_); rintro e w7 ⟨rfl, hb7⟩; have S7 := Lib.hid (S6.out.later hb7)) | (go_at_call 48; (with_reducible refine (PU.out _ S7.out.e).mono ?_); rintro e w8 ⟨rfl, hv8, hc8⟩; have V8 := Lib.hid hv8; have N8 := Lib.hid (need_no E _ (HBR.out _ hv8.t.bel)); have C8 := Lib.hid (S7.out.c.trans (hc8.mono (fun _ _ e => show _ = M ∨ _ = O ∨ _ = Q ∨ _ = V ∨ ∃ i, i < k ∧ (_ = TB i ∨ _ = R i) by rcases e with e | e | e; exact .inl e; exact .inr (.inr (.inr (.inr ⟨i, hi, .inl e⟩))); exact .inr (.inr (.inr (.inr ⟨i, hi, .inr e⟩)))))); clear hv8)); refine hK.out _ _ (by first | (with_reducible exact Chg.refl _ _) | (with_reducible assumption) | (refine Chg.of_below ?_; with_reducible assumption) | (with_reducible exact (Chg.refl _ _).alloc _) | (with_reducible exact (Chg.refl _ _).drewN _) | (with_reducible exact (Chg.refl _ _).drew) | exact ⟨rfl, rfl, rfl, Nat.le_refl _, fun _ _ _ => rfl⟩ | exact (Chg.refl _ _).setCell (.inl (.inl rfl)) _ | exact (Chg.refl _ _).setCell (.inl (.inr rfl)) _ | exact ((Chg.refl _ _).setCell (.inl (.inl rfl)) _).setCell (.inl (.inl rfl)) _ | exact ((Chg.refl _ _).setCell (.inl (.inr rfl)) _).setCell (.inl (.inr rfl)) _ | exact Chg.drew (Chg.setCell ⟨rfl, rfl, rfl, Nat.le_refl _, fun _ _ _ => rfl⟩ (.inl (.inl rfl)) _) | exact Chg.drew (Chg.setCell ⟨rfl, rfl, rfl, Nat.le_refl _, fun _ _ _ => rfl⟩ (.inl (.inr rfl)) _)) ?_; clear hK K
        try simp only [Act.put, List.setIfInBounds_toArray, List.set_cons_zero, List.set_cons_succ]
        refine seq_last (by simp only [List.getElem?_toArray, List.getElem?_cons_succ, List.getElem?_cons_zero]; rfl) (by rfl) (fun K hK => ?_); go_wp2_with (first | (go_at_call 47; (with_reducible refine (TG.out _ S5.out.drew.e.e).mono ?_); rintro e w6 ⟨rfl, hb6⟩; have S6 := Lib.hid (S5.out.drew.later hb6)) | (go_at_call 78; (with_reducible refine (WK.out _).mono ?_); rintro e w7 ⟨rfl, hb7⟩; have S7 := Lib.hid (S6.out.later hb7)) | (go_at_call 48; (with_reducible refine (PU.out _ S7.out.e).mono ?_); rintro e w8 ⟨rfl, hv8, hc8⟩; have V8 := Lib.hid hv8; have N8 := Lib.hid (need_no E _ (HBR.out _ hv8.t.bel)); have C8 := Lib.hid (S7.out.c.trans (hc8.mono (fun _ _ e => show _ = M ∨ _ = O ∨ _ = Q ∨ _ = V ∨ ∃ i, i < k ∧ (_ = TB i ∨ _ = R i) by rcases e with e | e | e; exact .inl e; exact .inr (.inr (.inr (.inr ⟨i, hi, .inl e⟩))); exact .inr (.inr (.inr (.inr ⟨i, hi, .inr e⟩)))))); clear hv8)); refine hK.out _ _ ?_; clear hK K
        try simp only [Act.put, List.setIfInBounds_toArray, List.set_cons_zero, List.set_cons_succ]
        refine seq_calc (by simp only [List.getElem?_toArray, List.getElem?_cons_succ, List.getElem?_cons_zero]; rfl) (by rfl) (fun u => by go_simp <;> with_reducible rfl) ?_
        try simp only [Act.put, List.setIfInBounds_toArray, List.set_cons_zero, List.set_cons_succ]
        refine seq_calc (by simp only [List.getElem?_toArray, List.getElem?_cons_succ, List.getElem?_cons_zero]; rfl) (by rfl) (fun u => by go_simp <;> with_reducible rfl) ?_
        try simp only [Act.put, List.setIfInBounds_toArray, List.set_cons_zero, List.set_cons_succ]
        refine seq_calc (by simp only [List.getElem?_toArray, List.getElem?_cons_succ, List.getElem?_cons_zero]; rfl) (by rfl) (fun u => by go_simp <;> with_reducible rfl) ?_
        try simp only [Act.put, List.setIfInBounds_toArray, List.set_cons_zero, List.set_cons_succ]
        refine seq_calc (by simp only [List.getElem?_toArray, List.getElem?_cons_succ, List.getElem?_cons_zero]; rfl) (by rfl) (fun u => by go_simp <;> with_reducible rfl) ?_
        try simp only [Act.put, List.setIfInBounds_toArray, List.set_cons_zero, List.set_cons_succ]
        refine seq_calc (by simp only [List.getElem?_toArray, List.getElem?_cons_succ, List.getElem?_cons_zero]; rfl) (by rfl) (fun u => by go_simp <;> with_reducible rfl) ?_
        try simp only [Act.put, List.setIfInBounds_toArray, List.set_cons_zero, List.set_cons_succ]
        refine seq_nil ?_
        go_wp2_with (go_at_call 79; (with_reducible refine N8.out.mono ?_); rintro e w9 ⟨rfl, rfl⟩)
        exact ⟨rfl, rfl, C8.out⟩
    · obtain rfl : j = l.length := by omega
      exact absurd (fun i hi => HA.out i hi hi) HNO.out
end
end Go.Proofs.YtgamgphfjndiiaaGreatDoor

namespace Go.Proofs.YtgamgphfjndiiaaGreatDoor
set_option linter.unusedVariables false
set_option linter.unusedSimpArgs false
open Go.RowKit Go.Proofs

def sumI (f : Nat → Int) : Nat → Int
  | 0 => 0
  | n + 1 => sumI f n + f n
theorem sumI_congr {f g : Nat → Int} : ∀ {n : Nat}, (∀ i, i < n → f i = g i) → sumI f n = sumI g n
  | 0, _ => rfl
  | n + 1, h => by unfold sumI; rw [sumI_congr (n := n) (fun i hi => h i (by omega)), h n (by omega)]
theorem sumI_upd {f : Nat → Int} {i : Nat} {v : Int} : ∀ {n : Nat}, i < n → sumI (upd f i v) n = sumI f n + (v - f i)
  | 0, h => absurd h (by omega)
  | n + 1, h => by
    unfold sumI
    by_cases e : i = n
    · subst e
      rw [upd_same, sumI_congr (f := upd f i v) (g := f) (fun j hj => upd_other _ _ (by omega))]
      omega
    · rw [sumI_upd (n := n) (by omega), upd_other _ _ (by omega)]
      omega
theorem sumI_bd {f : Nat → Int} {m : Int} : ∀ {n : Nat}, (∀ i, i < n → 0 ≤ f i ∧ f i ≤ m) → 0 ≤ sumI f n ∧ sumI f n ≤ n * m
  | 0, _ => by simp [sumI]
  | n + 1, h => by
    obtain ⟨h1, h2⟩ := sumI_bd (n := n) (fun i hi => h i (by omega))
    obtain ⟨h3, h4⟩ := h n (by omega)
    unfold sumI
    have : ((n + 1 : Nat) : Int) * m = n * m + m := by rw [Int.natCast_add, Int.add_mul]; simp
    omega
section
variable {w w' : World} {lo hi D : Nat} {T : TabS} {L : Int}
theorem DX.take (h : DX w lo hi D T L) (hL : 0 ≤ L ∧ L ≤ 1000000000) (i : Nat) (hi' : i < T.n) :
    Calls Tryz.prog 61 #[.pointer (some ⟨D, 0, none⟩), .int .i64 (i : Int)] w fun e w' =>
      ∃ v, e = .returned (.tuple #[v, .int .i64 0]) ∧ w'.ownsRow w.heap.size 47 3 v (entsL (T.M i) (T.S i)).length (entV (entsL (T.M i) (T.S i))) ∧ DX w' lo hi D (T.takeT i) (L + 1) ∧ Chg (fun b => lo ≤ b ∧ b < hi) w w' := by
  obtain ⟨P, cap, GB, h⟩ := h
  refine (dttake_any h hL i hi').mono ?_
  rintro e w' ⟨v, rfl, h0, h1, h2⟩
  exact ⟨v, rfl, h0, ⟨P, cap, GB, h1⟩, h2⟩
theorem DX.text (h : DX w lo hi D T L) : Calls Tryz.prog 25 #[.pointer (some ⟨D, 0, none⟩)] w fun e w' => ∃ v, e = .returned v ∧ ReadsTexts w' v T.texts ∧ Below w.heap.size w w' := by
  obtain ⟨P, cap, GB, h⟩ := h
  exact dttext_any h
theorem DX.del (h : DX w lo hi D T L) (hL : 0 ≤ L ∧ L ≤ 1000000000) (key : Int) (hs : Nat) (hh : hs < 18446744073709551616) :
    Calls Tryz.prog 58 #[.pointer (some ⟨D, 0, none⟩), .int .u64 key, .int .u64 (hs : Int)] w fun e w' =>
      e = .returned (.tuple #[.agg #[.int .u64 (T.ent key hs).key, .int .u64 (T.ent key hs).val, .int .u64 (T.ent key hs).hash], .bool (T.has key hs)]) ∧ DX w' lo hi D (T.delT key hs) (L + T.looks key hs) ∧ Chg (fun b => lo ≤ b ∧ b < hi) w w' := by
  obtain ⟨P, cap, GB, h⟩ := h
  refine (dtdel_any h hL key hs hh).mono ?_
  rintro e w' ⟨rfl, h1, h2⟩
  exact ⟨rfl, ⟨P, cap, GB, h1⟩, h2⟩
theorem DX.good (h : DX w lo hi D T L) : TGood T := by obtain ⟨P, cap, GB, h⟩ := h; exact h.good
/-- its list of groups -/
theorem DX.head (h : DX w lo hi D T L) : ∃ P cap, w.cell? ⟨D, 0, none⟩ = some (.slice (some ⟨P, 0, none⟩) T.n cap) := by obtain ⟨P, cap, GB, h⟩ := h; exact ⟨P, cap, h.head.cell 0⟩
end
/-- the blocks of the document's tables -/
def ZD (p0 : PB) (pt : Nat → PB) (k : Nat) (b : Nat) : Prop := (p0.mid ≤ b ∧ b < p0.hi) ∨ ∃ i, i < k ∧ (pt i).mid ≤ b ∧ b < (pt i).hi
/-- the document's evacuation, its tables and how often they were looked at -/
structure RV (w : World) (X gt tcap k : Nat) (p0 : PB) (pt : Nat → PB) (d next : Nat) (T : TabS) (U : Nat → TabS) (L0 : Int) (Lc : Nat → Int) : Prop where
  v : VM w X p0.D gt tcap k (fun i => (pt i).D) d next
  o : DX w p0.mid p0.hi p0.D T L0
  t : ∀ i, i < k → DX w (pt i).mid (pt i).hi (pt i).D (U i) (Lc i)
  s0 : ∀ i, i < k → p0.hi ≤ (pt i).mid
  s1 : ∀ i j, i < j → j < k → (pt i).hi ≤ (pt j).mid
  x : ∀ b, ZD p0 pt k b → b ≠ X ∧ b ≠ gt
section
variable {w w' : World} {X gt tcap k : Nat} {p0 : PB} {pt : Nat → PB} {d next : Nat} {T : TabS} {U : Nat → TabS} {L0 : Int} {Lc : Nat → Int}
theorem RV.later (h : RV w X gt tcap k p0 pt d next T U L0 Lc) (hb : Below w.heap.size w w') : RV w' X gt tcap k p0 pt d next T U L0 Lc := ⟨h.v.later hb, h.o.later hb, fun i hi => (h.t i hi).later hb, h.s0, h.s1, h.x⟩
theorem RV.drew (h : RV w X gt tcap k p0 pt d next T U L0 Lc) : RV w.drew X gt tcap k p0 pt d next T U L0 Lc := h.later (Below.refl _ _).drew
theorem RV.alloc (h : RV w X gt tcap k p0 pt d next T U L0 Lc) (o : Obj) : RV (w.alloc o) X gt tcap k p0 pt d next T U L0 Lc := h.later ((Below.refl _ _).alloc (Nat.le_refl _) o)
theorem RV.chg {Y : Nat → Prop} (h : RV w X gt tcap k p0 pt d next T U L0 Lc) (hc : Chg Y w w') (hY : ∀ b, ZD p0 pt k b → ¬ Y b) (h1 : ¬ Y X) (h2 : ¬ Y gt) : RV w' X gt tcap k p0 pt d next T U L0 Lc :=
  ⟨h.v.chg hc h1 h2, h.o.chg hc (fun b a c => hY b (.inl ⟨a, c⟩)), fun i hi => (h.t i hi).chg hc (fun b a c => hY b (.inr ⟨i, hi, a, c⟩)), h.s0, h.s1, h.x⟩
/-- a Put into a target -/
theorem RV.put (h : RV w X gt tcap k p0 pt d next T U L0 Lc) {i : Nat} (hi : i < k) (hL : 0 ≤ Lc i ∧ Lc i ≤ 1000000000) (key v : Int) (hs : Nat) (hh : hs < 18446744073709551616) :
    Calls Tryz.prog 56 #[.pointer (some ⟨(pt i).D, 0, none⟩), .agg #[.int .u64 key, .int .u64 v, .int .u64 (hs : Int)]] w fun e w' =>
      e = .returned (.tuple #[.bool ((U i).putB key hs), .int .i64 (((U i).putN key hs : Nat) : Int)]) ∧ RV w' X gt tcap k p0 pt d next T (upd U i ((U i).putT key v hs)) L0 (upd Lc i (Lc i + (U i).looks key hs)) ∧ Chg (ZD p0 pt k) w w' := by
  refine ((h.t i hi).put hL key v hs hh).mono ?_
  rintro e w' ⟨rfl, h1, h2⟩
  refine ⟨rfl, ⟨h.v.chg h2 (fun e => (h.x X (.inr ⟨i, hi, e⟩)).1 rfl) (fun e => (h.x gt (.inr ⟨i, hi, e⟩)).2 rfl), h.o.chg h2 (fun b a c e => by have := h.s0 i hi; omega), fun j hj => ?_, h.s0, h.s1, h.x⟩, h2.mono (fun b _ e => .inr ⟨i, hi, e⟩)⟩
  by_cases e : j = i
  · subst e; rw [upd_same, upd_same]; exact h1
  · rw [upd_other _ _ e, upd_other _ _ e]
    refine (h.t j hj).chg h2 (fun b a c e2 => ?_)
    rcases Nat.lt_or_gt_of_ne e with c2 | c2
    · have := h.s1 j i c2 hi; omega
    · have := h.s1 i j c2 hj; omega
/-- the next group is taken -/
theorem RV.take (h : RV w X gt tcap k p0 pt d next T U L0 Lc) (hL : 0 ≤ L0 ∧ L0 ≤ 1000000000) (hn : next < T.n) :
    Calls Tryz.prog 61 #[.pointer (some ⟨p0.D, 0, none⟩), .int .i64 (next : Int)] w fun e w' =>
      ∃ v, e = .returned (.tuple #[v, .int .i64 0]) ∧ w'.ownsRow w.heap.size 47 3 v (entsL (T.M next) (T.S next)).length (entV (entsL (T.M next) (T.S next))) ∧ RV w' X gt tcap k p0 pt d next (T.takeT next) U (L0 + 1) Lc ∧ Chg (ZD p0 pt k) w w' := by
  refine (h.o.take hL next hn).mono ?_
  rintro e w' ⟨v, rfl, h0, h1, h2⟩
  exact ⟨v, rfl, h0, ⟨h.v.chg h2 (fun e => (h.x X (.inl e)).1 rfl) (fun e => (h.x gt (.inl e)).2 rfl), h1, fun j hj => (h.t j hj).chg h2 (fun b a c e => by have := h.s0 j hj; omega), h.s0, h.s1, h.x⟩, h2.mono (fun b _ e => .inl e)⟩
set_option maxRecDepth 100000 in
theorem rstep_no (h : RV w X gt tcap k p0 pt d next T U L0 Lc) (hn : next = T.n) :
    Calls Tryz.prog 32 #[.pointer (some ⟨X, 0, none⟩)] w fun e w' => e = .returned (.tuple #[.bool false, .bool false]) ∧ Below w.heap.size w w' := by
  obtain ⟨c0, c1, c2, c3, zX, fX⟩ := vmcells h.v
  obtain ⟨P, cap, d0⟩ := h.o.head
  have zD := h.o.lt
  subst hn
  have hb := h.o.good.bounds
  clear h
  go_enter Tryz.func32, Tryz.ntmps32
  go_wp2
  refine wp_region_seq (fun _ => False) #[⟨0, 0, 1024, 1, 0⟩, ⟨1, 1, 2048, 1024, 0⟩, ⟨2, 3, 4096, 2048, 0⟩, ⟨4, 7, 8192, 4096, 1⟩, ⟨0, 0, 16384, 1, 0⟩, ⟨16, 16, 32768, 16384, 0⟩, ⟨32, 48, 65536, 32768, 0⟩, ⟨64, 112, 131072, 65536, 1⟩, ⟨128, 240, 262144, 131072, 0⟩, ⟨256, 496, 524288, 262144, 0⟩, ⟨512, 1008, 1048576, 524288, 1⟩, ⟨1024, 2032, 2097152, 1048576, 0⟩, ⟨2056, 4095, 4194304, 2105344, 0⟩] 1160 [(0, 0), (1, 0), (2, 0), (3, 1), (4, 0), (5, 0), (6, 0), (7, 1), (8, 0), (9, 0), (10, 1), (11, 0), (12, 0)] (by kernel_rfl) (by kernel_rfl) (by kernel_rfl) (by kernel_rfl) (by kernel_rfl) (by kernel_rfl) (fun c a d v w h => by cases d <;> exact h) ?_
  refine seq_calc (by simp only [List.getElem?_toArray, List.getElem?_cons_succ, List.getElem?_cons_zero]; rfl) (by rfl) (fun u => by go_simp <;> with_reducible rfl) ?_
  try simp only [Act.put, List.setIfInBounds_toArray, List.set_cons_zero, List.set_cons_succ]
  refine seq_calc (by simp only [List.getElem?_toArray, List.getElem?_cons_succ, List.getElem?_cons_zero]; rfl) (by rfl) (fun u => by go_simp <;> with_reducible rfl) ?_
  try simp only [Act.put, List.setIfInBounds_toArray, List.set_cons_zero, List.set_cons_succ]
  refine seq_calc (by simp only [List.getElem?_toArray, List.getElem?_cons_succ, List.getElem?_cons_zero]; rfl) (by rfl) (fun u => by go_simp <;> with_reducible rfl) ?_
  try simp only [Act.put, List.setIfInBounds_toArray, List.set_cons_zero, List.set_cons_succ]
  refine seq_load1 (by simp only [List.getElem?_toArray, List.getElem?_cons_succ, List.getElem?_cons_zero]; rfl) (by rfl) rfl rfl Tryz.underlying3 rfl (by go_simp <;> with_reducible rfl) (by first | exact id | assumption | (simp; done) | (simp; omega)) ?_
  try simp only [Act.put, List.setIfInBounds_toArray, List.set_cons_zero, List.set_cons_succ]
  refine seq_calc (by simp only [List.getElem?_toArray, List.getElem?_cons_succ, List.getElem?_cons_zero]; rfl) (by rfl) (fun u => by go_simp <;> with_reducible rfl) ?_
  try simp only [Act.put, List.setIfInBounds_toArray, List.set_cons_zero, List.set_cons_succ]
  refine seq_calc (by simp only [List.getElem?_toArray, List.getElem?_cons_succ, List.getElem?_cons_zero]; rfl) (by rfl) (fun u => by go_simp <;> with_reducible rfl) ?_
  try simp only [Act.put, List.setIfInBounds_toArray, List.set_cons_zero, List.set_cons_succ]
  refine seq_calc (by simp only [List.getElem?_toArray, List.getElem?_cons_succ, List.getElem?_cons_zero]; rfl) (by rfl) (fun u => by go_simp <;> with_reducible rfl) ?_
  try simp only [Act.put, List.setIfInBounds_toArray, List.set_cons_zero, List.set_cons_succ]
  refine seq_load1 (by simp only [List.getElem?_toArray, List.getElem?_cons_succ, List.getElem?_cons_zero]; rfl) (by rfl) rfl rfl Tryz.underlying30 rfl (by go_simp <;> with_reducible rfl) (by first | exact id | assumption | (simp; done) | (simp; omega)) ?_
  try simp only [Act.put, List.setIfInBounds_toArray, List.set_cons_zero, List.set_cons_succ]
  refine seq_calc (by simp only [List.getElem?_toArray, List.getElem?_cons_succ, List.getElem?_cons_zero]; rfl) (by rfl) (fun u => by go_simp <;> with_reducible rfl) ?_
  try simp only [Act.put, List.setIfInBounds_toArray, List.set_cons_zero, List.set_cons_succ]
  refine seq_calc (by simp only [List.getElem?_toArray, List.getElem?_cons_succ, List.getElem?_cons_zero]; rfl) (by rfl) (fun u => by go_simp <;> with_reducible rfl) ?_
  try simp only [Act.put, List.setIfInBounds_toArray, List.set_cons_zero, List.set_cons_succ]
  refine seq_load1 (by simp only [List.getElem?_toArray, List.getElem?_cons_succ, List.getElem?_cons_zero]; rfl) (by rfl) rfl rfl Tryz.underlying53 rfl (by go_simp <;> with_reducible rfl) (by first | exact id | assumption | (simp; done) | (simp; omega)) ?_
  try simp only [Act.put, List.setIfInBounds_toArray, List.set_cons_zero, List.set_cons_succ]
  refine seq_calc (by simp only [List.getElem?_toArray, List.getElem?_cons_succ, List.getElem?_cons_zero]; rfl) (by rfl) (fun u => by go_simp <;> with_reducible rfl) ?_
  try simp only [Act.put, List.setIfInBounds_toArray, List.set_cons_zero, List.set_cons_succ]
  refine seq_calc (by simp only [List.getElem?_toArray, List.getElem?_cons_succ, List.getElem?_cons_zero]; rfl) (by rfl) (fun u => by go_simp <;> with_reducible rfl) ?_
  try simp only [Act.put, List.setIfInBounds_toArray, List.set_cons_zero, List.set_cons_succ]
  refine seq_nil ?_
  go_wp2
  go_ret2
  exact ⟨rfl, (Below.refl _ _).drew⟩
set_option maxRecDepth 100000 in
theorem rlooks_any (h : RV w X gt tcap k p0 pt d next T U L0 Lc) (hL : 0 ≤ L0 ∧ L0 ≤ 1000000000) (hLc : ∀ i, i < k → 0 ≤ Lc i ∧ Lc i ≤ 1000000000) :
    Calls Tryz.prog 34 #[.pointer (some ⟨X, 0, none⟩)] w fun e w' => e = .returned (.int .i64 (L0 + sumI Lc k)) ∧ w' = w := by
  obtain ⟨c0, c1, c2, c3, zX, fX⟩ := vmcells h.v
  have zG := h.v.lt
  have LL := Lib.hid h.v.l
  obtain ⟨d1, -⟩ := h.o.cells
  have zD := h.o.lt
  have HC := Lib.hid (fun i hi => (h.t i hi).cells.1)
  have HZ := Lib.hid (fun i hi => (h.t i hi).lt)
  have HB := Lib.hid hLc
  have hk2 : 1 ≤ k ∧ k ≤ 2 := by rcases h.v.hk with e | e <;> omega
  have HS := Lib.hid (fun n (hn : n ≤ k) => sumI_bd (f := Lc) (m := 1000000000) (n := n) (fun i hi => hLc i (by omega)))
  clear h hLc c2 c3
  go_enter Tryz.func34, Tryz.ntmps34
  go_wp2
  go_loop [18, 3] (fun v18 v3 => ∃ j : Nat, j ≤ k ∧ v18 = .int .i64 (j : Int) ∧ v3 = .int .i64 (L0 + sumI Lc j)) (fun v18 _ => k - (intOf v18).toNat)
  case atStart => exact ⟨0, Nat.zero_le _, rfl, by simp [sumI]⟩
  case round =>
    obtain ⟨j, hj, rfl, rfl⟩ := hrel
    by_cases hlt : j < k
    · have hltI : (j : Int) < (k : Int) := by omega
      have l0 := LL.out j hlt
      have x1 := HC.out j hlt
      have zx := HZ.out j hlt
      have b1 := HB.out j hlt
      have b2 := HS.out j hj
      have hst : sumI Lc (j + 1) = sumI Lc j + Lc j := rfl
      have HST := Lib.hid hst
      clear hst
      generalize sumI Lc j = s at *
      generalize Lc j = c at *
      have e1 : IntKind.i64.wrap (L0 + s + c) = L0 + s + c := by rw [IntKind.wrap_i64]; omega
      go_wp2
      go_round
      case rel => exact ⟨j + 1, by omega, by go_num, by rw [HST.out, Int.add_assoc]⟩
      case measure => simp [intOf]; omega
    · obtain rfl : j = k := by omega
      go_wp2
      go_ret
      exact ⟨rfl, rfl⟩
end
end Go.Proofs.YtgamgphfjndiiaaGreatDoor

namespace Go.Proofs.YtgamgphfjndiiaaGreatDoor
set_option linter.unusedVariables false
set_option linter.unusedSimpArgs false
open Go.RowKit Go.Proofs

section
variable {w w' : World} {X gt tcap k : Nat} {p0 : PB} {pt : Nat → PB} {d next : Nat} {T : TabS} {U : Nat → TabS} {L0 : Int} {Lc : Nat → Int}
theorem RV.zlt (h : RV w X gt tcap k p0 pt d next T U L0 Lc) : ∀ b, ZD p0 pt k b → b < w.heap.size := fun b hb => by
  rcases hb with hb | ⟨i, hi, hb⟩
  · have := h.o.hz; omega
  · have := (h.t i hi).hz; omega
theorem RV.inc (h : RV w X gt tcap k p0 pt d next T U L0 Lc) : RV (w.setCell ⟨X, 3, none⟩ (.int .i64 ((next + 1 : Nat) : Int))) X gt tcap k p0 pt d (next + 1) T U L0 Lc := by
  have hC : Chg (fun b => b = X) w (w.setCell ⟨X, 3, none⟩ (.int .i64 ((next + 1 : Nat) : Int))) := (Chg.refl _ _).set1 _ _
  have hgX : gt ≠ X := fun e => by
    have l0 := h.v.l 0 (by have := h.v.hk; omega)
    have c2 := h.v.b.cell 0
    have c3 := h.v.b.cell 2
    subst e
    rw [c2] at l0
    have q1 := h.s0 0 (by have := h.v.hk; omega)
    have q2 := (h.t 0 (by have := h.v.hk; omega)).id
    have q3 := h.o.id
    simp at l0
    all_goals omega
  refine ⟨⟨h.v.b.set 3 _, fun i hi => (hC.cell (p := ⟨gt, i, none⟩) h.v.lt hgX).trans (h.v.l i hi), Nat.lt_of_lt_of_le h.v.lt hC.size, h.v.hk⟩, h.o.chg hC (fun b a c e => (h.x b (.inl ⟨a, c⟩)).1 e), fun i hi => (h.t i hi).chg hC (fun b a c e => (h.x b (.inr ⟨i, hi, a, c⟩)).1 e), h.s0, h.s1, h.x⟩
/-- what lies there between two entries that Step moves -/
structure RSt (wr : World) (X gt tcap k : Nat) (p0 : PB) (pt : Nat → PB) (d next : Nat) (T' : TabS) (l : List EntS) (s : (Nat → TabS) × Nat) (L0 : Int) (Lc : Nat → Int) (m : Int) (base : Nat) (vl : Value) (w : World) : Prop where
  e : ∃ Lc', RV wr X gt tcap k p0 pt d next T' s.1 L0 Lc' ∧ sumI Lc' k = sumI Lc k + s.2 ∧ ∀ i, i < k → 0 ≤ Lc' i ∧ Lc' i ≤ m
  r : wr.ownsRow base 47 3 vl l.length (entV l)
  c : Chg (fun b => ZD p0 pt k b ∨ b = X) w wr
set_option maxRecDepth 100000 in
set_option maxHeartbeats 8000000 in
theorem rstep_any (h : RV w X gt tcap k p0 pt d next T U (next : Int) Lc) (hn : next < T.n) (hLc : ∀ i, i < k → 0 ≤ Lc i ∧ Lc i ≤ 512 * (next : Int)) :
    Calls Tryz.prog 32 #[.pointer (some ⟨X, 0, none⟩)] w fun e w' => ∃ b, e = .returned (.tuple #[.bool true, .bool b]) ∧ (b = false → EvOk k d (entsL (T.M next) (T.S next)) U) ∧ (b = true → ¬ EvOk k d (entsL (T.M next) (T.S next)) U) ∧
      (b = false → ∃ Lc', RV w' X gt tcap k p0 pt d (next + 1) (T.takeT next) (evF k d (entsL (T.M next) (T.S next)) (U, 0)).1 ((next + 1 : Nat) : Int) Lc' ∧ sumI Lc' k = sumI Lc k + ((evF k d (entsL (T.M next) (T.S next)) (U, 0)).2 : Nat) ∧ ∀ i, i < k → 0 ≤ Lc' i ∧ Lc' i ≤ 512 * ((next + 1 : Nat) : Int)) ∧
      Chg (fun b => ZD p0 pt k b ∨ b = X) w w' := by
  obtain ⟨c0, c1, c2, c3, zX, fX⟩ := vmcells h.v
  obtain ⟨P, cap, d0⟩ := h.o.head
  have zD := h.o.lt
  have hb := h.o.good.bounds
  have hn64 : next < 64 := by omega
  have e0 : ((next : Int) == (T.n : Int)) = false := by simp; omega
  have HH := Lib.hid (fun e => ents_hash (e := e) (h.o.good.good next hn))
  have hl8 := entsL_len (T.M next) (T.S next)
  have hki := h.v.hk
  have TK := Lib.hid (fun (w' : World) (h : RV w' X gt tcap k p0 pt d next T U (next : Int) Lc) => h.take (by omega) hn)
  have HV := Lib.hid h
  have hXX : ¬ ZD p0 pt k X := fun e => (h.x X e).1 rfl
  have HLC := Lib.hid hLc
  have HZL := Lib.hid h.zlt
  obtain ⟨l, hll⟩ : ∃ l, l = entsL (T.M next) (T.S next) := ⟨_, rfl⟩
  rw [← hll] at TK hl8 HH ⊢
  clear h hLc hll
  go_enter Tryz.func32, Tryz.ntmps32
  go_wp2
  refine wp_region_seq (fun _ => False) #[⟨0, 0, 1024, 1, 0⟩, ⟨1, 1, 2048, 1024, 0⟩, ⟨2, 3, 4096, 2048, 0⟩, ⟨4, 7, 8192, 4096, 1⟩, ⟨0, 0, 16384, 1, 0⟩, ⟨16, 16, 32768, 16384, 0⟩, ⟨32, 48, 65536, 32768, 0⟩, ⟨64, 112, 131072, 65536, 1⟩, ⟨128, 240, 262144, 131072, 0⟩, ⟨256, 496, 524288, 262144, 0⟩, ⟨512, 1008, 1048576, 524288, 1⟩, ⟨1024, 2032, 2097152, 1048576, 0⟩, ⟨2056, 4095, 4194304, 2105344, 0⟩] 1160 [(0, 0), (1, 0), (2, 0), (3, 1), (4, 0), (5, 0), (6, 0), (7, 1), (8, 0), (9, 0), (10, 1), (11, 0), (12, 0)] (by kernel_rfl) (by kernel_rfl) (by kernel_rfl) (by kernel_rfl) (by kernel_rfl) (by kernel_rfl) (fun c a d v w h => by cases d <;> exact h) ?_
  refine seq_calc (by simp only [List.getElem?_toArray, List.getElem?_cons_succ, List.getElem?_cons_zero]; rfl) (by rfl) (fun u => by go_simp <;> with_reducible rfl) ?_
  try simp only [Act.put, List.setIfInBounds_toArray, List.set_cons_zero, List.set_cons_succ]
  refine seq_calc (by simp only [List.getElem?_toArray, List.getElem?_cons_succ, List.getElem?_cons_zero]; rfl) (by rfl) (fun u => by go_simp <;> with_reducible rfl) ?_
  try simp only [Act.put, List.setIfInBounds_toArray, List.set_cons_zero, List.set_cons_succ]
  refine seq_calc (by simp only [List.getElem?_toArray, List.getElem?_cons_succ, List.getElem?_cons_zero]; rfl) (by rfl) (fun u => by go_simp <;> with_reducible rfl) ?_
  try simp only [Act.put, List.setIfInBounds_toArray, List.set_cons_zero, List.set_cons_succ]
  refine seq_load1 (by simp only [List.getElem?_toArray, List.getElem?_cons_succ, List.getElem?_cons_zero]; rfl) (by rfl) rfl rfl Tryz.underlying3 rfl (by go_simp <;> with_reducible rfl) (by first | exact id | assumption | (simp; done) | (simp; omega)) ?_
  try simp only [Act.put, List.setIfInBounds_toArray, List.set_cons_zero, List.set_cons_succ]
  refine seq_calc (by simp only [List.getElem?_toArray, List.getElem?_cons_succ, List.getElem?_cons_zero]; rfl) (by rfl) (fun u => by go_simp <;> with_reducible rfl) ?_
  try simp only [Act.put, List.setIfInBounds_toArray, List.set_cons_zero, List.set_cons_succ]
  refine seq_calc (by simp only [List.getElem?_toArray, List.getElem?_cons_succ, List.getElem?_cons_zero]; rfl) (by rfl) (fun u => by go_simp <;> with_reducible rfl) ?_
  try simp only [Act.put, List.setIfInBounds_toArray, List.set_cons_zero, List.set_cons_succ]
  refine seq_calc (by simp only [List.getElem?_toArray, List.getElem?_cons_succ, List.getElem?_cons_zero]; rfl) (by rfl) (fun u => by go_simp <;> with_reducible rfl) ?_
  try simp only [Act.put, List.setIfInBounds_toArray, List.set_cons_zero, List.set_cons_succ]
  refine seq_load1 (by simp only [List.getElem?_toArray, List.getElem?_cons_succ, List.getElem?_cons_zero]; rfl) (by rfl) rfl rfl Tryz.underlying30 rfl (by go_simp <;> with_reducible rfl) (by first | exact id | assumption | (simp; done) | (simp; omega)) ?_
  try simp only [Act.put, List.setIfInBounds_toArray, List.set_cons_zero, List.set_cons_succ]
  refine seq_calc (by simp only [List.getElem?_toArray, List.getElem?_cons_succ, List.getElem?_cons_zero]; rfl) (by rfl) (fun u => by go_simp <;> with_reducible rfl) ?_
  try simp only [Act.put, List.setIfInBounds_toArray, List.set_cons_zero, List.set_cons_succ]
  refine seq_calc (by simp only [List.getElem?_toArray, List.getElem?_cons_succ, List.getElem?_cons_zero]; rfl) (by rfl) (fun u => by go_simp <;> with_reducible rfl) ?_
  try simp only [Act.put, List.setIfInBounds_toArray, List.set_cons_zero, List.set_cons_succ]
  refine seq_load1 (by simp only [List.getElem?_toArray, List.getElem?_cons_succ, List.getElem?_cons_zero]; rfl) (by rfl) rfl rfl Tryz.underlying53 rfl (by go_simp <;> with_reducible rfl) (by first | exact id | assumption | (simp; done) | (simp; omega)) ?_
  try simp only [Act.put, List.setIfInBounds_toArray, List.set_cons_zero, List.set_cons_succ]
  refine seq_calc (by simp only [List.getElem?_toArray, List.getElem?_cons_succ, List.getElem?_cons_zero]; rfl) (by rfl) (fun u => by go_simp <;> with_reducible rfl) ?_
  try simp only [Act.put, List.setIfInBounds_toArray, List.set_cons_zero, List.set_cons_succ]
  refine seq_calc (by simp only [List.getElem?_toArray, List.getElem?_cons_succ, List.getElem?_cons_zero]; rfl) (by rfl) (fun u => by go_simp <;> with_reducible rfl) ?_
  try simp only [Act.put, List.setIfInBounds_toArray, List.set_cons_zero, List.set_cons_succ]
  refine seq_nil ?_
  go_wp2
  refine wp_region_seq (ZD p0 pt k) #[⟨0, 0, 16777216, 1, 0⟩, ⟨1, 1, 33554432, 16777216, 0⟩, ⟨2, 3, 67108864, 33554432, 0⟩, ⟨4, 7, 134217728, 67108864, 1⟩, ⟨0, 0, 268435456, 1, 0⟩, ⟨16, 16, 536870912, 268435456, 0⟩, ⟨32, 48, 1073741824, 536870912, 0⟩, ⟨64, 112, 2147483648, 1073741824, 1⟩, ⟨136, 255, 4294967296, 2281701376, 3⟩, ⟨256, 511, 8388608, 4294967296, 0⟩, ⟨512, 1023, 8589934592, 8388608, 0⟩, ⟨512, 1023, 17179869184, 8388608, 0⟩, ⟨2047, 2047, 16, 8589934592, 0⟩, ⟨8191, 8191, 32, 17179869184, 0⟩] 136 [(0, 0), (1, 0), (2, 0), (3, 1), (4, 0), (5, 0), (6, 0), (7, 1), (8, 3), (9, 0), (10, 0), (11, 0), (12, 0), (13, 0)] (by kernel_rfl) (by kernel_rfl) (by kernel_rfl) (by kernel_rfl) (by kernel_rfl) (by kernel_rfl) (fun c a d v w h => by cases d <;> exact h) ?_
  refine seq_calc (by simp only [List.getElem?_toArray, List.getElem?_cons_succ, List.getElem?_cons_zero]; rfl) (by rfl) (fun u => by go_simp <;> with_reducible rfl) ?_
  try simp only [Act.put, List.setIfInBounds_toArray, List.set_cons_zero, List.set_cons_succ]
  refine seq_calc (by simp only [List.getElem?_toArray, List.getElem?_cons_succ, List.getElem?_cons_zero]; rfl) (by rfl) (fun u => by go_simp <;> with_reducible rfl) ?_
  try simp only [Act.put, List.setIfInBounds_toArray, List.set_cons_zero, List.set_cons_succ]
  refine seq_calc (by simp only [List.getElem?_toArray, List.getElem?_cons_succ, List.getElem?_cons_zero]; rfl) (by rfl) (fun u => by go_simp <;> with_reducible rfl) ?_
  try simp only [Act.put, List.setIfInBounds_toArray, List.set_cons_zero, List.set_cons_succ]
  refine seq_load1 (by simp only [List.getElem?_toArray, List.getElem?_cons_succ, List.getElem?_cons_zero]; rfl) (by rfl) rfl rfl Tryz.underlying30 rfl (by go_simp <;> with_reducible rfl) (by first | exact id | assumption | (simp; done) | (simp; omega)) ?_
  try simp only [Act.put, List.setIfInBounds_toArray, List.set_cons_zero, List.set_cons_succ]
  refine seq_calc (by simp only [List.getElem?_toArray, List.getElem?_cons_succ, List.getElem?_cons_zero]; rfl) (by rfl) (fun u => by go_simp <;> with_reducible rfl) ?_
  try simp only [Act.put, List.setIfInBounds_toArray, List.set_cons_zero, List.set_cons_succ]
  refine seq_calc (by simp only [List.getElem?_toArray, List.getElem?_cons_succ, List.getElem?_cons_zero]; rfl) (by rfl) (fun u => by go_simp <;> with_reducible rfl) ?_
  try simp only [Act.put, List.setIfInBounds_toArray, List.set_cons_zero, List.set_cons_succ]
  refine seq_calc (by simp only [List.getElem?_toArray, List.getElem?_cons_succ, List.getElem?_cons_zero]; rfl) (by rfl) (fun u => by go_simp <;> with_reducible rfl) ?_
  try simp only [Act.put, List.setIfInBounds_toArray, List.set_cons_zero, List.set_cons_succ]
  refine seq_load1 (by simp only [List.getElem?_toArray, List.getElem?_cons_succ, List.getElem?_cons_zero]; rfl) (by rfl) rfl rfl Tryz.underlying3 rfl (by go_simp <;> with_reducible rfl) (by first | exact id | assumption | (simp; done) | (simp; omega)) ?_
  try simp only [Act.put, List.setIfInBounds_toArray, List.set_cons_zero, List.set_cons_succ]
  refine seq_last (by simp only [List.getElem?_toArray, List.getElem?_cons_succ, List.getElem?_cons_zero]; rfl) (by rfl) (fun K hK => ?_); go_wp2_with (go_at_call 61; (with_reducible refine (TK.out _ HV.out.drew.drew).mono ?_); rintro e w1 ⟨vl, rfl, hr1, hv1, hc1⟩; obtain ⟨av, capv, rfl⟩ := ownsRow_slice hr1; have V1 := Lib.hid hv1; have R1 := Lib.hid hr1; have C1 := Lib.hid (show Chg (fun b => ZD p0 pt k b ∨ b = X) w w1 from ((Chg.refl _ w).drew.drew).trans (hc1.mono (fun _ _ e => .inl e))); obtain ⟨d0, d1, d2, d3, zX1, df⟩ := vmcells V1.out.v; clear hv1 hr1 hc1); refine hK.out _ _ ?_; clear hK K
  try simp only [Act.put, List.setIfInBounds_toArray, List.set_cons_zero, List.set_cons_succ]
  refine seq_calc (by simp only [List.getElem?_toArray, List.getElem?_cons_succ, List.getElem?_cons_zero]; rfl) (by rfl) (fun u => by go_simp <;> with_reducible rfl) ?_
  try simp only [Act.put, List.setIfInBounds_toArray, List.set_cons_zero, List.set_cons_succ]
  refine seq_calc (by simp only [List.getElem?_toArray, List.getElem?_cons_succ, List.getElem?_cons_zero]; rfl) (by rfl) (fun u => by go_simp <;> with_reducible rfl) ?_
  try simp only [Act.put, List.setIfInBounds_toArray, List.set_cons_zero, List.set_cons_succ]
  refine seq_calc (by simp only [List.getElem?_toArray, List.getElem?_cons_succ, List.getElem?_cons_zero]; rfl) (by rfl) (fun u => by go_simp <;> with_reducible rfl) ?_
  try simp only [Act.put, List.setIfInBounds_toArray, List.set_cons_zero, List.set_cons_succ]
  refine seq_calc (by simp only [List.getElem?_toArray, List.getElem?_cons_succ, List.getElem?_cons_zero]; rfl) (by rfl) (fun u => by go_simp <;> with_reducible rfl) ?_
  try simp only [Act.put, List.setIfInBounds_toArray, List.set_cons_zero, List.set_cons_succ]
  refine seq_calc (by simp only [List.getElem?_toArray, List.getElem?_cons_succ, List.getElem?_cons_zero]; rfl) (by rfl) (fun u => by go_simp <;> with_reducible rfl) ?_
  try simp only [Act.put, List.setIfInBounds_toArray, List.set_cons_zero, List.set_cons_succ]
  refine seq_nil ?_
  have e1 : IntKind.i64.wrap ((next : Int) + 1) = ((next + 1 : Nat) : Int) := by rw [IntKind.wrap_i64]; omega
  go_wp2
  refine wp_at (fun wL hwL => ?_)
  have D0 := Lib.hid (show RSt wL X gt tcap k p0 pt d (next + 1) (T.takeT next) l (evF k d (l.take 0) (U, 0)) ((next + 1 : Nat) : Int) Lc (512 * (next : Int) + 64 * ((0 : Nat) : Int)) w.heap.size (.slice av l.length capv) w by
    rw [hwL]
    refine ⟨⟨Lc, V1.out.inc, by simp [evF], fun i hi => by have := HLC.out i hi; omega⟩, ?_, C1.out.trans (((Chg.refl (fun b => b = X) _).set1 _ _).mono (fun _ _ e => .inr e))⟩
    exact ownsRow_chg (X := fun b => b = X) R1.out ((Chg.refl _ _).set1 _ _) (fun b hb e => by subst e; exact absurd (show w.heap.size ≤ b from hb) (by omega)))
  have C0 := Lib.hid (show Chg (fun b => ZD p0 pt k b ∨ b = X) w wL from D0.out.c)
  replace hwL := Lib.hid hwL
  clear C0 V1 R1 C1 d0 d1 d2 d3 zX1 df c0 c1 c2 c3 fX TK HV
  go_loopw [44] (fun v44 wr => ∃ j : Nat, j ≤ l.length ∧ v44 = .int .i64 (j : Int) ∧ RSt wr X gt tcap k p0 pt d (next + 1) (T.takeT next) l (evF k d (l.take j) (U, 0)) ((next + 1 : Nat) : Int) Lc (512 * (next : Int) + 64 * (j : Int)) w.heap.size (.slice av l.length capv) w ∧
    (∀ i (hi : i < l.length), i < j → ((evF k d (l.take i) (U, 0)).1 (tIx k d l[i].hash.toNat)).putB l[i].key l[i].hash.toNat = true)) (fun v44 _ => l.length - (intOf v44).toNat)
  case atStart => exact ⟨0, Nat.zero_le _, rfl, D0.out, fun i _ hi => by omega⟩
  case round =>
    clear D0
    obtain ⟨j, hj, rfl, hS, hA⟩ := hrel
    have KS := Lib.hid hS
    have HOK := Lib.hid hA
    clear hS hA
    by_cases hlt : j < l.length
    · have hltI : (j : Int) < (l.length : Int) := by omega
      have HT := Lib.hid (evF_take (k := k) (d := d) hlt (U, 0))
      obtain ⟨av', capv', e, -, hrow⟩ := ents_own KS.out.r
      cases e
      obtain ⟨b, rfl, hbb, hbz, hcl⟩ := hrow (fun e => by rw [e] at hlt; exact absurd hlt (by simp))
      obtain ⟨g0, g1, g2⟩ := hcl j hlt
      obtain ⟨hh1, hh2⟩ := HH.out l[j] (List.getElem_mem hlt)
      unfold evS at HT
      obtain ⟨s, hs⟩ : ∃ s, s = evF k d (l.take j) (U, 0) := ⟨_, rfl⟩
      have HSE := Lib.hid hs
      rw [← hs] at HT KS
      rw [hh1] at g2
      generalize hq1 : l[j].hash.toNat = hs' at HT g2 hh2
      generalize hq2 : l[j].key = ky at HT g0
      replace hq1 := Lib.hid hq1
      replace hq2 := Lib.hid hq2
      generalize l[j].val = vv at *
      have hi := tIx_lt (h := hs') hki
      obtain ⟨Lc', hv, hsum, hbd⟩ := KS.out.e
      have HVr := Lib.hid hv
      have TG := Lib.hid (fun (w' : World) (h : VM w' X p0.D gt tcap k (fun i => (pt i).D) d (next + 1)) => rtarget_any X p0.D gt tcap k (fun i => (pt i).D) d (next + 1) hs' hh2 w' h)
      generalize hq3 : tIx k d hs' = i at *
      replace hq3 := Lib.hid hq3
      have hbi := hbd i hi
      have hlk := looks_le_n (hv.t i hi).good ky hs'
      have hnb := (hv.t i hi).good.bounds
      have PU := Lib.hid (fun (w' : World) (h : RV w' X gt tcap k p0 pt d (next + 1) (T.takeT next) s.1 ((next + 1 : Nat) : Int) Lc') => h.put hi (by omega) ky vv hs' hh2)
      have HSUM := Lib.hid hsum
      have HBD := Lib.hid hbd
      have hwz : w.heap.size ≤ wr.heap.size := KS.out.c.size
      have hNX : ¬ ZD p0 pt k wr.heap.size := fun e => by have := HZL.out _ e; omega
      have hXw := hv.v.b.lt
      clear hcl hrow hh1 hs hv hsum hbd
      go_upto_region 8 with (fail)
      refine wp_at (fun w5 hw5 => ?_)
      have hB5 : Below wr.heap.size wr w5 := by rw [hw5]; go_grown
      have S5 := Lib.hid (HVr.out.later hB5)
      have R5 := Lib.hid (ownsRow_later KS.out.r hB5)
      have C5 := Lib.hid (KS.out.c.thenBelow hB5)
      have P5 := Lib.hid (show Blk w5 wr.heap.size 47 #[.int .u64 ky, .int .u64 vv, .int .u64 (hs' : Int)] by rw [hw5]; exact Blk.new _ _ _)
      obtain ⟨q0, q1, q2⟩ := cells3 P5.out
      have zP := P5.out.lt
      have zX5 := S5.out.v.b.lt
      replace hw5 := Lib.hid hw5
      clear KS g0 g1 g2 hbz hB5
      by_cases hpb : (s.1 i).putB ky hs' = true
      · rw [hpb, putN_new hpb] at PU
        have HPB := Lib.hid hpb
        clear hpb
        refine wp_region_seq (ZD p0 pt k) #[⟨0, 0, 562949953421312, 1, 0⟩, ⟨0, 0, 1125899906842624, 128, 0⟩, ⟨2, 2, 2251799813685248, 1125899906842624, 1⟩, ⟨5, 7, 4503599627370496, 2814749767106560, 2⟩, ⟨0, 0, 9007199254740992, 128, 1⟩, ⟨24, 31, 18014398509481984, 13510798882111488, 3⟩, ⟨32, 63, 281474976710656, 18014398509481984, 0⟩, ⟨64, 127, 36028797018963968, 281474976710656, 0⟩, ⟨64, 127, 72057594037927936, 281474976710656, 0⟩, ⟨255, 255, 256, 36028797018963968, 0⟩, ⟨1023, 1023, 512, 72057594037927936, 0⟩] 20 [(0, 0), (1, 0), (2, 1), (4, 1), (3, 2), (5, 3), (6, 0), (7, 0), (8, 0), (9, 0), (10, 0)] (by kernel_rfl) (by kernel_rfl) (by kernel_rfl) (by kernel_rfl) (by kernel_rfl) (by kernel_rfl) (fun c a d v w h => by cases d <;> exact h) ?_
        refine seq_calc (by simp only [List.getElem?_toArray, List.getElem?_cons_succ, List.getElem?_cons_zero]; rfl) (by rfl) (fun u => by go_simp <;> with_reducible rfl) ?_
        try simp only [Act.put, List.setIfInBounds_toArray, List.set_cons_zero, List.set_cons_succ]
        refine seq_calc (by simp only [List.getElem?_toArray, List.getElem?_cons_succ, List.getElem?_cons_zero]; rfl) (by rfl) (fun u => by go_simp <;> with_reducible rfl) ?_
        try simp only [Act.put, List.setIfInBounds_toArray, List.set_cons_zero, List.set_cons_succ]
        refine seq_load1 (by simp only [List.getElem?_toArray, List.getElem?_cons_succ, List.getElem?_cons_zero]; rfl) (by rfl) rfl rfl Tryz.underlying45 rfl (by go_simp <;> with_reducible rfl) (by first | exact id | assumption | (simp; done) | (simp; omega)) ?_
        try simp only [Act.put, List.setIfInBounds_toArray, List.set_cons_zero, List.set_cons_succ]
        refine seq_loads [_, _, _] (by simp only [List.getElem?_toArray, List.getElem?_cons_succ, List.getElem?_cons_zero]; rfl) (by rfl) rfl rfl Tryz.underlying47 rfl (by kernel_rfl) (by first | (with_reducible assumption) | (refine cellsAre_range ?_; simp only [cellsAre]; (repeat' (first | exact True.intro | apply And.intro)); all_goals (go_simp <;> with_reducible rfl))) (by first | exact id | assumption | (simp; done) | (simp; omega)) ?_
        try simp only [Act.put, List.setIfInBounds_toArray, List.set_cons_zero, List.set_cons_succ]
        refine seq_do (by simp only [List.getElem?_toArray, List.getElem?_cons_succ, List.getElem?_cons_zero]; rfl) (by rfl) (fun K hK => ?_); go_wp2_with (first | (go_at_call 74; (with_reducible refine (TG.out _ S5.out.drew.v).mono ?_); rintro e w6 ⟨rfl, hb6⟩; have S6 := Lib.hid (S5.out.drew.later hb6)) | (go_at_call 56; (with_reducible refine (PU.out _ S6.out).mono ?_); rintro e w8 ⟨rfl, hv8, hc8⟩; have V8 := Lib.hid hv8; have R8 := Lib.hid (ownsRow_chg (ownsRow_later (show w5.drew.ownsRow _ _ _ _ _ _ from R5.out) hb6) hc8 (fun b' hb' e => by have := HZL.out _ e; omega)); have C8 := Lib.hid ((C5.out.drew.thenBelow hb6).trans (hc8.mono (fun _ _ e => show ZD p0 pt k _ ∨ _ = X from .inl e))); clear hv8)); refine hK.out _ _ (by first | (with_reducible exact Chg.refl _ _) | (with_reducible assumption) | (refine Chg.of_below ?_; with_reducible assumption) | (with_reducible exact (Chg.refl _ _).alloc _) | (with_reducible exact (Chg.refl _ _).drewN _) | (with_reducible exact (Chg.refl _ _).drew) | exact ⟨rfl, rfl, rfl, Nat.le_refl _, fun _ _ _ => rfl⟩ | exact (Chg.refl _ _).setCell (.inl (.inl rfl)) _ | exact (Chg.refl _ _).setCell (.inl (.inr rfl)) _ | exact ((Chg.refl _ _).setCell (.inl (.inl rfl)) _).setCell (.inl (.inl rfl)) _ | exact ((Chg.refl _ _).setCell (.inl (.inr rfl)) _).setCell (.inl (.inr rfl)) _ | exact Chg.drew (Chg.setCell ⟨rfl, rfl, rfl, Nat.le_refl _, fun _ _ _ => rfl⟩ (.inl (.inl rfl)) _) | exact Chg.drew (Chg.setCell ⟨rfl, rfl, rfl, Nat.le_refl _, fun _ _ _ => rfl⟩ (.inl (.inr rfl)) _)) ?_; clear hK K
        try simp only [Act.put, List.setIfInBounds_toArray, List.set_cons_zero, List.set_cons_succ]
        refine seq_last (by simp only [List.getElem?_toArray, List.getElem?_cons_succ, List.getElem?_cons_zero]; rfl) (by rfl) (fun K hK => ?_); go_wp2_with (first | (go_at_call 74; (with_reducible refine (TG.out _ S5.out.drew.v).mono ?_); rintro e w6 ⟨rfl, hb6⟩; have S6 := Lib.hid (S5.out.drew.later hb6)) | (go_at_call 56; (with_reducible refine (PU.out _ S6.out).mono ?_); rintro e w8 ⟨rfl, hv8, hc8⟩; have V8 := Lib.hid hv8; have R8 := Lib.hid (ownsRow_chg (ownsRow_later (show w5.drew.ownsRow _ _ _ _ _ _ from R5.out) hb6) hc8 (fun b' hb' e => by have := HZL.out _ e; omega)); have C8 := Lib.hid ((C5.out.drew.thenBelow hb6).trans (hc8.mono (fun _ _ e => show ZD p0 pt k _ ∨ _ = X from .inl e))); clear hv8)); refine hK.out _ _ ?_; clear hK K
        try simp only [Act.put, List.setIfInBounds_toArray, List.set_cons_zero, List.set_cons_succ]
        refine seq_calc (by simp only [List.getElem?_toArray, List.getElem?_cons_succ, List.getElem?_cons_zero]; rfl) (by rfl) (fun u => by go_simp <;> with_reducible rfl) ?_
        try simp only [Act.put, List.setIfInBounds_toArray, List.set_cons_zero, List.set_cons_succ]
        refine seq_calc (by simp only [List.getElem?_toArray, List.getElem?_cons_succ, List.getElem?_cons_zero]; rfl) (by rfl) (fun u => by go_simp <;> with_reducible rfl) ?_
        try simp only [Act.put, List.setIfInBounds_toArray, List.set_cons_zero, List.set_cons_succ]
        refine seq_calc (by simp only [List.getElem?_toArray, List.getElem?_cons_succ, List.getElem?_cons_zero]; rfl) (by rfl) (fun u => by go_simp <;> with_reducible rfl) ?_
        try simp only [Act.put, List.setIfInBounds_toArray, List.set_cons_zero, List.set_cons_succ]
        refine seq_calc (by simp only [List.getElem?_toArray, List.getElem?_cons_succ, List.getElem?_cons_zero]; rfl) (by rfl) (fun u => by go_simp <;> with_reducible rfl) ?_
        try simp only [Act.put, List.setIfInBounds_toArray, List.set_cons_zero, List.set_cons_succ]
        refine seq_calc (by simp only [List.getElem?_toArray, List.getElem?_cons_succ, List.getElem?_cons_zero]; rfl) (by rfl) (fun u => by go_simp <;> with_reducible rfl) ?_
        try simp only [Act.put, List.setIfInBounds_toArray, List.set_cons_zero, List.set_cons_succ]
        refine seq_nil ?_
        go_wp2
        go_roundw
        case rel =>
          refine ⟨j + 1, by omega, by go_num, ?_, fun i' hi' hlt' => ?_⟩
          · rw [HT.out]
            refine ⟨⟨_, V8.out, ?_, ?_⟩, R8.out, C8.out⟩
            · rw [sumI_upd hi, HSUM.out]; simp only [Int.natCast_add]; omega
            · intro q hq
              by_cases e : q = i
              · subst e; rw [upd_same]; have := HBD.out q hq; omega
              · rw [upd_other _ _ e]; have := HBD.out q hq; omega
          · by_cases e : i' = j
            · subst e; rw [hq1.out, hq2.out, hq3.out, ← HSE.out]; exact HPB.out
            · exact HOK.out i' hi' (by omega)
        case measure => simp [intOf]; omega
      · replace hpb : (s.1 i).putB ky hs' = false := by simpa using hpb
        rw [hpb] at PU
        have HPB := Lib.hid hpb
        generalize (s.1 i).putN ky hs' = pn at *
        clear hpb
        refine wp_region_seq (ZD p0 pt k) #[⟨0, 0, 562949953421312, 1, 0⟩, ⟨0, 0, 1125899906842624, 128, 0⟩, ⟨2, 2, 2251799813685248, 1125899906842624, 1⟩, ⟨5, 7, 4503599627370496, 2814749767106560, 2⟩, ⟨0, 0, 9007199254740992, 128, 1⟩, ⟨24, 31, 18014398509481984, 13510798882111488, 3⟩, ⟨32, 63, 281474976710656, 18014398509481984, 0⟩, ⟨64, 127, 36028797018963968, 281474976710656, 0⟩, ⟨64, 127, 72057594037927936, 281474976710656, 0⟩, ⟨255, 255, 256, 36028797018963968, 0⟩, ⟨1023, 1023, 512, 72057594037927936, 0⟩] 20 [(0, 0), (1, 0), (2, 1), (4, 1), (3, 2), (5, 3), (6, 0), (7, 0), (8, 0), (9, 0), (10, 0)] (by kernel_rfl) (by kernel_rfl) (by kernel_rfl) (by kernel_rfl) (by kernel_rfl) (by kernel_rfl) (fun c a d v w h => by cases d <;> exact h) ?_
        refine seq_calc (by simp only [List.getElem?_toArray, List.getElem?_cons_succ, List.getElem?_cons_zero]; rfl) (by rfl) (fun u => by go_simp <;> with_reducible rfl) ?_
        try simp only [Act.put, List.setIfInBounds_toArray, List.set_cons_zero, List.set_cons_succ]
        refine seq_calc (by simp only [List.getElem?_toArray, List.getElem?_cons_succ, List.getElem?_cons_zero]; rfl) (by rfl) (fun u => by go_simp <;> with_reducible rfl) ?_
        try simp only [Act.put, List.setIfInBounds_toArray, List.set_cons_zero, List.set_cons_succ]
        refine seq_load1 (by simp only [List.getElem?_toArray, List.getElem?_cons_succ, List.getElem?_cons_zero]; rfl) (by rfl) rfl rfl Tryz.underlying45 rfl (by go_simp <;> with_reducible rfl) (by first | exact id | assumption | (simp; done) | (simp; omega)) ?_
        try simp only [Act.put, List.setIfInBounds_toArray, List.set_cons_zero, List.set_cons_succ]
        refine seq_loads [_, _, _] (by simp only [List.getElem?_toArray, List.getElem?_cons_succ, List.getElem?_cons_zero]; rfl) (by rfl) rfl rfl Tryz.underlying47 rfl (by kernel_rfl) (by first | (with_reducible assumption) | (refine cellsAre_range ?_; simp only [cellsAre]; (repeat' (first | exact True.intro | apply And.intro)); all_goals (go_simp <;> with_reducible rfl))) (by first | exact id | assumption | (simp; done) | (simp; omega)) ?_
        try simp only [Act.put, List.setIfInBounds_toArray, List.set_cons_zero, List.set_cons_succ]
        refine seq_do (by simp only [List.getElem?_toArray, List.getElem?_cons_succ, List.getElem?_cons_zero]; rfl) (by rfl) (fun K hK => ?_); go_wp2_with (first | (go_at_call 74; (with_reducible refine (TG.out _ S5.out.drew.v).mono ?_); rintro e w6 ⟨rfl, hb6⟩; have S6 := Lib.hid (S5.out.drew.later hb6)) | (go_at_call 56; (with_reducible refine (PU.out _ S6.out).mono ?_); rintro e w8 ⟨rfl, hv8, hc8⟩; have C8 := Lib.hid ((C5.out.drew.thenBelow hb6).trans (hc8.mono (fun _ _ e => show ZD p0 pt k _ ∨ _ = X from .inl e))); clear hv8)); refine hK.out _ _ (by first | (with_reducible exact Chg.refl _ _) | (with_reducible assumption) | (refine Chg.of_below ?_; with_reducible assumption) | (with_reducible exact (Chg.refl _ _).alloc _) | (with_reducible exact (Chg.refl _ _).drewN _) | (with_reducible exact (Chg.refl _ _).drew) | exact ⟨rfl, rfl, rfl, Nat.le_refl _, fun _ _ _ => rfl⟩ | exact (Chg.refl _ _).setCell (.inl (.inl rfl)) _ | exact (Chg.refl _ _).setCell (.inl (.inr rfl)) _ | exact ((Chg.refl _ _).setCell (.inl (.inl rfl)) _).setCell (.inl (.inl rfl)) _ | exact ((Chg.refl _ _).setCell (.inl (.inr rfl)) _).setCell (.inl (.inr rfl)) _ | exact Chg.drew (Chg.setCell ⟨rfl, rfl, rfl, Nat.le_refl _, fun _ _ _ => rfl⟩ (.inl (.inl rfl)) _) | exact Chg.drew (Chg.setCell ⟨rfl, rfl, rfl, Nat.le_refl _, fun _ _ _ => rfl⟩ (.inl (.inr rfl)) _)) ?_; clear hK K
        try simp only [Act.put, List.setIfInBounds_toArray, List.set_cons_zero, List.set_cons_succ]
        refine seq_last (by simp only [List.getElem?_toArray, List.getElem?_cons_succ, List.getElem?_cons_zero]; rfl) (by rfl) (fun K hK => ?_); go_wp2_with (first | (go_at_call 74; (with_reducible refine (TG.out _ S5.out.drew.v).mono ?_); rintro e w6 ⟨rfl, hb6⟩; have S6 := Lib.hid (S5.out.drew.later hb6)) | (go_at_call 56; (with_reducible refine (PU.out _ S6.out).mono ?_); rintro e w8 ⟨rfl, hv8, hc8⟩; have C8 := Lib.hid ((C5.out.drew.thenBelow hb6).trans (hc8.mono (fun _ _ e => show ZD p0 pt k _ ∨ _ = X from .inl e))); clear hv8)); refine hK.out _ _ ?_; clear hK K
        try simp only [Act.put, List.setIfInBounds_toArray, List.set_cons_zero, List.set_cons_succ]
        refine seq_calc (by simp only [List.getElem?_toArray, List.getElem?_cons_succ, List.getElem?_cons_zero]; rfl) (by rfl) (fun u => by go_simp <;> with_reducible rfl) ?_
        try simp only [Act.put, List.setIfInBounds_toArray, List.set_cons_zero, List.set_cons_succ]
        refine seq_calc (by simp only [List.getElem?_toArray, List.getElem?_cons_succ, List.getElem?_cons_zero]; rfl) (by rfl) (fun u => by go_simp <;> with_reducible rfl) ?_
        try simp only [Act.put, List.setIfInBounds_toArray, List.set_cons_zero, List.set_cons_succ]
        refine seq_calc (by simp only [List.getElem?_toArray, List.getElem?_cons_succ, List.getElem?_cons_zero]; rfl) (by rfl) (fun u => by go_simp <;> with_reducible rfl) ?_
        try simp only [Act.put, List.setIfInBounds_toArray, List.set_cons_zero, List.set_cons_succ]
        refine seq_calc (by simp only [List.getElem?_toArray, List.getElem?_cons_succ, List.getElem?_cons_zero]; rfl) (by rfl) (fun u => by go_simp <;> with_reducible rfl) ?_
        try simp only [Act.put, List.setIfInBounds_toArray, List.set_cons_zero, List.set_cons_succ]
        refine seq_calc (by simp only [List.getElem?_toArray, List.getElem?_cons_succ, List.getElem?_cons_zero]; rfl) (by rfl) (fun u => by go_simp <;> with_reducible rfl) ?_
        try simp only [Act.put, List.setIfInBounds_toArray, List.set_cons_zero, List.set_cons_succ]
        refine seq_nil ?_
        go_wp2
        go_ret2
        exact ⟨true, rfl, fun e => (by cases e), fun _ h => (by have := h j hlt; rw [hq1.out, hq2.out, hq3.out, ← HSE.out, HPB.out] at this; cases this), fun e => (by cases e), C8.out⟩
    · obtain rfl : j = l.length := by omega
      rw [List.take_length] at KS
      go_wp2
      go_ret2
      obtain ⟨Lc', hv, hsum, hbd⟩ := KS.out.e
      exact ⟨false, rfl, fun _ i hi => HOK.out i hi hi, fun e => (by cases e), fun _ => ⟨Lc', hv, hsum, fun i hi => by have := hbd i hi; omega⟩, KS.out.c⟩
end
end Go.Proofs.YtgamgphfjndiiaaGreatDoor

namespace Go.Proofs.YtgamgphfjndiiaaGreatDoor
set_option linter.unusedVariables false
set_option linter.unusedSimpArgs false
open Go.RowKit Go.Proofs

theorem esteps_ent : Enters 30 := fun args w => enters_of Tryz.func30 (by kernel_rfl) rfl args w
set_option maxRecDepth 100000 in
/-- the closure, where Step comes back -/
theorem esteps_clos (V M B3 B6 B8 : Nat) (b x : Bool) (P : World → Prop) (w : World) (h3 : Blk w B3 63 #[.pointer (some ⟨V, 0, none⟩)]) (h6 : Blk w B6 34 #[.pointer (some ⟨M, 0, none⟩)])
    (hS : Calls Tryz.prog 31 #[.pointer (some ⟨V, 0, none⟩), .pointer (some ⟨M, 0, none⟩)] w fun e w' => e = .returned (.bool b) ∧ P w') (h8 : ∀ w', P w' → Blk w' B8 4 #[.bool x]) :
    Calls Tryz.prog 30 #[.pointer (some ⟨B3, 0, none⟩), .pointer (some ⟨B6, 0, none⟩), .pointer (some ⟨B8, 0, none⟩)] w fun e w' => e = .returned (.tuple #[]) ∧ ∃ w2, P w2 ∧ w2.setCell ⟨B8, 0, none⟩ (.bool b) = w' := by
  have c3 := h3.cell 0
  have c6 := h6.cell 0
  have z3 := h3.lt
  have z6 := h6.lt
  have HS := Lib.hid hS
  have H8 := Lib.hid h8
  clear h3 h6 hS h8
  go_enter Tryz.func30, Tryz.ntmps30
  go_wp2_with (go_at_call 31; (with_reducible refine HS.out.mono ?_); rintro e w2 ⟨rfl, hp2⟩; have hb2 := H8.out _ hp2; have d0 := hb2.cell 0; have f0 := hb2.frozen 0; have z8 := hb2.lt; have P2 := Lib.hid hp2; clear hp2 hb2)
  ((try simp only [Exit.inBlock, Exit.then]); first | refine bodyPost_end (results_none rfl _ _ _) rfl ?_ | refine bodyPost_ret (results_none rfl _ _ _) rfl ?_)
  exact ⟨rfl, w2, P2.out, rfl⟩
set_option maxRecDepth 100000 in
/-- .. where it breaks -/
theorem esteps_clos_bad (V M B3 B6 B8 : Nat) (E : Nat → Addr) (P : World → Prop) (w : World) (h3 : Blk w B3 63 #[.pointer (some ⟨V, 0, none⟩)]) (h6 : Blk w B6 34 #[.pointer (some ⟨M, 0, none⟩)])
    (hS : Calls Tryz.prog 31 #[.pointer (some ⟨V, 0, none⟩), .pointer (some ⟨M, 0, none⟩)] w fun e w' => e = .panicked [{ v := raisedV (errAt E 10), recovered := false }] ∧ P w') :
    Calls Tryz.prog 30 #[.pointer (some ⟨B3, 0, none⟩), .pointer (some ⟨B6, 0, none⟩), .pointer (some ⟨B8, 0, none⟩)] w fun e w' => e = .panicked [{ v := raisedV (errAt E 10), recovered := false }] ∧ P w' := by
  have c3 := h3.cell 0
  have c6 := h6.cell 0
  have z3 := h3.lt
  have z6 := h6.lt
  have HS := Lib.hid hS
  clear h3 h6 hS
  go_enter Tryz.func30, Tryz.ntmps30
  go_wp2_with (go_at_call 31; (with_reducible refine HS.out.mono ?_); rintro e w2 ⟨rfl, hp2⟩; have P2 := Lib.hid hp2; clear hp2)
  exact ⟨rfl, rfl, P2.out⟩
/-- the blocks that a Step turns -/
def XEV (M O Q V k : Nat) (TB R : Nat → Nat) (b : Nat) : Prop := b = M ∨ b = O ∨ b = Q ∨ b = V ∨ ∃ i, i < k ∧ (b = TB i ∨ b = R i)
section
variable {w w' w0 : World} {V O Q G cap k : Nat} {TB R : Nat → Nat} {d next : Nat} {T : TabS} {U : Nat → TabS} {M : Nat} {mt : MeterS} {E : Nat → Addr}
theorem EV.lts (h : EV w V O Q G cap k TB R d next T U M mt E w0) : (∀ b, XEV M O Q V k TB R b → b < w.heap.size) ∧ G < w.heap.size := by
  refine ⟨fun b hb => ?_, h.e.lt⟩
  rcases hb with e | e | e | e | ⟨i, hi, e | e⟩
  · rw [e]; exact h.m.lt
  · rw [e]; exact h.t.ltB
  · rw [e]; exact h.t.ltQ
  · rw [e]; exact h.e.b.lt
  · rw [e]; exact (h.u i hi).ltB
  · rw [e]; exact (h.u i hi).ltQ
theorem EV.ge (h : EV w V O Q G cap k TB R d next T U M mt E w0) : ∀ b, XEV M O Q V k TB R b → w0.heap.size ≤ b := fun b hb => by
  have ho := h.s.o
  rcases hb with e | e | e | e | ⟨i, hi, e | e⟩
  · omega
  · omega
  · omega
  · omega
  · have := (h.u i hi).hB; omega
  · have := (h.u i hi).hQ; omega
/-- other blocks change -/
theorem EV.chgX {X : Nat → Prop} (h : EV w V O Q G cap k TB R d next T U M mt E w0) (hc : Chg X w w') (hX : ∀ b, X b → w0.heap.size ≤ b) (h1 : ∀ b, XEV M O Q V k TB R b → ¬ X b) (hG : ¬ X G) : EV w' V O Q G cap k TB R d next T U M mt E w0 :=
  h.chg hc hX ⟨h1 V (.inr (.inr (.inr (.inl rfl)))), h1 O (.inr (.inl rfl)), h1 Q (.inr (.inr (.inl rfl))), hG, h1 M (.inl rfl)⟩ (fun i hi => ⟨h1 _ (.inr (.inr (.inr (.inr ⟨i, hi, .inl rfl⟩)))), h1 _ (.inr (.inr (.inr (.inr ⟨i, hi, .inr rfl⟩))))⟩)
variable {nx' : Nat} {T' : TabS} {U' : Nat → TabS} {mt' : MeterS} {b : Bool}
/-- Catch of the closure, where Step comes back -/
theorem ecatch_ok {B3 B6 B8 : Nat} (h : EV w V O Q G cap k TB R d next T U M mt E w0) (h3 : Blk w B3 63 #[.pointer (some ⟨V, 0, none⟩)]) (h6 : Blk w B6 34 #[.pointer (some ⟨M, 0, none⟩)]) (h8 : Blk w B8 4 #[.bool false])
    (hn : ∀ b, XEV M O Q V k TB R b → b ≠ B3 ∧ b ≠ B6 ∧ b ≠ B8) (hG : G ≠ B8) (hz : w0.heap.size ≤ w.heap.size) (hB8 : w0.heap.size ≤ B8)
    (hS : ∀ w', EV w' V O Q G cap k TB R d next T U M mt E w0 → Calls Tryz.prog 31 #[.pointer (some ⟨V, 0, none⟩), .pointer (some ⟨M, 0, none⟩)] w' fun e w2 => e = .returned (.bool b) ∧ EV w2 V O Q G cap k TB R d nx' T' U' M mt' E w0 ∧ Chg (XEV M O Q V k TB R) w' w2) :
    Calls Tryz.prog 29 #[.func (.func 30) #[] #[.pointer (some ⟨B3, 0, none⟩), .pointer (some ⟨B6, 0, none⟩), .pointer (some ⟨B8, 0, none⟩)]] w fun e w' =>
      e = .returned .nilIface ∧ EV w' V O Q G cap k TB R d nx' T' U' M mt' E w0 ∧ Blk w' B8 4 #[.bool b] ∧ Chg (fun c => XEV M O Q V k TB R c ∨ c = B8) w w' := by
  have hl := h.lts
  have l3 := h3.lt
  have l6 := h6.lt
  have l8 := h8.lt
  have hA := esteps_clos V M B3 B6 B8 b false (fun w2 => EV w2 V O Q G cap k TB R d nx' T' U' M mt' E w0 ∧ Chg (XEV M O Q V k TB R) (w.alloc (.cells #[.nilIface] 27)) w2) (w.alloc (.cells #[.nilIface] 27)) (h3.alloc _) (h6.alloc _) (hS _ (h.alloc _))
    (fun w2 h2 => (h8.alloc _).chg h2.2 (fun e => (hn _ e).2.2 rfl))
  refine (catch_ok _ _ _ w esteps_ent hA (fun w3 ⟨w2, ⟨hv2, hc2⟩, e⟩ => by
    rw [← e]
    exact ((Blk.new w 27 #[.nilIface]).chg hc2 (fun e => by have := hl.1 _ e; omega)).other (by omega) _ _)).mono ?_
  rintro e w4 ⟨rfl, w3, ⟨w2, ⟨hv2, hc2⟩, rfl⟩, rfl⟩
  have hsz : w.heap.size < w2.heap.size := by have := hc2.size; simp at this; omega
  have c3 : Chg (fun c => c = B8 ∨ c = w.heap.size) w2 ((w2.setCell ⟨B8, 0, none⟩ (.bool b)).setCell ⟨w.heap.size, 0, none⟩ .nilIface) := (((Chg.refl (fun c => c = B8) w2).set1 _ _).mono (fun _ _ e => .inl e)).trans (((Chg.refl (fun c => c = w.heap.size) _).set1 _ _).mono (fun _ _ e => .inr e))
  refine ⟨rfl, hv2.chgX c3 (by rintro c (e | e) <;> omega) (fun c hc e => ?_) (by rintro (e | e); exact hG e; have := hl.2; omega), ?_, ?_⟩
  · have := hl.1 _ hc; have := (hn _ hc).2.2; rcases e with e | e <;> omega
  · exact (((h8.alloc _).chg hc2 (fun e => (hn _ e).2.2 rfl)).set 0 _).other (by omega) _ _
  · exact ((((Chg.refl _ w).alloc _).trans (hc2.mono (fun _ _ e => .inl e))).trans' c3 (fun c hc e => by rcases e with e | e; exact .inr e; omega))
/-- .. where it breaks -/
theorem ecatch_bad {B3 B6 B8 : Nat} (h : EV w V O Q G cap k TB R d next T U M mt E w0) (h3 : Blk w B3 63 #[.pointer (some ⟨V, 0, none⟩)]) (h6 : Blk w B6 34 #[.pointer (some ⟨M, 0, none⟩)])
    (hn : ∀ b, XEV M O Q V k TB R b → b ≠ B3 ∧ b ≠ B6 ∧ b ≠ B8)
    (hS : ∀ w', EV w' V O Q G cap k TB R d next T U M mt E w0 → Calls Tryz.prog 31 #[.pointer (some ⟨V, 0, none⟩), .pointer (some ⟨M, 0, none⟩)] w' fun e w2 => e = .panicked [{ v := raisedV (errAt E 10), recovered := false }] ∧ Chg (XEV M O Q V k TB R) w' w2) :
    Calls Tryz.prog 29 #[.func (.func 30) #[] #[.pointer (some ⟨B3, 0, none⟩), .pointer (some ⟨B6, 0, none⟩), .pointer (some ⟨B8, 0, none⟩)]] w fun e w' =>
      e = .returned (errAt E 10) ∧ Chg (XEV M O Q V k TB R) w w' := by
  have hl := h.lts
  have hA := esteps_clos_bad V M B3 B6 B8 E (fun w2 => Chg (XEV M O Q V k TB R) (w.alloc (.cells #[.nilIface] 27)) w2) (w.alloc (.cells #[.nilIface] 27)) (h3.alloc _) (h6.alloc _) (hS _ (h.alloc _))
  refine (catch_raised _ _ _ _ _ w esteps_ent hA (fun w2 hc2 => (Blk.new w 27 #[.nilIface]).chg hc2 (fun e => by have := hl.1 _ e; omega))).mono ?_
  rintro e w4 ⟨rfl, w2, hc2, rfl⟩
  have hsz : w.heap.size < w2.heap.size := by have := hc2.size; simp at this; omega
  exact ⟨rfl, ((((Chg.refl _ w).alloc _).trans hc2).trans' ((Chg.refl (fun c => c = w.heap.size) _).set1 _ _) (fun c hc e => by omega)).alloc _⟩
end
/-- the counts of a meter that counts work alone -/
def MC (mt : MeterS) (p q : Int) : Prop := mt.limited = false ∧ mt.a0 = 0 ∧ mt.a1 = p ∧ mt.a2 = q
/-- what lies there at each round of the law -/
structure ES (wr : World) (V G5 cap5 k X gt tcap M cB B3 B6 base : Nat) (p0 : PB) (pt : Nat → PB) (d nx : Nat) (T : TabS) (U : Nat → TabS) (Lc : Nat → Int) (mt : MeterS) (cs : Array Value) (va : Value) (E : Nat → Addr) (w0 : World) : Prop where
  e : EV wr V p0.B p0.Q G5 cap5 k (fun q => (pt q).B) (fun q => (pt q).Q) d nx T U M mt E w0
  r : RV wr X gt tcap k p0 pt d nx T U (nx : Int) Lc
  lc : ∀ i, i < k → 0 ≤ Lc i ∧ Lc i ≤ 512 * (nx : Int)
  m : MC mt ((nx : Int) + sumI Lc k) (nx : Int)
  c : Blk wr cB 62 cs
  b3 : Blk wr B3 63 #[.pointer (some ⟨V, 0, none⟩)]
  b6 : Blk wr B6 34 #[.pointer (some ⟨M, 0, none⟩)]
  a : wr.ownsRow base 25 1 va (k + 1) ((List.range (k + 1)).map (fun j => Value.pointer (some ⟨allB p0 pt j, 0, none⟩)))
/-- the blocks lie apart -/
structure EA (V G5 k X gt M cB B3 B6 : Nat) (p0 : PB) (pt : Nat → PB) (va : Value) (n0 : Nat) : Prop where
  s1 : ∀ b, (XEV M p0.B p0.Q V k (fun q => (pt q).B) (fun q => (pt q).Q) b ∨ ZD p0 pt k b ∨ b = X) → b ≠ cB ∧ b ≠ B3 ∧ b ≠ B6 ∧ va.ownBlock ≠ some b
  s2 : ∀ b, XEV M p0.B p0.Q V k (fun q => (pt q).B) (fun q => (pt q).Q) b → ¬ ZD p0 pt k b ∧ b ≠ X ∧ b ≠ gt
  s3 : ¬ ZD p0 pt k G5 ∧ G5 ≠ X
  s4 : ∀ b, (ZD p0 pt k b ∨ b = X) → n0 ≤ b
section
variable {wr w' w'' w0 : World} {V G5 cap5 k X gt tcap M cB B3 B6 base : Nat} {p0 : PB} {pt : Nat → PB} {d nx : Nat} {T : TabS} {U : Nat → TabS} {Lc : Nat → Int} {mt : MeterS} {cs : Array Value} {va : Value} {E : Nat → Addr}
theorem ES.later (h : ES wr V G5 cap5 k X gt tcap M cB B3 B6 base p0 pt d nx T U Lc mt cs va E w0) (hb : Below wr.heap.size wr w') : ES w' V G5 cap5 k X gt tcap M cB B3 B6 base p0 pt d nx T U Lc mt cs va E w0 :=
  ⟨h.e.later hb, h.r.later hb, h.lc, h.m, h.c.below hb h.c.lt, h.b3.below hb h.b3.lt, h.b6.below hb h.b6.lt, ownsRow_later h.a hb⟩
/-- behind both Steps -/
theorem ES.turn {nx' : Nat} {T' : TabS} {U' : Nat → TabS} {Lc' : Nat → Int} {mt' : MeterS} {B8 : Nat} (h : ES wr V G5 cap5 k X gt tcap M cB B3 B6 base p0 pt d nx T U Lc mt cs va E w0) (ha : EA V G5 k X gt M cB B3 B6 p0 pt va w0.heap.size) (h8 : wr.heap.size ≤ B8)
    (he : EV w' V p0.B p0.Q G5 cap5 k (fun q => (pt q).B) (fun q => (pt q).Q) d nx' T' U' M mt' E w0) (hc : Chg (fun c => XEV M p0.B p0.Q V k (fun q => (pt q).B) (fun q => (pt q).Q) c ∨ c = B8) wr w')
    (hr : RV w'' X gt tcap k p0 pt d nx' T' U' (nx' : Int) Lc') (hc2 : Chg (fun b => ZD p0 pt k b ∨ b = X) w' w'') (hl : ∀ i, i < k → 0 ≤ Lc' i ∧ Lc' i ≤ 512 * (nx' : Int)) (hm : MC mt' ((nx' : Int) + sumI Lc' k) (nx' : Int)) :
    ES w'' V G5 cap5 k X gt tcap M cB B3 B6 base p0 pt d nx' T' U' Lc' mt' cs va E w0 := by
  have hcc : Chg (fun b => (XEV M p0.B p0.Q V k (fun q => (pt q).B) (fun q => (pt q).Q) b ∨ b = B8) ∨ (ZD p0 pt k b ∨ b = X)) wr w'' := (hc.mono (fun _ _ e => .inl e)).trans (hc2.mono (fun _ _ e => .inr e))
  have hk : ∀ b, b < wr.heap.size → (XEV M p0.B p0.Q V k (fun q => (pt q).B) (fun q => (pt q).Q) b ∨ b = B8) ∨ (ZD p0 pt k b ∨ b = X) → b ≠ cB ∧ b ≠ B3 ∧ b ≠ B6 ∧ va.ownBlock ≠ some b := fun b hb e => by
    rcases e with (e | e) | e
    · exact ha.s1 b (.inl e)
    · omega
    · exact ha.s1 b (.inr e)
  refine ⟨he.chgX hc2 ha.s4 (fun b hb e => ?_) (by rintro (e | e); exact ha.s3.1 e; exact ha.s3.2 e), hr, hl, hm, h.c.chg hcc (fun e => (hk _ h.c.lt e).1 rfl), h.b3.chg hcc (fun e => (hk _ h.b3.lt e).2.1 rfl), h.b6.chg hcc (fun e => (hk _ h.b6.lt e).2.2.1 rfl), ?_⟩
  · have := ha.s2 b hb
    rcases e with e | e
    · exact this.1 e
    · exact this.2.1 e
  · exact ownsRow_chgB h.a hcc (fun b hb e => by
      have hz := (h.a.lt b hb).2
      exact (hk b hz e).2.2.2 hb)
/-- the program's Step alone -/
theorem ES.rv {B8 : Nat} (h : ES wr V G5 cap5 k X gt tcap M cB B3 B6 base p0 pt d nx T U Lc mt cs va E w0) (ha : EA V G5 k X gt M cB B3 B6 p0 pt va w0.heap.size) (h8 : wr.heap.size ≤ B8)
    (hc : Chg (fun c => XEV M p0.B p0.Q V k (fun q => (pt q).B) (fun q => (pt q).Q) c ∨ c = B8) wr w') : RV w' X gt tcap k p0 pt d nx T U (nx : Int) Lc :=
  h.r.chg hc (fun b hb e => by
    rcases e with e | e
    · exact (ha.s2 b e).1 hb
    · have := h.r.zlt b hb; omega) (fun e => by
    rcases e with e | e
    · exact (ha.s2 _ e).2.1 rfl
    · have := h.r.v.b.lt; omega) (fun e => by
    rcases e with e | e
    · exact (ha.s2 _ e).2.2 rfl
    · have := h.r.v.lt; omega)
end
/-- the tables are not among the document's -/
theorem zd_not {w w0 : World} {p0 : PB} {pt : Nat → PB} {k : Nat} {T T2 : TabS} {U U2 : Nat → TabS} {L0 : Int} {Lc : Nat → Int} {E : Nat → Addr} (h : MS w p0 pt k T T2 U U2 L0 Lc E w0) (b : Nat) (hb : b = p0.B ∨ b = p0.Q ∨ ∃ i, i < k ∧ (b = (pt i).B ∨ b = (pt i).Q)) : ¬ ZD p0 pt k b ∧ MIn p0 pt k b := by
  have h0 := h.o.b
  have h1 := h.o.o
  have e0 : ∀ i, i < k → p0.hi ≤ (pt i).lo := h.s0
  have e1 := h.s1
  have e2 : ∀ i, i < k → _ := fun i hi => (h.t i hi).b
  have e3 : ∀ i, i < k → _ := fun i hi => (h.t i hi).o
  rcases hb with e | e | ⟨i, hi, e⟩
  · refine ⟨?_, .inl (by omega)⟩
    rintro (f | ⟨j, hj, f⟩)
    · omega
    · have := e0 j hj; have := e2 j hj; omega
  · refine ⟨?_, .inl (by omega)⟩
    rintro (f | ⟨j, hj, f⟩)
    · omega
    · have := e0 j hj; have := e2 j hj; omega
  · have q1 := e0 i hi
    have q2 := e2 i hi
    have q3 := e3 i hi
    refine ⟨?_, .inr ⟨i, hi, by omega⟩⟩
    rintro (f | ⟨j, hj, f⟩)
    · omega
    · have r2 := e2 j hj
      have r3 := e3 j hj
      rcases Nat.lt_trichotomy i j with c | c | c
      · have := e1 i j c hj; omega
      · subst c; omega
      · have := e1 j i c hi; omega
theorem zd_in {w w0 : World} {p0 : PB} {pt : Nat → PB} {k : Nat} {T T2 : TabS} {U U2 : Nat → TabS} {L0 : Int} {Lc : Nat → Int} {E : Nat → Addr} (h : MS w p0 pt k T T2 U U2 L0 Lc E w0) (b : Nat) (hb : ZD p0 pt k b) : MIn p0 pt k b := by
  rcases hb with e | ⟨i, hi, e⟩
  · have := h.o.b; exact .inl (by omega)
  · have := (h.t i hi).b; exact .inr ⟨i, hi, by omega⟩
theorem MS.rv {w w0 : World} {p0 : PB} {pt : Nat → PB} {k : Nat} {T : TabS} {U : Nat → TabS} {Lc : Nat → Int} {E : Nat → Addr} {X gt tcap d : Nat} (h : MS w p0 pt k T T U U 0 Lc E w0) (hv : VM w X p0.D gt tcap k (fun i => (pt i).D) d 0) (hx : ∀ b, ZD p0 pt k b → b ≠ X ∧ b ≠ gt) : RV w X gt tcap k p0 pt d 0 T U ((0 : Nat) : Int) Lc :=
  ⟨hv, h.o.d, fun i hi => (h.t i hi).d, fun i hi => by have := h.s0 i hi; have := (h.t i hi).b; omega, fun i j hij hj => by have := h.s1 i j hij hj; have := (h.t j hj).b; omega, hx⟩
end Go.Proofs.YtgamgphfjndiiaaGreatDoor

namespace Go.Proofs.YtgamgphfjndiiaaGreatDoor
set_option linter.unusedVariables false
set_option linter.unusedSimpArgs false
open Go.RowKit Go.Proofs
attribute [local go_sem] neq_nilG eql_nilG

theorem addN_cnt {mt : MeterS} {p q : Int} (hp : 0 ≤ p) (hq : 0 ≤ q ∧ q ≤ 1000000) (h0 : mt.a0 = 0) (h1 : mt.a1 = p) (h2 : mt.a2 = q) : ∀ n : Nat, p + n ≤ 1000000 → (addN mt 0 1 0 n).a0 = 0 ∧ (addN mt 0 1 0 n).a1 = p + n ∧ (addN mt 0 1 0 n).a2 = q
  | 0, _ => ⟨h0, by rw [show (addN mt 0 1 0 0).a1 = mt.a1 from rfl, h1]; simp, h2⟩
  | n + 1, h => by
    obtain ⟨e0, e1, e2⟩ := addN_cnt hp hq h0 h1 h2 n (by omega)
    refine ⟨?_, ?_, ?_⟩
    · show sumZ (addN mt 0 1 0 n).a0 0 = 0
      rw [e0, sumZ_add (by decide) (by decide) (by decide)]; rfl
    · show sumZ (addN mt 0 1 0 n).a1 1 = _
      rw [e1, sumZ_add (by omega) (by decide) (by omega)]; omega
    · show sumZ (addN mt 0 1 0 n).a2 0 = q
      rw [e2, sumZ_add (by omega) (by decide) (by omega)]; omega
theorem MC.step {mt : MeterS} {p q : Int} (h : MC mt p q) (hp : 0 ≤ p) (hq : 0 ≤ q ∧ q ≤ 100000) (n : Nat) (hn : p + n ≤ 100000) : MC (addN (mt.add 0 0 1) 0 1 0 n) (p + n) (q + 1) := by
  obtain ⟨h1, h2, h3, h4⟩ := h
  obtain ⟨e0, e1, e2⟩ := addN_cnt (mt := mt.add 0 0 1) (p := p) (q := q + 1) hp (by omega) (by show sumZ mt.a0 0 = 0; rw [h2, sumZ_add (by decide) (by decide) (by decide)]; rfl) (by show sumZ mt.a1 0 = p; rw [h3, sumZ_add (by omega) (by decide) (by omega)]; omega)
    (by show sumZ mt.a2 1 = q + 1; rw [h4, sumZ_add (by omega) (by decide) (by omega)]) n (by omega)
  exact ⟨(addN_limited _ _ _ _ _).trans h1, e0, e1, e2⟩
set_option maxRecDepth 100000 in
set_option maxHeartbeats 16000000 in
theorem evacSteps_any (old new depth : Int) (two : Bool) (v1 v2 v3 : Value) (n1 n2 n3 : Nat) (f1 f2 f3 : Nat → Nat → Int) (E : Nat → Addr) (w0 : World) (he : ErrsAre w0 E) (hT : Tab64 w0) (h1 : RowsAt w0 v1 n1 1 .u64 f1) (h2 : RowsAt w0 v2 n2 1 .i64 f2) (h3 : RowsAt w0 v3 n3 1 .i64 f3) :
    Calls Tryz.prog 4 #[.agg (caseC old new depth two v1 v2 v3)] w0 fun e w' => e = .returned (.bool true) ∧ Below w0.heap.size w0 w' := by
  have m2 := h2.2.2
  have m3 := h3.2.2
  unfold maxLen at m2 m3
  have HEC := Lib.hid (show EC w0 E [1, 2, 4, 5, 14, 16] from he.ec.sub (by decide))
  have HE := Lib.hid he
  have HT := Lib.hid hT
  have AL := Lib.hid (fun (w' : World) (hb' : Below w0.heap.size w0 w') => alive12_any E w' (HEC.out.below hb') (hT.below hb'))
  obtain ⟨a2, cap2, rfl, hx2⟩ := h2.cellAt (by decide)
  obtain ⟨a3, cap3, rfl, hx3⟩ := h3.cellAt (by decide)
  clear he hT h2 h3
  by_cases hs : ¬ ShortC old new depth n1 n2 n3
  · obtain ⟨a1, cap1, rfl, -⟩ := h1.cellAt (by decide)
    have LG := Lib.hid (fun (w' : World) => long_any old new depth two a1 a2 a3 n1 n2 n3 cap1 cap2 cap3 w')
    rw [decide_eq_false hs] at LG
    unfold caseC at LG ⊢
    clear hs h1 hx2 hx3
    have CB := Lib.hid (Blk.new w0 62 #[.int .i64 old, .int .i64 new, .int .i64 depth, .bool two, .slice a1 n1 cap1, .slice a2 n2 cap2, .slice a3 n3 cap3])
    go_enter Tryz.func4, Tryz.ntmps4
    go_wp2_with (first
      | (go_at_call 26; (with_reducible refine (AL.out _ ((Below.refl _ _).alloc (Nat.le_refl _) _)).mono ?_); rintro e w1 ⟨rfl, hb1⟩; have C1 := Lib.hid (CB.out.below hb1 CB.out.lt); have c1 := case_cells C1.out; have c10 := c1.1; have c11 := c1.2.1; have c12 := c1.2.2.1; have c13 := c1.2.2.2.1; have c14 := c1.2.2.2.2.1; have c15 := c1.2.2.2.2.2.1; have c16 := c1.2.2.2.2.2.2.1; have zc1 := C1.out.lt; clear c1)
      | (go_at_call 27; (with_reducible refine (LG.out _).mono ?_); rintro e w2 ⟨rfl, hb2⟩))
    go_ret
    exact ⟨rfl, ((show Below w0.heap.size w0 _ by go_grown).trans (hb1.mono (by simp))).trans (hb2.mono (by have := hb1.size; simp at this; omega))⟩
  have hs := Classical.not_not.1 hs
  obtain ⟨k1, k2, k3, k4, k5, k6, k7, k8, k9, k10⟩ := hs
  obtain ⟨b1, o1, cap1, G, rfl, hb1z, hG, hc1⟩ := hashes_of h1 k1
  obtain ⟨g, rfl⟩ := Int.eq_ofNat_of_zero_le (show 0 ≤ old by rw [rightB_iff] at k5; omega)
  obtain ⟨gn, rfl⟩ := Int.eq_ofNat_of_zero_le (show 0 ≤ new by rw [rightB_iff] at k6; omega)
  obtain ⟨d, rfl⟩ := Int.eq_ofNat_of_zero_le k9
  have LG := Lib.hid (fun (w' : World) => long_any (g : Int) (gn : Int) (d : Int) two (some ⟨b1, o1, none⟩) a2 a3 n1 n2 n3 cap1 cap2 cap3 w')
  rw [decide_eq_true (show ShortC (g : Int) (gn : Int) (d : Int) n1 n2 n3 from ⟨k1, k2, k3, k4, k5, k6, k7, k8, k9, k10⟩)] at LG
  obtain ⟨k, hk⟩ : ∃ k, k = if two = true then 2 else 1 := ⟨_, rfl⟩
  have hk12 : (k = 2 ∧ two = true) ∨ (k = 1 ∧ two = false) := by cases two <;> simp at hk <;> simp [hk]
  have MD := Lib.hid (fun (w' : World) (hw' : Below w0.heap.size w0 w') => made_any g gn d k two hk k5 k6 (by omega) b1 o1 n1 cap1 k1 k2 G a2 a3 n2 n3 cap2 cap3 k3 k4 (fun i => f2 i 0) (fun i => f3 i 0) E w0 w' HEC.out HT.out hw' hb1z hG hc1
    (fun h => by obtain ⟨b, off, e, hz, hc⟩ := hx2 h; exact ⟨b, off, e, hz, fun w' hw i hi => by simpa using hc w' hw i hi 0 (by decide)⟩)
    (fun h => by obtain ⟨b, off, e, hz, hc⟩ := hx3 h; exact ⟨b, off, e, hz, fun w' hw i hi => by simpa using hc w' hw i hi 0 (by decide)⟩))
  have HHb := Lib.hid (show ∀ q, hashH n1 G q < 18446744073709551616 from hashH_lt k1 hG)
  have hgb := right_bd k5
  have hgnb := right_bd k6
  have HCS := Lib.hid (rfl : caseC (g : Int) (gn : Int) (d : Int) two (.slice (some ⟨b1, o1, none⟩) n1 cap1) (.slice a2 n2 cap2) (.slice a3 n3 cap3) = #[.int .i64 (g : Int), .int .i64 (gn : Int), .int .i64 (d : Int), .bool two, .slice (some ⟨b1, o1, none⟩) n1 cap1, .slice a2 n2 cap2, .slice a3 n3 cap3])
  have CB := Lib.hid (Blk.new w0 62 #[.int .i64 (g : Int), .int .i64 (gn : Int), .int .i64 (d : Int), .bool two, .slice (some ⟨b1, o1, none⟩) n1 cap1, .slice a2 n2 cap2, .slice a3 n3 cap3])
  unfold caseC at LG MD ⊢
  clear hk h1 hx2 hx3 hG hc1 k5 k6
  go_enter Tryz.func4, Tryz.ntmps4
  go_wp2_with (first
    | (go_at_call 26; (with_reducible refine (AL.out _ ((Below.refl _ _).alloc (Nat.le_refl _) _)).mono ?_); rintro e w1 ⟨rfl, hb1⟩; have C1 := Lib.hid (CB.out.below hb1 CB.out.lt); have c1 := case_cells C1.out; have c10 := c1.1; have c11 := c1.2.1; have c12 := c1.2.2.1; have c13 := c1.2.2.2.1; have c14 := c1.2.2.2.2.1; have c15 := c1.2.2.2.2.2.1; have c16 := c1.2.2.2.2.2.2.1; have zc1 := C1.out.lt; clear c1)
    | (go_at_call 27; (with_reducible refine (LG.out _).mono ?_); rintro e w2 ⟨rfl, hb2⟩; have C2 := Lib.hid (C1.out.below hb2 C1.out.lt); have c1 := case_cells C2.out; have c20 := c1.1; have c21 := c1.2.1; have c22 := c1.2.2.1; have c23 := c1.2.2.2.1; have c24 := c1.2.2.2.2.1; have c25 := c1.2.2.2.2.2.1; have c26 := c1.2.2.2.2.2.2.1; have zc2 := C2.out.lt; have B2 := Lib.hid (((show Below w0.heap.size w0 _ by go_grown).trans (hb1.mono (by simp))).trans (hb2.mono (by have := hb1.size; simp at this; omega))); clear c1)
    | (go_at_call 28; (with_reducible refine (MD.out _ B2.out).mono ?_); rintro e w3 ⟨V, G5, cap5, X, gt, tcap, ga, acap, c, p0, pt, T, U, rfl, hM3, hV3, hN3, hX3, hE3⟩; have M3 := Lib.hid hM3; have V3 := Lib.hid hV3; have N3 := Lib.hid hN3; have E3 := Lib.hid hE3; have C3 := Lib.hid (C2.out.below hM3.b C2.out.lt); have c1 := case_cells C3.out; have c30 := c1.1; have c32 := c1.2.2.1; have c33 := c1.2.2.2.1; have zc3 := C3.out.lt; clear c1; clear hM3 hV3 hN3 hE3))
  refine wp_at (fun wL hwL => ?_)
  have hVM : V < w3.heap.size ∧ G5 < w3.heap.size ∧ ga < w3.heap.size ∧ X < w3.heap.size ∧ gt < w3.heap.size := ⟨V3.out.b.lt, V3.out.lt, (M3.out.ra.lt ga rfl).2, M3.out.x.lt, (M3.out.rt.lt gt rfl).2⟩
  have hfr := M3.out.fr
  have hmb := M3.out.mb
  have hX := N3.out
  have hlo := B2.out.size
  have hms := M3.out.m
  have hlw := M3.out.b.size
  have hlo3 := M3.out.lo
  have hcb : w0.heap.size < w2.heap.size := C2.out.lt
  have htb : ∀ b, (b = p0.B ∨ b = p0.Q ∨ ∃ i, i < k ∧ (b = (pt i).B ∨ b = (pt i).Q)) → _ := fun b hb => zd_not hms b hb
  have hbL : Below w3.heap.size w3 wL := by rw [hwL]; exact (((Below.refl _ _).alloc (Nat.le_refl _) _).alloc (by simp) _).alloc (by simp; omega) _
  have HAP := Lib.hid (show EA V G5 k X gt (w3.heap.size + 1) w0.heap.size w3.heap.size (w3.heap.size + 1 + 1) p0 pt (.slice (some ⟨ga, 0, none⟩) (k + 1) acap) w0.heap.size from by
    have hga : ∀ b, (Value.slice (some ⟨ga, 0, none⟩) (k + 1) acap).ownBlock ≠ some b ↔ b ≠ ga := fun b => ⟨fun h e => h (by rw [e]; rfl), fun h e => h (Option.some.inj e).symm⟩
    have hin : ∀ b, MIn p0 pt k b → b ≠ w0.heap.size ∧ b ≠ w3.heap.size ∧ b ≠ w3.heap.size + 1 + 1 ∧ b ≠ ga := fun b hb => by
      have h1 := hfr b hb; have h2 := hmb b hb
      exact ⟨by omega, by omega, by omega, (hga b).1 h1.2.2.1⟩
    refine ⟨fun b hb => ?_, fun b hb => ?_, ⟨fun e => (hX _ (zd_in hms _ e)).2 rfl, hX3.2.2.2.2.2.2.2⟩, fun b hb => ?_⟩
    · rw [hga]
      rcases hb with (e | e | e | e | e) | e | e
      · omega
      · exact hin b (htb b (.inl e)).2
      · exact hin b (htb b (.inr (.inl e))).2
      · subst e; have := hX3.2.2.2.1; exact ⟨by omega, by omega, by omega, hX3.2.1⟩
      · exact hin b (htb b (.inr (.inr e))).2
      · exact hin b (zd_in hms _ e)
      · subst e; exact ⟨by omega, by omega, by omega, fun f => (by obtain ⟨g9, c9, u9, e9, -, hg9, -⟩ := row_ptrs M3.out.ra (by omega); cases e9; exact Blk.ne_type M3.out.x hg9 (by decide) f)⟩
    · rcases hb with e | e | e | e | e
      · exact ⟨fun f => by have := (hfr _ (zd_in hms _ f)).2.2.2.2; omega, by omega, by omega⟩
      · have h1 := htb b (.inl e); have h2 := hfr b h1.2; exact ⟨h1.1, h2.2.1, fun f => h2.2.2.2.1 (by rw [f]; rfl)⟩
      · have h1 := htb b (.inr (.inl e)); have h2 := hfr b h1.2; exact ⟨h1.1, h2.2.1, fun f => h2.2.2.2.1 (by rw [f]; rfl)⟩
      · subst e; exact ⟨fun f => (hX _ (zd_in hms _ f)).1 rfl, hX3.1, hX3.2.2.1⟩
      · have h1 := htb b (.inr (.inr e)); have h2 := hfr b h1.2; exact ⟨h1.1, h2.2.1, fun f => h2.2.2.2.1 (by rw [f]; rfl)⟩
    · rcases hb with e | e
      · have := hmb b (zd_in hms _ e); omega
      · omega)
  have hz0 := M3.out.m.o
  have hfr2 : ∀ b, MIn p0 pt k b → b < w3.heap.size := fun b hb => (hfr b hb).2.2.2.2
  have hmm : Blk wL (w3.heap.size + 1) 38 MeterS.zero.cells := by rw [hwL]; simp only [MeterS.zero, MeterS.cells]; exact (Blk.new_at (by simp)).alloc _
  have hO : MIn p0 pt k p0.B ∧ MIn p0 pt k p0.Q := ⟨(htb _ (.inl rfl)).2, (htb _ (.inr (.inl rfl))).2⟩
  have hTB : ∀ i, i < k → MIn p0 pt k (pt i).B ∧ MIn p0 pt k (pt i).Q := fun i hi => ⟨(htb _ (.inr (.inr ⟨i, hi, .inl rfl⟩))).2, (htb _ (.inr (.inr ⟨i, hi, .inr rfl⟩))).2⟩
  have SC := Lib.hid (show EV wL V p0.B p0.Q G5 cap5 k (fun q => (pt q).B) (fun q => (pt q).Q) d 0 T U (w3.heap.size + 1) MeterS.zero E w0 from by
    refine ⟨V3.out.later hbL, hz0.t.later hbL, fun i hi => (M3.out.m.t i hi).t.later hbL, hmm, ⟨⟨?_, hz0.t.hB, hz0.t.hQ, ?_, by omega⟩, ⟨fun e => (hX _ hO.1).1 e.symm, fun e => (hX _ hO.2).1 e.symm, ?_, by omega⟩, ⟨fun e => (hX _ hO.1).2 e.symm, fun e => (hX _ hO.2).2 e.symm, by omega⟩, ⟨by have := hfr2 _ hO.1; omega, by have := hfr2 _ hO.2; omega⟩, fun i hi => ?_, fun i hi => ?_, fun i j hi hj hij => ?_⟩⟩
    · have := hX3.2.2.2.1; omega
    · have := hX3.2.2.2.2.1; omega
    · exact hX3.2.2.2.2.2.1
    · have h1 := hX _ (hTB i hi).1
      have h2 := hfr2 _ (hTB i hi).1
      have h3 := M3.out.m.s0 i hi
      have h4 := hz0.b
      have h5 := hz0.o
      have h6 := (M3.out.m.t i hi).b
      exact ⟨h1.1, h1.2, by omega, by omega, by omega⟩
    · have h1 := hX _ (hTB i hi).2
      have h2 := hfr2 _ (hTB i hi).2
      have h3 := M3.out.m.s0 i hi
      have h4 := hz0.b
      have h5 := hz0.o
      have h6 := (M3.out.m.t i hi).b
      exact ⟨h1.1, h1.2, by omega, by omega, by omega⟩
    · have h6 := (M3.out.m.t i hi).b
      have h7 := (M3.out.m.t j hj).b
      have h8 := (M3.out.m.t i hi).o
      have h9 := (M3.out.m.t j hj).o
      rcases Nat.lt_or_gt_of_ne hij with h | h
      · have := M3.out.m.s1 i j h hj; exact ⟨by omega, by omega, by omega, by omega⟩
      · have := M3.out.m.s1 j i h hi; exact ⟨by omega, by omega, by omega, by omega⟩)
  have hkk : k = 1 ∨ (k = 2 ∧ d ≤ 15) := by omega
  have SS := Lib.hid (show ES wL V G5 cap5 k X gt tcap (w3.heap.size + 1) w0.heap.size w3.heap.size (w3.heap.size + 1 + 1) w2.heap.size p0 pt d 0 T U (fun _ => 0) MeterS.zero (caseC (g : Int) (gn : Int) (d : Int) two (.slice (some ⟨b1, o1, none⟩) n1 cap1) (.slice a2 n2 cap2) (.slice a3 n3 cap3)) (.slice (some ⟨ga, 0, none⟩) (k + 1) acap) E w0 from
    ⟨SC.out, (hms.rv (M3.out.vm hkk) (fun b hb => by have := hfr b (zd_in hms b hb); exact ⟨this.2.1, fun f => this.2.2.2.1 (by rw [f]; rfl)⟩)).later hbL, fun i hi => by simp, by
      refine ⟨rfl, rfl, ?_, rfl⟩
      show (0 : Int) = _
      have : ∀ n, sumI (fun _ => 0) n = 0 := fun n => by induction n with
        | zero => rfl
        | succ n ih => unfold sumI; rw [ih]; rfl
      rw [this]; rfl, C3.out.below hbL C3.out.lt, by rw [hwL]; exact ((Blk.new _ _ _).alloc _).alloc _, by rw [hwL]; exact Blk.new_at (by simp), ownsRow_later M3.out.ra hbL⟩)
  have HBL := Lib.hid (show Below w0.heap.size w0 wL from (B2.out.trans (M3.out.b.mono hlo)).trans (hbL.mono (by omega)))
  have HTN := Lib.hid (show T.n = g from E3.out.tn)
  have HCSG := Lib.hid (show ∀ w', Below w0.heap.size w0 w' → EC w' E [1, 2, 4, 5, 14, 16] from fun w' hb => HEC.out.below hb)
  have HBR := Lib.hid (show ∀ w', Below w0.heap.size w0 w' → w'.cell? ⟨1, 0, none⟩ = some (errAt E 10) from fun w' hb => (HE.out.below hb).c10)
  have NU := Lib.hid (fun (w' : World) (h : Below w0.heap.size w0 w') => num_err w' E (HE.out.below h) 10 (by decide) (by decide))
  clear hVM hfr hmb hX hms hlw hlo3 htb hbL hz0 hfr2 hmm hO hTB hX3 SC M3 V3 N3 E3 C3 C1 C2 c10 c11 c12 c13 c14 c15 c16 zc1 c20 c21 c22 c23 c24 c25 c26 zc2 c30 c32 c33 zc3 MD LG AL CB
  obtain ⟨B3, hB3⟩ : ∃ B3, B3 = w3.heap.size := ⟨_, rfl⟩
  rw [← hB3] at SS HAP
  simp only [← hB3]
  obtain ⟨B6, hB6⟩ : ∃ B6, B6 = B3 + 1 + 1 := ⟨_, rfl⟩
  rw [← hB6] at SS HAP
  simp only [← hB6]
  obtain ⟨M, hM⟩ : ∃ M, M = B3 + 1 := ⟨_, rfl⟩
  rw [← hM] at SS HAP
  try simp only [← hM]
  replace hwL := Lib.hid hwL
  replace hM := Lib.hid hM
  replace hB3 := Lib.hid hB3
  replace hB6 := Lib.hid hB6
  generalize w2.heap.size = b2 at *
  obtain ⟨cs, hcs⟩ : ∃ cs, cs = caseC (g : Int) (gn : Int) (d : Int) two (.slice (some ⟨b1, o1, none⟩) n1 cap1) (.slice a2 n2 cap2) (.slice a3 n3 cap3) := ⟨_, rfl⟩
  rw [← hcs] at SS
  have HC0 := Lib.hid (show ∀ w', Blk w' w0.heap.size 62 cs → w'.cell? ⟨w0.heap.size, 0, none⟩ = some (.int .i64 (g : Int)) from fun w' h => by rw [hcs] at h; exact h.cell 0)
  clear hcs HCS
  go_loopw [7] (fun v7 wr => ∃ (j nx : Nat) (T : TabS) (U : Nat → TabS) (Lc : Nat → Int) (mt : MeterS), j ≤ g + 1 ∧ v7 = .int .i64 (j : Int) ∧ nx = (if j ≤ g then j else g) ∧ T.n = g ∧ Below w0.heap.size w0 wr ∧
    ES wr V G5 cap5 k X gt tcap M w0.heap.size B3 B6 b2 p0 pt d nx T U Lc mt cs (.slice (some ⟨ga, 0, none⟩) (k + 1) acap) E w0) (fun v7 _ => g + 1 - (intOf v7).toNat)
  case atStart => exact ⟨0, 0, T, U, _, _, Nat.zero_le _, rfl, by simp, HTN.out, HBL.out, SS.out⟩
  case round =>
    clear SS HTN HBL
    obtain ⟨j, nx, T, U, Lc, mt, hj, rfl, hnx, hTn, hB, hS⟩ := hrel
    have KS := Lib.hid hS
    have KB := Lib.hid hB
    have HTN := Lib.hid hTn
    have c0 := HC0.out _ hS.c
    have zc := hS.c.lt
    have z3 := hS.b3.lt
    have z6 := hS.b6.lt
    have p3 := hS.b3.cell 0
    have p6 := hS.b6.cell 0
    clear hS hB hTn
    by_cases hlt : j ≤ g
    · have hltI : (j : Int) ≤ (g : Int) := by omega
      obtain rfl : nx = j := by rw [hnx, if_pos hlt]
      clear hnx
      have hmf : ∀ (fn : Fn) (first cap : Array Value) (w : World), (Instr.makeFunc fn first cap).run Tryz.prog w = .ok (.func fn first cap) w := fun _ _ _ _ => rfl
      have HNE := Lib.hid (show ∀ B8, wr.heap.size ≤ B8 → ∀ b, XEV M p0.B p0.Q V k (fun q => (pt q).B) (fun q => (pt q).Q) b → b ≠ B3 ∧ b ≠ B6 ∧ b ≠ B8 from fun B8 h8 b hb => by
        have h1 := HAP.out.s1 b (.inl hb)
        have h2 := KS.out.e.lts.1 b hb
        exact ⟨h1.2.1, h1.2.2.1, by omega⟩)
      have HM := Lib.hid KS.out.m
      by_cases hbad : nx < g ∧ ¬ EvOk k d (entsL (T.M nx) (T.S nx)) U
      · have CT := Lib.hid (fun (w' : World) (h : ES w' V G5 cap5 k X gt tcap M w0.heap.size B3 B6 b2 p0 pt d nx T U Lc mt cs (.slice (some ⟨ga, 0, none⟩) (k + 1) acap) E w0) => ecatch_bad (B8 := wr.heap.size) h.e h.b3 h.b6 (HNE.out _ (Nat.le_refl _))
          (fun w2 h2 => estep_bad h2 (by rw [HTN.out]; exact hbad.1) HM.out.1 hbad.2 HBR.out))
        have DB := Lib.hid (fun (w' : World) (h : RV w' X gt tcap k p0 pt d nx T U (nx : Int) Lc) => rstep_any h (by rw [HTN.out]; exact hbad.1) KS.out.lc)
        have HBAD := Lib.hid hbad
        clear hbad
        go_wp2_with (first
          | (go_at_call 29; (with_reducible refine (CT.out _ (KS.out.later ((Below.refl _ _).alloc (Nat.le_refl _) _))).mono ?_); rintro e w4 ⟨rfl, hc4⟩; have C4 := Lib.hid (show Chg (fun c => XEV M p0.B p0.Q V k (fun q => (pt q).B) (fun q => (pt q).Q) c ∨ c = wr.heap.size) wr w4 from (((Chg.refl _ wr).alloc _).trans hc4).mono (fun _ _ e => .inl e)); have R4 := Lib.hid (KS.out.rv HAP.out (Nat.le_refl _) C4.out); have B4 := Lib.hid (KB.out.trans (C4.out.below (n := w0.heap.size) KB.out.size (fun b hb e => by have := KB.out.size; rcases e with e | e; have := KS.out.e.ge b e; omega; omega))))
          | (go_at_call 32; (with_reducible refine (DB.out _ R4.out).mono ?_); rintro e w5 ⟨bb, rfl, h51, h52, h53, hc5⟩; obtain rfl : bb = true := (by cases bb with | true => rfl | false => exact absurd (h51 rfl) HBAD.out.2); have B5 := Lib.hid (B4.out.trans (hc5.below (n := w0.heap.size) B4.out.size (fun b hb e => by have := HAP.out.s4 b e; omega))); clear h51 h52 h53)
          | (go_at_call 12; (with_reducible refine (NU.out _ B5.out).mono ?_); rintro e w6 ⟨rfl, hb6⟩))
        go_ret
        exact ⟨rfl, by rw [← hb6]; exact B5.out.alloc B5.out.size _⟩
      · obtain ⟨b, nx', T', U', mt', hnx', hTn', SP, DP⟩ : ∃ (b : Bool) (nx' : Nat) (T' : TabS) (U' : Nat → TabS) (mt' : MeterS), nx' = (if nx + 1 ≤ g then nx + 1 else g) ∧ T'.n = g ∧
            (∀ w', EV w' V p0.B p0.Q G5 cap5 k (fun q => (pt q).B) (fun q => (pt q).Q) d nx T U M mt E w0 → Calls Tryz.prog 31 #[.pointer (some ⟨V, 0, none⟩), .pointer (some ⟨M, 0, none⟩)] w' fun e w2 => e = .returned (.bool b) ∧ EV w2 V p0.B p0.Q G5 cap5 k (fun q => (pt q).B) (fun q => (pt q).Q) d nx' T' U' M mt' E w0 ∧ Chg (XEV M p0.B p0.Q V k (fun q => (pt q).B) (fun q => (pt q).Q)) w' w2) ∧
            (∀ w', RV w' X gt tcap k p0 pt d nx T U (nx : Int) Lc → Calls Tryz.prog 32 #[.pointer (some ⟨X, 0, none⟩)] w' fun e w2 => e = .returned (.tuple #[.bool b, .bool false]) ∧ (∃ Lc', RV w2 X gt tcap k p0 pt d nx' T' U' (nx' : Int) Lc' ∧ (∀ i, i < k → 0 ≤ Lc' i ∧ Lc' i ≤ 512 * (nx' : Int)) ∧ MC mt' ((nx' : Int) + sumI Lc' k) (nx' : Int)) ∧ Chg (fun b => ZD p0 pt k b ∨ b = X) w' w2) := by
          by_cases hng : nx < g
          · have hok : EvOk k d (entsL (T.M nx) (T.S nx)) U := Classical.not_not.1 (fun h => hbad ⟨hng, h⟩)
            refine ⟨true, nx + 1, T.takeT nx, _, _, by rw [if_pos (by omega)], by rw [takeT_n]; exact HTN.out, fun w' h => estep_ok h (by rw [HTN.out]; exact hng) HM.out.1 hok, fun w' h => ?_⟩
            refine (rstep_any h (by rw [HTN.out]; exact hng) KS.out.lc).mono ?_
            rintro e w2 ⟨bb, rfl, h1, h2, h3, h4⟩
            cases bb with
            | true => exact absurd hok (h2 rfl)
            | false =>
              obtain ⟨Lc', q1, q2, q3⟩ := h3 rfl
              refine ⟨rfl, ⟨Lc', q1, q3, ?_⟩, h4⟩
              have hk2 : k ≤ 2 := by omega
              have s1 := sumI_bd (f := Lc) (m := 512 * (nx : Int)) (n := k) KS.out.lc
              have s2 := sumI_bd (f := Lc') (m := 512 * ((nx + 1 : Nat) : Int)) (n := k) q3
              have s3 : (k : Int) * (512 * ((nx + 1 : Nat) : Int)) ≤ 2 * (512 * 17) := Int.mul_le_mul (by omega) (by omega) (by omega) (by omega)
              have s4 : (k : Int) * (512 * (nx : Int)) ≤ 2 * (512 * 17) := Int.mul_le_mul (by omega) (by omega) (by omega) (by omega)
              generalize (evF k d (entsL (T.M nx) (T.S nx)) (U, 0)).2 = lk at *
              have h5 := HM.out.step (by omega) (by omega) (1 + lk) (by omega)
              rw [show ((nx + 1 : Nat) : Int) + sumI Lc' k = (nx : Int) + sumI Lc k + ((1 + lk : Nat) : Int) by omega, show ((nx + 1 : Nat) : Int) = (nx : Int) + 1 by omega]
              exact h5
          · obtain rfl : nx = g := by omega
            refine ⟨false, nx, T, U, mt, by rw [if_neg (by omega)], HTN.out, fun w' h => (estep_no h HTN.out.symm _).mono ?_, fun w' h => (rstep_no h HTN.out.symm).mono ?_⟩
            · rintro e w2 ⟨rfl, h1, h2⟩; exact ⟨rfl, h1, Chg.of_below h2⟩
            · rintro e w2 ⟨rfl, h2⟩; exact ⟨rfl, ⟨Lc, h.later h2, KS.out.lc, HM.out⟩, Chg.of_below h2⟩
        have HNX := Lib.hid hnx'
        have HTN' := Lib.hid hTn'
        have hng' : nx' ≤ g := by rw [hnx']; split <;> omega
        have e9 : IntKind.i64.wrap ((g : Int) - (nx' : Int)) = ((g - nx' : Nat) : Int) := by rw [IntKind.wrap_i64]; omega
        have CT := Lib.hid (fun (w' : World) (h : ES w' V G5 cap5 k X gt tcap M w0.heap.size B3 B6 b2 p0 pt d nx T U Lc mt cs (.slice (some ⟨ga, 0, none⟩) (k + 1) acap) E w0) (h8 : Blk w' wr.heap.size 4 #[.bool false]) (hz : w0.heap.size ≤ w'.heap.size) => ecatch_ok (B8 := wr.heap.size) h.e h.b3 h.b6 h8 (HNE.out _ (Nat.le_refl _)) (by have := KS.out.e.lts.2; omega) hz KB.out.size SP)
        have DC := Lib.hid DP
        have LF := Lib.hid (fun (w' : World) (h : EV w' V p0.B p0.Q G5 cap5 k (fun q => (pt q).B) (fun q => (pt q).Q) d nx' T' U' M mt' E w0) => eleft_any V p0.B p0.Q G5 cap5 k (fun q => (pt q).B) d nx' T'.n h.t.good.bounds.1 (by rw [HTN'.out]; exact hng') _ _ w' h.e h.t.t.head)
        rw [hTn'] at LF
        clear hbad SP DP hnx' hTn'
        go_wp2_with (first
          | (go_at_call 29; (with_reducible refine (CT.out _ (KS.out.later ((Below.refl _ _).alloc (Nat.le_refl _) _)) (Blk.new _ _ _) (by have := KB.out.size; simp; omega)).mono ?_); rintro e w4 ⟨rfl, hv4, h84, hc4⟩; have V4 := Lib.hid hv4; have C4 := Lib.hid (show Chg (fun c => XEV M p0.B p0.Q V k (fun q => (pt q).B) (fun q => (pt q).Q) c ∨ c = wr.heap.size) wr w4 from ((Chg.refl _ wr).alloc _).trans hc4); have R4 := Lib.hid (KS.out.rv HAP.out (Nat.le_refl _) C4.out); have B4 := Lib.hid (KB.out.trans (C4.out.below (n := w0.heap.size) KB.out.size (fun b hb e => by have := KB.out.size; rcases e with e | e; have := KS.out.e.ge b e; omega; omega))); have H84 := Lib.hid h84; clear hv4 hc4 h84)
          | (go_at_call 32; (with_reducible refine (DC.out _ R4.out).mono ?_); rintro e w5 ⟨rfl, ⟨Lc', hr5, hl5, hm5⟩, hc5⟩; have S5 := Lib.hid (KS.out.turn HAP.out (Nat.le_refl _) V4.out C4.out hr5 hc5 hl5 hm5); have B5 := Lib.hid (B4.out.trans (hc5.below (n := w0.heap.size) B4.out.size (fun b hb e => by have := HAP.out.s4 b e; omega))); have H85 := Lib.hid (H84.out.chg hc5 (fun e => by rcases e with e | e; have := KS.out.r.zlt _ e; omega; have := KS.out.r.v.b.lt; omega)); clear hr5 hl5 hm5 hc5))
        have AM := Lib.hid (fun (w' : World) (h : Blk w' M 38 mt'.cells) => meterAll_any mt' M 38 w' h)
        have hmc := S5.out.m
        rw [hmc.2.1, hmc.2.2.1, hmc.2.2.2] at AM
        have hk2 : k ≤ 2 := by omega
        have LK := Lib.hid (fun (w' : World) (h : RV w' X gt tcap k p0 pt d nx' T' U' (nx' : Int) Lc') => rlooks_any h (by omega) (fun i hi => by have := S5.out.lc i hi; omega))
        have hlk := sumI_bd (f := Lc') (m := 512 * (nx' : Int)) (n := k) S5.out.lc
        have hlk2 : (k : Int) * (512 * (nx' : Int)) ≤ 2 * (512 * 17) := Int.mul_le_mul (by omega) (by omega) (by omega) (by omega)
        generalize (nx' : Int) + sumI Lc' k = lk at *
        clear hmc hlk hlk2 c0 zc z3 z6 p3 p6 V4 R4 C4 H84 CT DC
        have c0 := HC0.out _ S5.out.c
        have zc := S5.out.c.lt
        have z3 := S5.out.b3.lt
        have z6 := S5.out.b6.lt
        have p3 := S5.out.b3.cell 0
        have p6 := S5.out.b6.cell 0
        obtain ⟨x0, x1, x2, x3, zX, -⟩ := vmcells S5.out.r.v
        have h80 := H85.out.cell 0
        have zh8 := H85.out.lt
        refine wp_region_seq (fun _ => False) #[⟨0, 0, 35184372088832, 512, 0⟩, ⟨1, 1, 70368744177664, 35184372088832, 0⟩, ⟨2, 3, 140737488355328, 70368744177664, 0⟩, ⟨4, 7, 281474976710656, 140737488355584, 1⟩, ⟨4, 7, 562949953421312, 140737488356352, 0⟩, ⟨28, 31, 1125899906842624, 985162418487296, 0⟩, ⟨36, 63, 2251799813685248, 1266637395197952, 0⟩, ⟨68, 127, 4503599627370496, 2251799813685248, 0⟩, ⟨128, 255, 9007199254740992, 4503599627370504, 1⟩, ⟨384, 511, 18014398509481984, 13510798882111488, 2⟩, ⟨128, 255, 36028797018963968, 4503599627370498, 0⟩, ⟨1152, 1279, 72057594037927936, 40532396646334464, 1⟩, ⟨128, 255, 144115188075855872, 4503599627370528, 0⟩, ⟨4224, 4351, 288230376151711744, 148618787703226368, 0⟩, ⟨8320, 12543, 576460752303423488, 292733975779082240, 0⟩, ⟨16512, 28927, 1152921504606846976, 580964351930793984, 1⟩, ⟨34944, 64767, 2305843009213693952, 1229482698272145408, 0⟩, ⟨66176, 131071, 4611686018427387904, 2328361007350546432, 0⟩, ⟨131200, 262143, 9223372036854775808, 4616189618054758400, 0⟩, ⟨262656, 524287, 18446744073709551616, 9223372036854775808, 0⟩, ⟨524288, 1048575, 36893488147419103232, 18446744073709551680, 1⟩, ⟨1572864, 2097151, 73786976294838206464, 55340232221128654848, 2⟩, ⟨524288, 1048575, 147573952589676412928, 18446744073709551648, 0⟩, ⟨6815744, 8388607, 295147905179352825856, 166020696663385964544, 2⟩, ⟨524288, 1048575, 590295810358705651712, 18446744073709551648, 0⟩, ⟨17301504, 17825791, 1180591620717411303424, 608742554432415203328, 0⟩, ⟨34078720, 51380223, 2361183241434822606848, 1199038364791120855040, 0⟩, ⟨67633152, 118489087, 4722366482869645213696, 2379629985508532158464, 1⟩, ⟨143130624, 268435455, 9444732965739290427392, 5035961132122707591168, 0⟩, ⟨271056896, 536870911, 18889465931478580854784, 9536966686107838185472, 0⟩, ⟨537395200, 1073741823, 37778931862957161709568, 18907912675552290406400, 0⟩] 135301384 [(0, 0), (1, 0), (2, 0), (3, 1), (4, 0), (5, 0), (6, 0), (7, 0), (8, 1), (10, 0), (11, 1), (12, 0), (13, 0), (14, 0), (15, 1), (16, 0), (9, 2), (17, 0), (18, 0), (19, 0), (20, 1), (22, 0), (24, 0), (25, 0), (26, 0), (27, 1), (21, 2), (23, 2), (28, 0), (29, 0), (30, 0)] (by kernel_rfl) (by kernel_rfl) (by kernel_rfl) (by kernel_rfl) (by kernel_rfl) (by kernel_rfl) (fun c a d v w h => by cases d <;> exact h) ?_
        refine seq_calc (by simp only [List.getElem?_toArray, List.getElem?_cons_succ, List.getElem?_cons_zero]; rfl) (by rfl) (fun u => by go_simp <;> with_reducible rfl) ?_
        try simp only [Act.put, List.setIfInBounds_toArray, List.set_cons_zero, List.set_cons_succ]
        refine seq_calc (by simp only [List.getElem?_toArray, List.getElem?_cons_succ, List.getElem?_cons_zero]; rfl) (by rfl) (fun u => by go_simp <;> with_reducible rfl) ?_
        try simp only [Act.put, List.setIfInBounds_toArray, List.set_cons_zero, List.set_cons_succ]
        refine seq_calc (by simp only [List.getElem?_toArray, List.getElem?_cons_succ, List.getElem?_cons_zero]; rfl) (by rfl) (fun u => by go_simp <;> with_reducible rfl) ?_
        try simp only [Act.put, List.setIfInBounds_toArray, List.set_cons_zero, List.set_cons_succ]
        first
          | (refine seq_skip (by simp only [List.getElem?_toArray, List.getElem?_cons_succ, List.getElem?_cons_zero]; rfl) (by rfl) ?_)
          | (refine seq_load1 (by simp only [List.getElem?_toArray, List.getElem?_cons_succ, List.getElem?_cons_zero]; rfl) (by rfl) rfl rfl Tryz.underlying4 rfl (by go_simp <;> with_reducible rfl) (by first | exact id | assumption | (simp; done) | (simp; omega)) ?_)
        try simp only [Act.put, List.setIfInBounds_toArray, List.set_cons_zero, List.set_cons_succ]
        first
          | (refine seq_skip (by simp only [List.getElem?_toArray, List.getElem?_cons_succ, List.getElem?_cons_zero]; rfl) (by rfl) ?_)
          | (refine seq_calc (by simp only [List.getElem?_toArray, List.getElem?_cons_succ, List.getElem?_cons_zero]; rfl) (by rfl) (fun u => by go_simp <;> with_reducible rfl) ?_)
        try simp only [Act.put, List.setIfInBounds_toArray, List.set_cons_zero, List.set_cons_succ]
        first
          | (refine seq_skip (by simp only [List.getElem?_toArray, List.getElem?_cons_succ, List.getElem?_cons_zero]; rfl) (by rfl) ?_)
          | (refine seq_calc (by simp only [List.getElem?_toArray, List.getElem?_cons_succ, List.getElem?_cons_zero]; rfl) (by rfl) (fun u => by go_simp <;> with_reducible rfl) ?_)
        try simp only [Act.put, List.setIfInBounds_toArray, List.set_cons_zero, List.set_cons_succ]
        refine seq_calc (by simp only [List.getElem?_toArray, List.getElem?_cons_succ, List.getElem?_cons_zero]; rfl) (by rfl) (fun u => by go_simp <;> with_reducible rfl) ?_
        try simp only [Act.put, List.setIfInBounds_toArray, List.set_cons_zero, List.set_cons_succ]
        refine seq_calc (by simp only [List.getElem?_toArray, List.getElem?_cons_succ, List.getElem?_cons_zero]; rfl) (by rfl) (fun u => by go_simp <;> with_reducible rfl) ?_
        try simp only [Act.put, List.setIfInBounds_toArray, List.set_cons_zero, List.set_cons_succ]
        first
          | (refine seq_skip (by simp only [List.getElem?_toArray, List.getElem?_cons_succ, List.getElem?_cons_zero]; rfl) (by rfl) ?_)
          | (refine seq_load1 (by simp only [List.getElem?_toArray, List.getElem?_cons_succ, List.getElem?_cons_zero]; rfl) (by rfl) rfl rfl Tryz.underlying63 rfl (by go_simp <;> with_reducible rfl) (by first | exact id | assumption | (simp; done) | (simp; omega)) ?_)
        try simp only [Act.put, List.setIfInBounds_toArray, List.set_cons_zero, List.set_cons_succ]
        first
          | (refine seq_skip (by simp only [List.getElem?_toArray, List.getElem?_cons_succ, List.getElem?_cons_zero]; rfl) (by rfl) ?_)
          | (refine seq_calc (by simp only [List.getElem?_toArray, List.getElem?_cons_succ, List.getElem?_cons_zero]; rfl) (by rfl) (fun u => by go_simp <;> with_reducible rfl) ?_)
        try simp only [Act.put, List.setIfInBounds_toArray, List.set_cons_zero, List.set_cons_succ]
        first
          | (refine seq_skip (by simp only [List.getElem?_toArray, List.getElem?_cons_succ, List.getElem?_cons_zero]; rfl) (by rfl) ?_)
          | (refine seq_load1 (by simp only [List.getElem?_toArray, List.getElem?_cons_succ, List.getElem?_cons_zero]; rfl) (by rfl) rfl rfl Tryz.underlying3 rfl (by go_simp <;> with_reducible rfl) (by first | exact id | assumption | (simp; done) | (simp; omega)) ?_)
        try simp only [Act.put, List.setIfInBounds_toArray, List.set_cons_zero, List.set_cons_succ]
        first
          | (refine seq_skip (by simp only [List.getElem?_toArray, List.getElem?_cons_succ, List.getElem?_cons_zero]; rfl) (by rfl) ?_)
          | (refine seq_calc (by simp only [List.getElem?_toArray, List.getElem?_cons_succ, List.getElem?_cons_zero]; rfl) (by rfl) (fun u => by go_simp <;> with_reducible rfl) ?_)
        try simp only [Act.put, List.setIfInBounds_toArray, List.set_cons_zero, List.set_cons_succ]
        first
          | (refine seq_skip (by simp only [List.getElem?_toArray, List.getElem?_cons_succ, List.getElem?_cons_zero]; rfl) (by rfl) ?_)
          | (refine seq_calc (by simp only [List.getElem?_toArray, List.getElem?_cons_succ, List.getElem?_cons_zero]; rfl) (by rfl) (fun u => by go_simp <;> with_reducible rfl) ?_)
        try simp only [Act.put, List.setIfInBounds_toArray, List.set_cons_zero, List.set_cons_succ]
        first
          | (refine seq_skip (by simp only [List.getElem?_toArray, List.getElem?_cons_succ, List.getElem?_cons_zero]; rfl) (by rfl) ?_)
          | (refine seq_calc (by simp only [List.getElem?_toArray, List.getElem?_cons_succ, List.getElem?_cons_zero]; rfl) (by rfl) (fun u => by go_simp <;> with_reducible rfl) ?_)
        try simp only [Act.put, List.setIfInBounds_toArray, List.set_cons_zero, List.set_cons_succ]
        first
          | (refine seq_skip (by simp only [List.getElem?_toArray, List.getElem?_cons_succ, List.getElem?_cons_zero]; rfl) (by rfl) ?_)
          | (refine seq_load1 (by simp only [List.getElem?_toArray, List.getElem?_cons_succ, List.getElem?_cons_zero]; rfl) (by rfl) rfl rfl Tryz.underlying3 rfl (by go_simp <;> with_reducible rfl) (by first | exact id | assumption | (simp; done) | (simp; omega)) ?_)
        try simp only [Act.put, List.setIfInBounds_toArray, List.set_cons_zero, List.set_cons_succ]
        first
          | (refine seq_skip (by simp only [List.getElem?_toArray, List.getElem?_cons_succ, List.getElem?_cons_zero]; rfl) (by rfl) ?_)
          | (refine seq_calc (by simp only [List.getElem?_toArray, List.getElem?_cons_succ, List.getElem?_cons_zero]; rfl) (by rfl) (fun u => by go_simp <;> with_reducible rfl) ?_)
        try simp only [Act.put, List.setIfInBounds_toArray, List.set_cons_zero, List.set_cons_succ]
        first
          | (refine seq_skip (by simp only [List.getElem?_toArray, List.getElem?_cons_succ, List.getElem?_cons_zero]; rfl) (by rfl) ?_)
          | (refine seq_do (by simp only [List.getElem?_toArray, List.getElem?_cons_succ, List.getElem?_cons_zero]; rfl) (by rfl) (fun K hK => ?_); go_wp2_with (first | (go_at_call 33; (with_reducible refine (LF.out _ (S5.out.later (Below.refl _ _).drew).e).mono ?_); rintro e w6 ⟨rfl, hb6⟩; have S6 := Lib.hid ((S5.out.later (Below.refl _ _).drew).later hb6); have c06 := HC0.out _ S6.out.c; have zc6 := S6.out.c.lt; have z36 := S6.out.b3.lt; have z66 := S6.out.b6.lt; have p36 := S6.out.b3.cell 0; have p66 := S6.out.b6.cell 0; obtain ⟨x06, x16, x26, x36, zX6, -⟩ := vmcells S6.out.r.v; have B6' := Lib.hid (B5.out.trans ((Below.undrew hb6).mono B5.out.size))) | (go_at_call 22; (with_reducible refine (AM.out _ S6.out.e.m).mono ?_); rintro e w7 ⟨rfl, hb7⟩; have S7 := Lib.hid (S6.out.later hb7); have c07 := HC0.out _ S7.out.c; have zc7 := S7.out.c.lt; have z37 := S7.out.b3.lt; have z67 := S7.out.b6.lt; have p37 := S7.out.b3.cell 0; have p67 := S7.out.b6.cell 0; obtain ⟨x07, x17, x27, x37, zX7, -⟩ := vmcells S7.out.r.v; have B7 := Lib.hid (B6'.out.trans (hb7.mono B6'.out.size))) | (go_at_call 34; (with_reducible refine (LK.out _ S7.out.r).mono ?_); rintro e w8 ⟨rfl, rfl⟩)); refine hK.out _ _ (by first | (with_reducible exact Chg.refl _ _) | (with_reducible assumption) | (refine Chg.of_below ?_; with_reducible assumption) | (with_reducible exact (Chg.refl _ _).alloc _) | (with_reducible exact (Chg.refl _ _).drewN _) | (with_reducible exact (Chg.refl _ _).drew) | exact ⟨rfl, rfl, rfl, Nat.le_refl _, fun _ _ _ => rfl⟩ | exact (Chg.refl _ _).setCell (.inl (.inl rfl)) _ | exact (Chg.refl _ _).setCell (.inl (.inr rfl)) _ | exact ((Chg.refl _ _).setCell (.inl (.inl rfl)) _).setCell (.inl (.inl rfl)) _ | exact ((Chg.refl _ _).setCell (.inl (.inr rfl)) _).setCell (.inl (.inr rfl)) _ | exact Chg.drew (Chg.setCell ⟨rfl, rfl, rfl, Nat.le_refl _, fun _ _ _ => rfl⟩ (.inl (.inl rfl)) _) | exact Chg.drew (Chg.setCell ⟨rfl, rfl, rfl, Nat.le_refl _, fun _ _ _ => rfl⟩ (.inl (.inr rfl)) _)) ?_; clear hK K)
        try simp only [Act.put, List.setIfInBounds_toArray, List.set_cons_zero, List.set_cons_succ]
        first
          | (refine seq_skip (by simp only [List.getElem?_toArray, List.getElem?_cons_succ, List.getElem?_cons_zero]; rfl) (by rfl) ?_)
          | (refine seq_calc (by simp only [List.getElem?_toArray, List.getElem?_cons_succ, List.getElem?_cons_zero]; rfl) (by rfl) (fun u => by go_simp <;> with_reducible rfl) ?_)
        try simp only [Act.put, List.setIfInBounds_toArray, List.set_cons_zero, List.set_cons_succ]
        refine seq_calc (by simp only [List.getElem?_toArray, List.getElem?_cons_succ, List.getElem?_cons_zero]; rfl) (by rfl) (fun u => by go_simp <;> with_reducible rfl) ?_
        try simp only [Act.put, List.setIfInBounds_toArray, List.set_cons_zero, List.set_cons_succ]
        refine seq_calc (by simp only [List.getElem?_toArray, List.getElem?_cons_succ, List.getElem?_cons_zero]; rfl) (by rfl) (fun u => by go_simp <;> with_reducible rfl) ?_
        try simp only [Act.put, List.setIfInBounds_toArray, List.set_cons_zero, List.set_cons_succ]
        first
          | (refine seq_skip (by simp only [List.getElem?_toArray, List.getElem?_cons_succ, List.getElem?_cons_zero]; rfl) (by rfl) ?_)
          | (refine seq_load1 (by simp only [List.getElem?_toArray, List.getElem?_cons_succ, List.getElem?_cons_zero]; rfl) (by rfl) rfl rfl Tryz.underlying34 rfl (by go_simp <;> with_reducible rfl) (by first | exact id | assumption | (simp; done) | (simp; omega)) ?_)
        try simp only [Act.put, List.setIfInBounds_toArray, List.set_cons_zero, List.set_cons_succ]
        first
          | (refine seq_skip (by simp only [List.getElem?_toArray, List.getElem?_cons_succ, List.getElem?_cons_zero]; rfl) (by rfl) ?_)
          | (refine seq_calc (by simp only [List.getElem?_toArray, List.getElem?_cons_succ, List.getElem?_cons_zero]; rfl) (by rfl) (fun u => by go_simp <;> with_reducible rfl) ?_)
        try simp only [Act.put, List.setIfInBounds_toArray, List.set_cons_zero, List.set_cons_succ]
        first
          | (refine seq_skip (by simp only [List.getElem?_toArray, List.getElem?_cons_succ, List.getElem?_cons_zero]; rfl) (by rfl) ?_)
          | (refine seq_calc (by simp only [List.getElem?_toArray, List.getElem?_cons_succ, List.getElem?_cons_zero]; rfl) (by rfl) (fun u => by go_simp <;> with_reducible rfl) ?_)
        try simp only [Act.put, List.setIfInBounds_toArray, List.set_cons_zero, List.set_cons_succ]
        first
          | (refine seq_skip (by simp only [List.getElem?_toArray, List.getElem?_cons_succ, List.getElem?_cons_zero]; rfl) (by rfl) ?_)
          | (refine seq_calc (by simp only [List.getElem?_toArray, List.getElem?_cons_succ, List.getElem?_cons_zero]; rfl) (by rfl) (fun u => by go_simp <;> with_reducible rfl) ?_)
        try simp only [Act.put, List.setIfInBounds_toArray, List.set_cons_zero, List.set_cons_succ]
        first
          | (refine seq_skip (by simp only [List.getElem?_toArray, List.getElem?_cons_succ, List.getElem?_cons_zero]; rfl) (by rfl) ?_)
          | (refine seq_calc (by simp only [List.getElem?_toArray, List.getElem?_cons_succ, List.getElem?_cons_zero]; rfl) (by rfl) (fun u => by go_simp <;> with_reducible rfl) ?_)
        try simp only [Act.put, List.setIfInBounds_toArray, List.set_cons_zero, List.set_cons_succ]
        first
          | (refine seq_skip (by simp only [List.getElem?_toArray, List.getElem?_cons_succ, List.getElem?_cons_zero]; rfl) (by rfl) ?_)
          | (refine seq_load1 (by simp only [List.getElem?_toArray, List.getElem?_cons_succ, List.getElem?_cons_zero]; rfl) (by rfl) rfl rfl Tryz.underlying3 rfl (by go_simp <;> with_reducible rfl) (by first | exact id | assumption | (simp; done) | (simp; omega)) ?_)
        try simp only [Act.put, List.setIfInBounds_toArray, List.set_cons_zero, List.set_cons_succ]
        first
          | (refine seq_skip (by simp only [List.getElem?_toArray, List.getElem?_cons_succ, List.getElem?_cons_zero]; rfl) (by rfl) ?_)
          | (refine seq_do (by simp only [List.getElem?_toArray, List.getElem?_cons_succ, List.getElem?_cons_zero]; rfl) (by rfl) (fun K hK => ?_); go_wp2_with (first | (go_at_call 33; (with_reducible refine (LF.out _ (S5.out.later (Below.refl _ _).drew).e).mono ?_); rintro e w6 ⟨rfl, hb6⟩; have S6 := Lib.hid ((S5.out.later (Below.refl _ _).drew).later hb6); have c06 := HC0.out _ S6.out.c; have zc6 := S6.out.c.lt; have z36 := S6.out.b3.lt; have z66 := S6.out.b6.lt; have p36 := S6.out.b3.cell 0; have p66 := S6.out.b6.cell 0; obtain ⟨x06, x16, x26, x36, zX6, -⟩ := vmcells S6.out.r.v; have B6' := Lib.hid (B5.out.trans ((Below.undrew hb6).mono B5.out.size))) | (go_at_call 22; (with_reducible refine (AM.out _ S6.out.e.m).mono ?_); rintro e w7 ⟨rfl, hb7⟩; have S7 := Lib.hid (S6.out.later hb7); have c07 := HC0.out _ S7.out.c; have zc7 := S7.out.c.lt; have z37 := S7.out.b3.lt; have z67 := S7.out.b6.lt; have p37 := S7.out.b3.cell 0; have p67 := S7.out.b6.cell 0; obtain ⟨x07, x17, x27, x37, zX7, -⟩ := vmcells S7.out.r.v; have B7 := Lib.hid (B6'.out.trans (hb7.mono B6'.out.size))) | (go_at_call 34; (with_reducible refine (LK.out _ S7.out.r).mono ?_); rintro e w8 ⟨rfl, rfl⟩)); refine hK.out _ _ (by first | (with_reducible exact Chg.refl _ _) | (with_reducible assumption) | (refine Chg.of_below ?_; with_reducible assumption) | (with_reducible exact (Chg.refl _ _).alloc _) | (with_reducible exact (Chg.refl _ _).drewN _) | (with_reducible exact (Chg.refl _ _).drew) | exact ⟨rfl, rfl, rfl, Nat.le_refl _, fun _ _ _ => rfl⟩ | exact (Chg.refl _ _).setCell (.inl (.inl rfl)) _ | exact (Chg.refl _ _).setCell (.inl (.inr rfl)) _ | exact ((Chg.refl _ _).setCell (.inl (.inl rfl)) _).setCell (.inl (.inl rfl)) _ | exact ((Chg.refl _ _).setCell (.inl (.inr rfl)) _).setCell (.inl (.inr rfl)) _ | exact Chg.drew (Chg.setCell ⟨rfl, rfl, rfl, Nat.le_refl _, fun _ _ _ => rfl⟩ (.inl (.inl rfl)) _) | exact Chg.drew (Chg.setCell ⟨rfl, rfl, rfl, Nat.le_refl _, fun _ _ _ => rfl⟩ (.inl (.inr rfl)) _)) ?_; clear hK K)
        try simp only [Act.put, List.setIfInBounds_toArray, List.set_cons_zero, List.set_cons_succ]
        first
          | (refine seq_skip (by simp only [List.getElem?_toArray, List.getElem?_cons_succ, List.getElem?_cons_zero]; rfl) (by rfl) ?_)
          | (refine seq_do (by simp only [List.getElem?_toArray, List.getElem?_cons_succ, List.getElem?_cons_zero]; rfl) (by rfl) (fun K hK => ?_); go_wp2_with (first | (go_at_call 33; (with_reducible refine (LF.out _ (S5.out.later (Below.refl _ _).drew).e).mono ?_); rintro e w6 ⟨rfl, hb6⟩; have S6 := Lib.hid ((S5.out.later (Below.refl _ _).drew).later hb6); have c06 := HC0.out _ S6.out.c; have zc6 := S6.out.c.lt; have z36 := S6.out.b3.lt; have z66 := S6.out.b6.lt; have p36 := S6.out.b3.cell 0; have p66 := S6.out.b6.cell 0; obtain ⟨x06, x16, x26, x36, zX6, -⟩ := vmcells S6.out.r.v; have B6' := Lib.hid (B5.out.trans ((Below.undrew hb6).mono B5.out.size))) | (go_at_call 22; (with_reducible refine (AM.out _ S6.out.e.m).mono ?_); rintro e w7 ⟨rfl, hb7⟩; have S7 := Lib.hid (S6.out.later hb7); have c07 := HC0.out _ S7.out.c; have zc7 := S7.out.c.lt; have z37 := S7.out.b3.lt; have z67 := S7.out.b6.lt; have p37 := S7.out.b3.cell 0; have p67 := S7.out.b6.cell 0; obtain ⟨x07, x17, x27, x37, zX7, -⟩ := vmcells S7.out.r.v; have B7 := Lib.hid (B6'.out.trans (hb7.mono B6'.out.size))) | (go_at_call 34; (with_reducible refine (LK.out _ S7.out.r).mono ?_); rintro e w8 ⟨rfl, rfl⟩)); refine hK.out _ _ (by first | (with_reducible exact Chg.refl _ _) | (with_reducible assumption) | (refine Chg.of_below ?_; with_reducible assumption) | (with_reducible exact (Chg.refl _ _).alloc _) | (with_reducible exact (Chg.refl _ _).drewN _) | (with_reducible exact (Chg.refl _ _).drew) | exact ⟨rfl, rfl, rfl, Nat.le_refl _, fun _ _ _ => rfl⟩ | exact (Chg.refl _ _).setCell (.inl (.inl rfl)) _ | exact (Chg.refl _ _).setCell (.inl (.inr rfl)) _ | exact ((Chg.refl _ _).setCell (.inl (.inl rfl)) _).setCell (.inl (.inl rfl)) _ | exact ((Chg.refl _ _).setCell (.inl (.inr rfl)) _).setCell (.inl (.inr rfl)) _ | exact Chg.drew (Chg.setCell ⟨rfl, rfl, rfl, Nat.le_refl _, fun _ _ _ => rfl⟩ (.inl (.inl rfl)) _) | exact Chg.drew (Chg.setCell ⟨rfl, rfl, rfl, Nat.le_refl _, fun _ _ _ => rfl⟩ (.inl (.inr rfl)) _)) ?_; clear hK K)
        try simp only [Act.put, List.setIfInBounds_toArray, List.set_cons_zero, List.set_cons_succ]
        first
          | (refine seq_skip (by simp only [List.getElem?_toArray, List.getElem?_cons_succ, List.getElem?_cons_zero]; rfl) (by rfl) ?_)
          | (refine seq_calc (by simp only [List.getElem?_toArray, List.getElem?_cons_succ, List.getElem?_cons_zero]; rfl) (by rfl) (fun u => by go_simp <;> with_reducible rfl) ?_)
        try simp only [Act.put, List.setIfInBounds_toArray, List.set_cons_zero, List.set_cons_succ]
        first
          | (refine seq_skip (by simp only [List.getElem?_toArray, List.getElem?_cons_succ, List.getElem?_cons_zero]; rfl) (by rfl) ?_)
          | (refine seq_calc (by simp only [List.getElem?_toArray, List.getElem?_cons_succ, List.getElem?_cons_zero]; rfl) (by rfl) (fun u => by go_simp <;> with_reducible rfl) ?_)
        try simp only [Act.put, List.setIfInBounds_toArray, List.set_cons_zero, List.set_cons_succ]
        refine seq_calc (by simp only [List.getElem?_toArray, List.getElem?_cons_succ, List.getElem?_cons_zero]; rfl) (by rfl) (fun u => by go_simp <;> with_reducible rfl) ?_
        try simp only [Act.put, List.setIfInBounds_toArray, List.set_cons_zero, List.set_cons_succ]
        refine seq_nil ?_
        obtain ⟨ga', gcap, gcur, ega, hgab, hga, hgac⟩ := row_ptrs S7.out.a (by omega)
        cases ega
        have hcapA : k + 1 ≤ acap := by
          rcases S7.out.a.2 with ⟨e, -⟩ | ⟨g9, cap9, cur9, e, -, -, hle, -⟩
          · cases e
          · have := (Value.slice.inj e).2.2; omega
        have hk1 : 1 ≤ k := by omega
        have hsl := fun w => slice_from1 ga k acap hcapA hk1 w
        clear hcapA hga hgac hgab
        go_wp2
        have zga := Lib.hid (show ∀ w', ES w' V G5 cap5 k X gt tcap M w0.heap.size B3 B6 b2 p0 pt d nx' T' U' Lc' mt' cs (.slice (some ⟨ga, 0, none⟩) (k + 1) acap) E w0 → ga < w'.heap.size ∧ ∀ i, i < k + 1 → w'.cell? ⟨ga, i, none⟩ = some (.pointer (some ⟨allB p0 pt i, 0, none⟩)) from fun w' h => by
          obtain ⟨g9, c9, u9, e9, h91, h92, h93⟩ := row_ptrs h.a (by omega)
          cases e9
          exact ⟨h92.lt, h93⟩)
        go_loopw [79] (fun v79 w9 => ∃ s : Nat, s ≤ k ∧ v79 = .int .i64 (s : Int) ∧ Below w8.heap.size w8 w9) (fun v79 _ => k - (intOf v79).toNat)
        case atStart => exact ⟨0, Nat.zero_le _, rfl, Below.refl _ _⟩
        case round =>
          obtain ⟨s, hs, rfl, hB9⟩ := hrel
          obtain ⟨wA, hwA⟩ : ∃ wA, wA = wr := ⟨_, rfl⟩
          subst hwA
          have SA := Lib.hid (S7.out.later hB9)
          have BA := Lib.hid hB9
          clear hB9 c07 zc7 z37 z67 p37 p67 x07 x17 x27 x37 zX7
          have c0 := HC0.out _ SA.out.c
          have zc := SA.out.c.lt
          obtain ⟨x0, x1, x2, x3, zX, -⟩ := vmcells SA.out.r.v
          by_cases hlt2 : s < k
          · have hlt2I : (s : Int) < (k : Int) := by omega
            obtain ⟨zg, hgc⟩ := zga.out _ SA.out
            have gs := hgc (1 + s) (by omega)
            rw [show allB p0 pt (1 + s) = (pt s).B by rw [Nat.add_comm]; rfl] at gs
            have l0 := SA.out.r.v.l s hlt2
            have zgt := SA.out.r.v.lt
            have hUg := (SA.out.e.u s hlt2).good
            have TX := Lib.hid (fun (w' : World) (h : ES w' V G5 cap5 k X gt tcap M w0.heap.size B3 B6 b2 p0 pt d nx' T' U' Lc' mt' cs (.slice (some ⟨ga, 0, none⟩) (k + 1) acap) E w0) => TMW.text (h.e.u s hlt2))
            have DX := Lib.hid (fun (w' : World) (h : ES w' V G5 cap5 k X gt tcap M w0.heap.size B3 B6 b2 p0 pt d nx' T' U' Lc' mt' cs (.slice (some ⟨ga, 0, none⟩) (k + 1) acap) E w0) => DX.text (h.r.t s hlt2))
            have ST := Lib.hid (fun (v1 v2 : Value) (w' : World) h1 h2 => sameTexts_any v1 v2 (U' s).texts w' h1 h2 (by rw [TabS.texts_len]; have := hUg.bounds; omega))
            clear hgc hUg
            go_upto_region 22 with (fail)
            refine wp_region_seq (fun _ => False) #[⟨0, 0, 19342813113834066795298816, 8192, 0⟩, ⟨1, 1, 38685626227668133590597632, 19342813113834066795298816, 2⟩, ⟨0, 0, 77371252455336267181195264, 32, 0⟩, ⟨4, 4, 154742504910672534362390528, 77371252455336267181195264, 0⟩, ⟨8, 12, 309485009821345068724781056, 154742504910672534362390528, 0⟩, ⟨16, 28, 618970019642690137449562112, 309485009821345068724781056, 1⟩, ⟨0, 0, 1237940039285380274899124224, 4096, 0⟩, ⟨96, 124, 2475880078570760549798248448, 1856910058928070412348686336, 0⟩, ⟨128, 252, 4951760157141521099596496896, 2475880078570760549798248448, 1⟩, ⟨258, 511, 9903520314283042199192993792, 4951760157141521099596496896, 3⟩, ⟨514, 1023, 19807040628566084398385987584, 9942205940510710332783591424, 3⟩, ⟨1024, 2047, 39614081257132168796771975168, 19807040628566084398385987584, 0⟩] 288 [(0, 0), (2, 0), (3, 0), (4, 0), (5, 1), (6, 0), (7, 0), (8, 1), (1, 2), (9, 3), (10, 3), (11, 0)] (by kernel_rfl) (by kernel_rfl) (by kernel_rfl) (by kernel_rfl) (by kernel_rfl) (by kernel_rfl) (fun c a d v w h => by cases d <;> exact h) ?_
            refine seq_calc (by simp only [List.getElem?_toArray, List.getElem?_cons_succ, List.getElem?_cons_zero]; rfl) (by rfl) (fun u => by go_simp <;> with_reducible rfl) ?_
            try simp only [Act.put, List.setIfInBounds_toArray, List.set_cons_zero, List.set_cons_succ]
            refine seq_calc (by simp only [List.getElem?_toArray, List.getElem?_cons_succ, List.getElem?_cons_zero]; rfl) (by rfl) (fun u => by go_simp <;> with_reducible rfl) ?_
            try simp only [Act.put, List.setIfInBounds_toArray, List.set_cons_zero, List.set_cons_succ]
            refine seq_calc (by simp only [List.getElem?_toArray, List.getElem?_cons_succ, List.getElem?_cons_zero]; rfl) (by rfl) (fun u => by go_simp <;> with_reducible rfl) ?_
            try simp only [Act.put, List.setIfInBounds_toArray, List.set_cons_zero, List.set_cons_succ]
            refine seq_calc (by simp only [List.getElem?_toArray, List.getElem?_cons_succ, List.getElem?_cons_zero]; rfl) (by rfl) (fun u => by go_simp <;> with_reducible rfl) ?_
            try simp only [Act.put, List.setIfInBounds_toArray, List.set_cons_zero, List.set_cons_succ]
            refine seq_load1 (by simp only [List.getElem?_toArray, List.getElem?_cons_succ, List.getElem?_cons_zero]; rfl) (by rfl) rfl rfl Tryz.underlying72 rfl (by go_simp <;> with_reducible rfl) (by first | exact id | assumption | (simp; done) | (simp; omega)) ?_
            try simp only [Act.put, List.setIfInBounds_toArray, List.set_cons_zero, List.set_cons_succ]
            refine seq_calc (by simp only [List.getElem?_toArray, List.getElem?_cons_succ, List.getElem?_cons_zero]; rfl) (by rfl) (fun u => by go_simp <;> with_reducible rfl) ?_
            try simp only [Act.put, List.setIfInBounds_toArray, List.set_cons_zero, List.set_cons_succ]
            refine seq_calc (by simp only [List.getElem?_toArray, List.getElem?_cons_succ, List.getElem?_cons_zero]; rfl) (by rfl) (fun u => by go_simp <;> with_reducible rfl) ?_
            try simp only [Act.put, List.setIfInBounds_toArray, List.set_cons_zero, List.set_cons_succ]
            refine seq_load1 (by simp only [List.getElem?_toArray, List.getElem?_cons_succ, List.getElem?_cons_zero]; rfl) (by rfl) rfl rfl Tryz.underlying30 rfl (by go_simp <;> with_reducible rfl) (by first | exact id | assumption | (simp; done) | (simp; omega)) ?_
            try simp only [Act.put, List.setIfInBounds_toArray, List.set_cons_zero, List.set_cons_succ]
            refine seq_do (by simp only [List.getElem?_toArray, List.getElem?_cons_succ, List.getElem?_cons_zero]; rfl) (by rfl) (fun K hK => ?_); go_wp2_with (first | (go_at_call 24; (with_reducible refine (TX.out _ (SA.out.later (Below.refl _ _).drew)).mono ?_); rintro e wB ⟨tv, rfl, ht, hbB⟩; have SB := Lib.hid ((SA.out.later (Below.refl _ _).drew).later hbB); have BB := Lib.hid (BA.out.trans ((Below.undrew hbB).mono BA.out.size)); have TB := Lib.hid ht; obtain ⟨y0, y1, y2, y3, zY, -⟩ := vmcells SB.out.r.v; have l1 := SB.out.r.v.l s hlt2; have zgt1 := SB.out.r.v.lt; clear ht) | (go_at_call 25; (with_reducible refine (DX.out _ SB.out).mono ?_); rintro e wC ⟨dv, rfl, hd, hbC⟩; have BC := Lib.hid (BB.out.trans (hbC.mono BB.out.size)); have TC := Lib.hid (TB.out.later hbC); have DC := Lib.hid hd; clear hd) | (go_at_call 23; (with_reducible refine (ST.out _ _ _ TC.out DC.out).mono ?_); rintro e w' ⟨rfl, rfl⟩)); refine hK.out _ _ (by first | (with_reducible exact Chg.refl _ _) | (with_reducible assumption) | (refine Chg.of_below ?_; with_reducible assumption) | (with_reducible exact (Chg.refl _ _).alloc _) | (with_reducible exact (Chg.refl _ _).drewN _) | (with_reducible exact (Chg.refl _ _).drew) | exact ⟨rfl, rfl, rfl, Nat.le_refl _, fun _ _ _ => rfl⟩ | exact (Chg.refl _ _).setCell (.inl (.inl rfl)) _ | exact (Chg.refl _ _).setCell (.inl (.inr rfl)) _ | exact ((Chg.refl _ _).setCell (.inl (.inl rfl)) _).setCell (.inl (.inl rfl)) _ | exact ((Chg.refl _ _).setCell (.inl (.inr rfl)) _).setCell (.inl (.inr rfl)) _ | exact Chg.drew (Chg.setCell ⟨rfl, rfl, rfl, Nat.le_refl _, fun _ _ _ => rfl⟩ (.inl (.inl rfl)) _) | exact Chg.drew (Chg.setCell ⟨rfl, rfl, rfl, Nat.le_refl _, fun _ _ _ => rfl⟩ (.inl (.inr rfl)) _)) ?_; clear hK K
            try simp only [Act.put, List.setIfInBounds_toArray, List.set_cons_zero, List.set_cons_succ]
            refine seq_last (by simp only [List.getElem?_toArray, List.getElem?_cons_succ, List.getElem?_cons_zero]; rfl) (by rfl) (fun K hK => ?_); go_wp2_with (first | (go_at_call 24; (with_reducible refine (TX.out _ (SA.out.later (Below.refl _ _).drew)).mono ?_); rintro e wB ⟨tv, rfl, ht, hbB⟩; have SB := Lib.hid ((SA.out.later (Below.refl _ _).drew).later hbB); have BB := Lib.hid (BA.out.trans ((Below.undrew hbB).mono BA.out.size)); have TB := Lib.hid ht; obtain ⟨y0, y1, y2, y3, zY, -⟩ := vmcells SB.out.r.v; have l1 := SB.out.r.v.l s hlt2; have zgt1 := SB.out.r.v.lt; clear ht) | (go_at_call 25; (with_reducible refine (DX.out _ SB.out).mono ?_); rintro e wC ⟨dv, rfl, hd, hbC⟩; have BC := Lib.hid (BB.out.trans (hbC.mono BB.out.size)); have TC := Lib.hid (TB.out.later hbC); have DC := Lib.hid hd; clear hd) | (go_at_call 23; (with_reducible refine (ST.out _ _ _ TC.out DC.out).mono ?_); rintro e w' ⟨rfl, rfl⟩)); refine hK.out _ _ ?_; clear hK K
            try simp only [Act.put, List.setIfInBounds_toArray, List.set_cons_zero, List.set_cons_succ]
            refine seq_last (by simp only [List.getElem?_toArray, List.getElem?_cons_succ, List.getElem?_cons_zero]; rfl) (by rfl) (fun K hK => ?_); go_wp2_with (first | (go_at_call 24; (with_reducible refine (TX.out _ (SA.out.later (Below.refl _ _).drew)).mono ?_); rintro e wB ⟨tv, rfl, ht, hbB⟩; have SB := Lib.hid ((SA.out.later (Below.refl _ _).drew).later hbB); have BB := Lib.hid (BA.out.trans ((Below.undrew hbB).mono BA.out.size)); have TB := Lib.hid ht; obtain ⟨y0, y1, y2, y3, zY, -⟩ := vmcells SB.out.r.v; have l1 := SB.out.r.v.l s hlt2; have zgt1 := SB.out.r.v.lt; clear ht) | (go_at_call 25; (with_reducible refine (DX.out _ SB.out).mono ?_); rintro e wC ⟨dv, rfl, hd, hbC⟩; have BC := Lib.hid (BB.out.trans (hbC.mono BB.out.size)); have TC := Lib.hid (TB.out.later hbC); have DC := Lib.hid hd; clear hd) | (go_at_call 23; (with_reducible refine (ST.out _ _ _ TC.out DC.out).mono ?_); rintro e w' ⟨rfl, rfl⟩)); refine hK.out _ _ ?_; clear hK K
            try simp only [Act.put, List.setIfInBounds_toArray, List.set_cons_zero, List.set_cons_succ]
            refine seq_calc (by simp only [List.getElem?_toArray, List.getElem?_cons_succ, List.getElem?_cons_zero]; rfl) (by rfl) (fun u => by go_simp <;> with_reducible rfl) ?_
            try simp only [Act.put, List.setIfInBounds_toArray, List.set_cons_zero, List.set_cons_succ]
            refine seq_nil ?_
            go_wp2
            go_roundw
            case rel => exact ⟨s + 1, by omega, by go_num, BC.out⟩
            case measure => simp [intOf]; omega
          · obtain rfl : s = k := by omega
            obtain ⟨zg, hgc⟩ := zga.out _ SA.out
            have gs := (show wA.cell? ⟨ga, 0, none⟩ = some (.pointer (some ⟨p0.B, 0, none⟩)) from hgc 0 (by omega))
            have hTg := SA.out.e.t.good
            have TX := Lib.hid (fun (w' : World) (h : ES w' V G5 cap5 s X gt tcap M w0.heap.size B3 B6 b2 p0 pt d nx' T' U' Lc' mt' cs (.slice (some ⟨ga, 0, none⟩) (s + 1) acap) E w0) => TMW.text h.e.t)
            have DX := Lib.hid (fun (w' : World) (h : ES w' V G5 cap5 s X gt tcap M w0.heap.size B3 B6 b2 p0 pt d nx' T' U' Lc' mt' cs (.slice (some ⟨ga, 0, none⟩) (s + 1) acap) E w0) => DX.text h.r.o)
            have ST := Lib.hid (fun (v1 v2 : Value) (w' : World) h1 h2 => sameTexts_any v1 v2 T'.texts w' h1 h2 (by rw [TabS.texts_len]; have := hTg.bounds; omega))
            clear hgc hTg
            go_upto_region 25 with (fail)
            refine wp_region_seq (fun _ => False) #[⟨0, 0, 158456325028528675187087900672, 16, 0⟩, ⟨1, 1, 316912650057057350374175801344, 158456325028528675187087900672, 0⟩, ⟨2, 3, 633825300114114700748351602688, 316912650057057350374175801344, 1⟩, ⟨4, 7, 1267650600228229401496703205376, 633825300114114700748351602688, 2⟩, ⟨0, 0, 2535301200456458802993406410752, 32, 0⟩, ⟨16, 16, 5070602400912917605986812821504, 2535301200456458802993406410752, 0⟩, ⟨32, 48, 10141204801825835211973625643008, 5070602400912917605986812821504, 0⟩, ⟨64, 112, 20282409603651670423947251286016, 10141204801825835211973625643008, 1⟩, ⟨136, 255, 40564819207303340847894502572032, 20282409603651670423947251286016, 3⟩, ⟨264, 511, 81129638414606681695789005144064, 41832469807531570249391205777408, 3⟩, ⟨512, 1023, 162259276829213363391578010288128, 81129638414606681695789005144064, 0⟩] 132 [(0, 0), (1, 0), (2, 1), (4, 0), (5, 0), (6, 0), (7, 1), (3, 2), (8, 3), (9, 3), (10, 0)] (by kernel_rfl) (by kernel_rfl) (by kernel_rfl) (by kernel_rfl) (by kernel_rfl) (by kernel_rfl) (fun c a d v w h => by cases d <;> exact h) ?_
            refine seq_calc (by simp only [List.getElem?_toArray, List.getElem?_cons_succ, List.getElem?_cons_zero]; rfl) (by rfl) (fun u => by go_simp <;> with_reducible rfl) ?_
            try simp only [Act.put, List.setIfInBounds_toArray, List.set_cons_zero, List.set_cons_succ]
            refine seq_calc (by simp only [List.getElem?_toArray, List.getElem?_cons_succ, List.getElem?_cons_zero]; rfl) (by rfl) (fun u => by go_simp <;> with_reducible rfl) ?_
            try simp only [Act.put, List.setIfInBounds_toArray, List.set_cons_zero, List.set_cons_succ]
            refine seq_load1 (by simp only [List.getElem?_toArray, List.getElem?_cons_succ, List.getElem?_cons_zero]; rfl) (by rfl) rfl rfl Tryz.underlying25 rfl (by go_simp <;> with_reducible rfl) (by first | exact id | assumption | (simp; done) | (simp; omega)) ?_
            try simp only [Act.put, List.setIfInBounds_toArray, List.set_cons_zero, List.set_cons_succ]
            refine seq_calc (by simp only [List.getElem?_toArray, List.getElem?_cons_succ, List.getElem?_cons_zero]; rfl) (by rfl) (fun u => by go_simp <;> with_reducible rfl) ?_
            try simp only [Act.put, List.setIfInBounds_toArray, List.set_cons_zero, List.set_cons_succ]
            refine seq_calc (by simp only [List.getElem?_toArray, List.getElem?_cons_succ, List.getElem?_cons_zero]; rfl) (by rfl) (fun u => by go_simp <;> with_reducible rfl) ?_
            try simp only [Act.put, List.setIfInBounds_toArray, List.set_cons_zero, List.set_cons_succ]
            refine seq_calc (by simp only [List.getElem?_toArray, List.getElem?_cons_succ, List.getElem?_cons_zero]; rfl) (by rfl) (fun u => by go_simp <;> with_reducible rfl) ?_
            try simp only [Act.put, List.setIfInBounds_toArray, List.set_cons_zero, List.set_cons_succ]
            refine seq_load1 (by simp only [List.getElem?_toArray, List.getElem?_cons_succ, List.getElem?_cons_zero]; rfl) (by rfl) rfl rfl Tryz.underlying30 rfl (by go_simp <;> with_reducible rfl) (by first | exact id | assumption | (simp; done) | (simp; omega)) ?_
            try simp only [Act.put, List.setIfInBounds_toArray, List.set_cons_zero, List.set_cons_succ]
            refine seq_do (by simp only [List.getElem?_toArray, List.getElem?_cons_succ, List.getElem?_cons_zero]; rfl) (by rfl) (fun K hK => ?_); go_wp2_with (first | (go_at_call 24; (with_reducible refine (TX.out _ (SA.out.later (Below.refl _ _).drew)).mono ?_); rintro e wB ⟨tv, rfl, ht, hbB⟩; have SB := Lib.hid ((SA.out.later (Below.refl _ _).drew).later hbB); have BB := Lib.hid (BA.out.trans ((Below.undrew hbB).mono BA.out.size)); have TB := Lib.hid ht; obtain ⟨y0, y1, y2, y3, zY, -⟩ := vmcells SB.out.r.v; clear ht) | (go_at_call 25; (with_reducible refine (DX.out _ SB.out).mono ?_); rintro e wC ⟨dv, rfl, hd, hbC⟩; have SC := Lib.hid (SB.out.later hbC); have BC := Lib.hid (BB.out.trans (hbC.mono BB.out.size)); have TC := Lib.hid (TB.out.later hbC); have DC := Lib.hid hd; clear hd) | (go_at_call 23; (with_reducible refine (ST.out _ _ _ TC.out DC.out).mono ?_); rintro e w' ⟨rfl, rfl⟩)); refine hK.out _ _ (by first | (with_reducible exact Chg.refl _ _) | (with_reducible assumption) | (refine Chg.of_below ?_; with_reducible assumption) | (with_reducible exact (Chg.refl _ _).alloc _) | (with_reducible exact (Chg.refl _ _).drewN _) | (with_reducible exact (Chg.refl _ _).drew) | exact ⟨rfl, rfl, rfl, Nat.le_refl _, fun _ _ _ => rfl⟩ | exact (Chg.refl _ _).setCell (.inl (.inl rfl)) _ | exact (Chg.refl _ _).setCell (.inl (.inr rfl)) _ | exact ((Chg.refl _ _).setCell (.inl (.inl rfl)) _).setCell (.inl (.inl rfl)) _ | exact ((Chg.refl _ _).setCell (.inl (.inr rfl)) _).setCell (.inl (.inr rfl)) _ | exact Chg.drew (Chg.setCell ⟨rfl, rfl, rfl, Nat.le_refl _, fun _ _ _ => rfl⟩ (.inl (.inl rfl)) _) | exact Chg.drew (Chg.setCell ⟨rfl, rfl, rfl, Nat.le_refl _, fun _ _ _ => rfl⟩ (.inl (.inr rfl)) _)) ?_; clear hK K
            try simp only [Act.put, List.setIfInBounds_toArray, List.set_cons_zero, List.set_cons_succ]
            refine seq_last (by simp only [List.getElem?_toArray, List.getElem?_cons_succ, List.getElem?_cons_zero]; rfl) (by rfl) (fun K hK => ?_); go_wp2_with (first | (go_at_call 24; (with_reducible refine (TX.out _ (SA.out.later (Below.refl _ _).drew)).mono ?_); rintro e wB ⟨tv, rfl, ht, hbB⟩; have SB := Lib.hid ((SA.out.later (Below.refl _ _).drew).later hbB); have BB := Lib.hid (BA.out.trans ((Below.undrew hbB).mono BA.out.size)); have TB := Lib.hid ht; obtain ⟨y0, y1, y2, y3, zY, -⟩ := vmcells SB.out.r.v; clear ht) | (go_at_call 25; (with_reducible refine (DX.out _ SB.out).mono ?_); rintro e wC ⟨dv, rfl, hd, hbC⟩; have SC := Lib.hid (SB.out.later hbC); have BC := Lib.hid (BB.out.trans (hbC.mono BB.out.size)); have TC := Lib.hid (TB.out.later hbC); have DC := Lib.hid hd; clear hd) | (go_at_call 23; (with_reducible refine (ST.out _ _ _ TC.out DC.out).mono ?_); rintro e w' ⟨rfl, rfl⟩)); refine hK.out _ _ ?_; clear hK K
            try simp only [Act.put, List.setIfInBounds_toArray, List.set_cons_zero, List.set_cons_succ]
            refine seq_last (by simp only [List.getElem?_toArray, List.getElem?_cons_succ, List.getElem?_cons_zero]; rfl) (by rfl) (fun K hK => ?_); go_wp2_with (first | (go_at_call 24; (with_reducible refine (TX.out _ (SA.out.later (Below.refl _ _).drew)).mono ?_); rintro e wB ⟨tv, rfl, ht, hbB⟩; have SB := Lib.hid ((SA.out.later (Below.refl _ _).drew).later hbB); have BB := Lib.hid (BA.out.trans ((Below.undrew hbB).mono BA.out.size)); have TB := Lib.hid ht; obtain ⟨y0, y1, y2, y3, zY, -⟩ := vmcells SB.out.r.v; clear ht) | (go_at_call 25; (with_reducible refine (DX.out _ SB.out).mono ?_); rintro e wC ⟨dv, rfl, hd, hbC⟩; have SC := Lib.hid (SB.out.later hbC); have BC := Lib.hid (BB.out.trans (hbC.mono BB.out.size)); have TC := Lib.hid (TB.out.later hbC); have DC := Lib.hid hd; clear hd) | (go_at_call 23; (with_reducible refine (ST.out _ _ _ TC.out DC.out).mono ?_); rintro e w' ⟨rfl, rfl⟩)); refine hK.out _ _ ?_; clear hK K
            try simp only [Act.put, List.setIfInBounds_toArray, List.set_cons_zero, List.set_cons_succ]
            refine seq_calc (by simp only [List.getElem?_toArray, List.getElem?_cons_succ, List.getElem?_cons_zero]; rfl) (by rfl) (fun u => by go_simp <;> with_reducible rfl) ?_
            try simp only [Act.put, List.setIfInBounds_toArray, List.set_cons_zero, List.set_cons_succ]
            refine seq_nil ?_
            go_wp2
            go_roundw
            case rel => exact ⟨nx + 1, nx', T', U', Lc', mt', by omega, by go_num, HNX.out, HTN'.out, B7.out.trans (BC.out.mono B7.out.size), SC.out⟩
            case measure => simp [intOf]; omega
    · obtain rfl : j = g + 1 := by omega
      have hltI : ¬ (((g + 1 : Nat) : Int) ≤ (g : Int)) := by omega
      have dlt : decide (((g + 1 : Nat) : Int) ≤ (g : Int)) = false := by simpa using hltI
      go_wp2
      go_ret
      exact ⟨rfl, KB.out⟩
end Go.Proofs.YtgamgphfjndiiaaGreatDoor
