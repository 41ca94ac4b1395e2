/- Texts joined: Ref10 Ref10L. No condition but those that stand within. -/
import Derived.Test.YtgamgphfjndiiaaGreatDoorPkSwar
import Derived.Test.YtgamgphfjndiiaaGreatDoorPkMeter
import Derived.Test.YtgamgphfjndiiaaGreatDoorPkErrs
import Derived.Test.YtgamgphfjndiiaaGreatDoorPkGroup
import Derived.Test.YtgamgphfjndiiaaGreatDoorPkTab
import Derived.Test.YtgamgphfjndiiaaGreatDoorPkTab2
import Derived.Test.YtgamgphfjndiiaaGreatDoorPkTab3
import Derived.Test.YtgamgphfjndiiaaGreatDoorPkTake
import Derived.Test.YtgamgphfjndiiaaGreatDoorPkTabM
import Derived.Test.YtgamgphfjndiiaaGreatDoorPkEvac
import Derived.Test.YtgamgphfjndiiaaGreatDoorPkSound
import Derived.Test.YtgamgphfjndiiaaGreatDoorPkRef09
import Derived.Test.YtgamgphfjndiiaaGreatDoorPkEvac2
import Derived.Test.YtgamgphfjndiiaaGreatDoorPkEvac3
import Derived.Test.YtgamgphfjndiiaaGreatDoorPkSound2
set_option linter.unusedVariables false
set_option linter.unusedSimpArgs false
namespace Go.Proofs.YtgamgphfjndiiaaGreatDoor
open Go.RowKit Go.Proofs
attribute [local go_sem] neq_nilG eql_nilG
theorem row_block {w : World} {base n : Nat} {v : Value} {xs : List Int} (h : w.ownsRow base 3 1 v n (xs.map (Value.int .i64))) (h1 : 1 ≤ n) :
    ∃ g cap c, v = .slice (some ⟨g, 0, none⟩) n cap ∧ base ≤ g ∧ Blk w g 3 c ∧ ∀ i (hi : i < xs.length), c[i]? = some (.int .i64 xs[i]) := by
  have hl : xs.length = n := by have := h.1; simpa using this
  rcases h.2 with ⟨rfl, h0⟩ | ⟨g, cap, cur, rfl, hb, hg, hc, h2, h3, h4⟩
  · omega
  · refine ⟨g, cap, cur, rfl, hb, hg, fun i hi => ?_⟩
    have e : (cur.toList.take (n * 1))[i]? = (xs.map (Value.int .i64))[i]? := by rw [h4]
    rw [List.getElem?_take, if_pos (by omega), Array.getElem?_toList] at e
    rw [e]; simp [hi]
section
variable {w : World} {lo hi D P cap : Nat} {GB : Nat → Nat} {T : TabS} {L : Int}
set_option maxRecDepth 100000 in
set_option maxHeartbeats 4000000 in
theorem dtpath_any (hd : DT w lo hi D P cap GB T L) (h : Nat) (hh : h < 18446744073709551616) :
    Calls Tryz.prog 44 #[.pointer (some ⟨D, 0, none⟩), .int .u64 (h : Int)] w fun e w' => ∃ v, e = .returned v ∧ w'.ownsRow w.heap.size 3 1 v (T.pl h) ((List.range (T.pl h)).map (encI (T.wkI h))) ∧ Below w.heap.size w w' := by
  obtain ⟨i0, hi0, hz0, hz1, hz2⟩ := info_parts infoInt
  have hbd := hd.good.bounds
  have hr := hd.good.right
  have HD := Lib.hid hd
  obtain ⟨c0, -, zD, -⟩ := dcells hd
  have e128 : (h : Int) / 128 = ((h / 128 : Nat) : Int) := by omega
  have h128 : h / 128 < 18446744073709551616 := by omega
  have hoN : ordN (T.n : Int) = T.n := by unfold ordN; rw [if_pos hr]; simp
  obtain ⟨ords, hoL, hoG, hO⟩ : ∃ ords : List Int, ords.length = T.n ∧ (∀ i (hi : i < ords.length), ords[i] = ((T.wk h i : Nat) : Int)) ∧ (∀ w', Calls Tryz.prog 85 #[.int .u64 ((h / 128 : Nat) : Int), .int .i64 (T.n : Int)] w' fun e w'' => ∃ v, e = .returned v ∧ w''.ownsRow w'.heap.size 3 1 v T.n (ords.map (Value.int .i64)) ∧ Below w'.heap.size w' w'') :=
    ⟨ordL (h / 128) (T.n : Int), (ordL_length _ _).trans hoN, fun i hi => by rw [ordL_get]; unfold TabS.wk; rw [Int.toNat_natCast], fun w' => by have := refOrder_any (h / 128) (T.n : Int) h128 w'; rw [hoN] at this; exact this⟩
  have OR := Lib.hid hO
  have HWL := Lib.hid (show ∀ i, T.wk h i < T.n from fun i => walkAt_lt (h / 128) T.n i (by omega))
  have HS := Lib.hid (encI_snoc (T.wkI h))
  have PS := Lib.hid (fun (i : Nat) (hi : i < T.n) (hm : ∀ j, j < i → openB (T.M (T.wk h j)) = false) (hs : openB (T.M (T.wk h i)) = true) => pl_stop (T := T) hi hm hs)
  have PE := Lib.hid (fun (hm : ∀ j, j < T.n → openB (T.M (T.wk h j)) = false) => pl_end (T := T) (h := h) (by omega) hm)
  obtain ⟨n, hnn⟩ : ∃ n, n = T.n := ⟨_, rfl⟩
  rw [← hnn] at c0 hbd OR HWL PS PE hoL
  have HN := Lib.hid hnn
  obtain ⟨u, hu⟩ : ∃ u, u = h / 128 := ⟨_, rfl⟩
  rw [← hu] at e128 OR
  have HOG := Lib.hid hoG
  have hn1 : 1 ≤ n := by omega
  have hn64 : n ≤ 64 := by omega
  clear hd hu h128 hoN hoG hO hr hnn hbd
  go_enter Tryz.func44, Tryz.ntmps44
  go_wp2_with (go_at_call 85; (with_reducible refine (OR.out _).mono ?_); rintro e w1 ⟨av, rfl, hr1, hb1⟩; obtain ⟨og, ocap, oc, rfl, hog1, hog2, hog3⟩ := row_block hr1 hn1; have B1 := Lib.hid hb1; have hsz1 := hb1.size; clear hr1 hb1)
  simp only [World.size_alloc] at hog1 hsz1
  have OC := Lib.hid hog3
  clear hog3 c0
  go_loopw [18, 5] (fun v18 v5 wr => ∃ k : Nat, k ≤ n ∧ v18 = .int .i64 (k : Int) ∧ wr.ownsRow w.heap.size 3 1 v5 k ((List.range k).map (encI (T.wkI h))) ∧ v5.ownBlock ≠ some og ∧ Blk wr og 3 oc ∧ Below w.heap.size w wr ∧ ∀ j, j < k → openB (T.M (T.wk h j)) = false) (fun v18 _ _ => n - (intOf v18).toNat)
  case atStart =>
    have hB0 : Below w.heap.size w w1 := (show Below w.heap.size w _ from (Below.refl _ _).alloc (Nat.le_refl _) _).trans (B1.out.mono (by simp))
    exact ⟨0, by omega, rfl, ⟨rfl, .inr ⟨w.heap.size, 0, #[], rfl, Nat.le_refl _, Blk.below (Blk.new _ _ _) B1.out (by simp), by simp, by decide, rfl, by simp⟩⟩, by simp [Value.ownBlock]; omega, hog2, hB0, fun j hj => by omega⟩
  case round =>
    obtain ⟨k, hk, rfl, hrow, hne, hog, hB, hcl⟩ := hrel
    have KR := Lib.hid hrow
    have KN := Lib.hid hne
    have KO := Lib.hid hog
    have KB := Lib.hid hB
    have KC := Lib.hid hcl
    obtain ⟨a5, cap5, rfl⟩ := ownsRow_slice hrow
    have hzB := hB.size
    have zog := hog.lt
    clear hrow hne hog hB hcl hog2
    by_cases hlt : k < n
    · have hltI : (k : Int) < (n : Int) := by omega
      have o0 := KO.out.cell k
      rw [OC.out k (by omega), HOG.out k (by omega)] at o0
      have hx := HWL.out k
      have HSN := Lib.hid (HS.out k)
      have PK := Lib.hid (PS.out k (by omega) KC.out)
      have e1 : T.wkI h k = ((T.wk h k : Nat) : Int) := rfl
      have KX := Lib.hid (show openB (T.M (T.wk h k)) = false → ∀ j, j < k + 1 → openB (T.M (T.wk h j)) = false from fun e j hj => by
        by_cases ej : j = k
        · subst ej; exact e
        · exact KC.out j (by omega))
      have HT := Lib.hid (show k < T.n from by have := HN.out; omega)
      have hxT : T.wk h k < T.n := by have := HN.out; omega
      rw [e1] at HSN
      generalize T.wk h k = x at o0 hx HSN PK KX hxT
      have hxI : (x : Int) < (n : Int) := by omega
      have CN := Lib.hid (show ∀ w' : World, DW w' (GB x) (T.M x) (T.S x) → Calls Tryz.prog 70 #[.pointer (some ⟨GB x, 0, none⟩), .int .i64 1] w' fun e w'' => e = .returned (.int .i64 ((countK (T.M x) 1 : Nat) : Int)) ∧ Below w'.heap.size w' w'' from fun w' h' => dcount_any (GB x) (T.M x) 1 (T.S x) w' h')
      have hop := open_count (T.M x)
      generalize countK (T.M x) 1 = c at CN hop
      have hbI : hi ≤ w.heap.size := HD.out.hz
      by_cases hc0 : 0 < c
      · rw [decide_eq_true hc0] at hop
        have hcI : (0 : Int) < (c : Int) := by omega
        have HPL := Lib.hid (PK.out hop)
        clear hop
        go_wp2_with (first
          | (at_builtin; refine wpList_append_own2' rfl _ _ 60 rfl w.heap.size 3 i0 (.int .i64 0) 1 8 Tryz.underlying60 hi0 hz0 hz1 hz2 rfl (by decide) _ _ _ rfl (ownsRow_later KR.out ((Below.refl _ _).alloc (Nat.le_refl _) _)) ⟨wr.heap.size, 0, none⟩ 1 1 [.int .i64 (x : Int)] rfl rfl (cell1_new wr _ _) (by simp [Value.oneCell']) (by unfold maxLen; omega) (by omega) (by simp; omega) (by decide) ?_; intro v4 w4 hown4 hg4 hb4; have R4 := Lib.hid hown4; have B4 := Lib.hid (KB.out.trans (below_append KR.out KB.out.size hg4)); have D4 := Lib.hid (HD.out.later B4.out); clear hown4 hg4 hb4; obtain ⟨d4, -, z4, -⟩ := dcells D4.out; rw [← HN.out] at d4; have p4 := D4.out.ptr x hxT; have zP4 := D4.out.pz)
          | (go_at_call 70; (with_reducible refine (CN.out _ (D4.out.g x hxT)).mono ?_); rintro e w5 ⟨rfl, hb5⟩))
        go_ret
        refine ⟨_, rfl, ?_, B4.out.trans (hb5.mono B4.out.size)⟩
        rw [HPL.out, HSN.out]
        exact ownsRow_later R4.out hb5
      · rw [decide_eq_false hc0] at hop
        obtain rfl : c = 0 := by omega
        have KX2 := Lib.hid (KX.out hop)
        clear hop
        go_wp2_with (first
          | (at_builtin; refine wpList_append_own2' rfl _ _ 60 rfl w.heap.size 3 i0 (.int .i64 0) 1 8 Tryz.underlying60 hi0 hz0 hz1 hz2 rfl (by decide) _ _ _ rfl (ownsRow_later KR.out ((Below.refl _ _).alloc (Nat.le_refl _) _)) ⟨wr.heap.size, 0, none⟩ 1 1 [.int .i64 (x : Int)] rfl rfl (cell1_new wr _ _) (by simp [Value.oneCell']) (by unfold maxLen; omega) (by omega) (by simp; omega) (by decide) ?_; intro v4 w4 hown4 hg4 hb4; have R4 := Lib.hid hown4; have B4 := Lib.hid (KB.out.trans (below_append KR.out KB.out.size hg4)); have D4 := Lib.hid (HD.out.later B4.out); have O4 := Lib.hid (Blk.grown (KO.out.alloc _) hg4 KN.out); have N4 : Hid (v4.ownBlock ≠ some og) := Lib.hid (by rcases hb4 with e | e <;> rw [e] <;> first | exact KN.out | (intro e2; have e3 := Option.some.inj e2; simp at e3; omega)); clear hown4 hg4 hb4; obtain ⟨d4, -, z4, -⟩ := dcells D4.out; rw [← HN.out] at d4; have p4 := D4.out.ptr x hxT; have zP4 := D4.out.pz)
          | (go_at_call 70; (with_reducible refine (CN.out _ (D4.out.g x hxT)).mono ?_); rintro e w5 ⟨rfl, hb5⟩))
        go_roundw
        case rel => exact ⟨k + 1, by omega, by go_num, by rw [HSN.out]; exact ownsRow_later R4.out hb5, N4.out, O4.out.below hb5 O4.out.lt, B4.out.trans (hb5.mono B4.out.size), KX2.out⟩
        case measure => simp [intOf]; omega
    · obtain rfl : k = n := by omega
      have HPL := Lib.hid (PE.out KC.out)
      go_wp2
      go_ret
      refine ⟨_, rfl, ?_, KB.out⟩
      rw [HPL.out]
      exact KR.out
set_option maxRecDepth 100000 in
set_option maxHeartbeats 4000000 in
theorem dtall_any (hd : DT w lo hi D P cap GB T L) :
    Calls Tryz.prog 67 #[.pointer (some ⟨D, 0, none⟩)] w fun e w' => ∃ v, e = .returned v ∧ w'.ownsRow w.heap.size 47 3 v T.ents.length (entV T.ents) ∧ Below w.heap.size w w' := by
  have hbd := hd.good.bounds
  have HD := Lib.hid hd
  have hn : T.n ≤ 64 := hbd.1
  obtain ⟨c0, -, zD, -⟩ := dcells hd
  have HL := Lib.hid (entsTo_len T)
  have HL8 := Lib.hid (fun k => entsL_len (T.M k) (T.S k))
  rw [show T.ents = entsTo' T T.n from rfl]
  obtain ⟨n, hnn⟩ : ∃ n, n = T.n := ⟨_, rfl⟩
  rw [← hnn] at c0 hn ⊢
  have HN := Lib.hid hnn
  clear hd hbd hnn
  go_enter Tryz.func67, Tryz.ntmps67
  go_wp2
  go_loopw [12, 3] (fun v12 v3 wr => ∃ k : Nat, k ≤ n ∧ v12 = .int .i64 (k : Int) ∧ wr.ownsRow w.heap.size 47 3 v3 (entsTo' T k).length (entV (entsTo' T k)) ∧ Below w.heap.size w wr) (fun v12 _ _ => n - (intOf v12).toNat)
  case atStart => exact ⟨0, Nat.zero_le _, rfl, ⟨rfl, .inr ⟨w.heap.size, 0, #[], rfl, Nat.le_refl _, Blk.new _ _ _, by simp [entsTo'], by decide, rfl, by simp [entsTo', entV]⟩⟩, by go_grown⟩
  case round =>
    clear c0
    obtain ⟨k, hk, rfl, hrow, hB⟩ := hrel
    have KR := Lib.hid hrow
    have KB := Lib.hid hB
    obtain ⟨a3, cap3, rfl⟩ := ownsRow_slice hrow
    have hwz := hB.size
    have KD := Lib.hid (HD.out.later hB)
    clear hrow hB
    by_cases hlt : k < n
    · have hltI : (k : Int) < (n : Int) := by omega
      have hkT : k < T.n := by have := HN.out; omega
      have p0 := KD.out.ptr k hkT
      have zP := KD.out.pz
      have TE := Lib.hid (fun (w' : World) (h' : DW w' (GB k) (T.M k) (T.S k)) => dentries_any (GB k) (T.M k) (T.S k) w' h')
      have hl1 := HL.out k
      have hl2 := HL8.out k
      have HE := Lib.hid (entsTo_snoc T k)
      generalize entsTo' T k = l1 at *
      generalize entsL (T.M k) (T.S k) = l2 at *
      go_wp2_with (first
        | (go_at_call 64; (with_reducible refine (TE.out _ (KD.out.g k hkT)).mono ?_); rintro e w3 ⟨v, rfl, hr3, hb3⟩; have C3 := Lib.hid hb3; have R3 := Lib.hid hr3; clear hr3 hb3)
        | (at_builtin; refine wpList_append_ents rfl _ _ rfl w.heap.size _ l1 rfl (ownsRow_later KR.out C3.out) _ wr.heap.size l2 rfl R3.out (by omega) (by have := C3.out.size; omega) ?_; intro v' w4 hown4 hb4 _; have R4 := Lib.hid hown4; have B4 := Lib.hid hb4; clear hown4 hb4))
      go_roundw
      case rel => exact ⟨k + 1, by omega, by go_num, by rw [HE.out]; exact R4.out, (KB.out.trans (C3.out.mono hwz)).trans B4.out⟩
      case measure => simp [intOf]; omega
    · obtain rfl : k = n := by omega
      go_wp2
      go_ret
      exact ⟨_, rfl, KR.out, KB.out⟩
end
end Go.Proofs.YtgamgphfjndiiaaGreatDoor

namespace Go.Proofs.YtgamgphfjndiiaaGreatDoor
open Go.RowKit Go.Proofs
attribute [local go_sem] neq_nilG eql_nilG
section
variable {w : World} {lo hi D P cap : Nat} {GB : Nat → Nat} {T : TabS} {L : Int}
theorem dtcount3 (kd : Nat) (k : Int) (hk : k = (kd : Int)) {w : World} (h : DT w lo hi D P cap GB T L) : Calls Tryz.prog 17 #[.pointer (some ⟨D, 0, none⟩), .int .i64 k] w fun e w' => e = .returned (.int .i64 ((T.cnt kd : Nat) : Int)) ∧ Below w.heap.size w w' := by
  subst hk; exact dtcount_any h kd
set_option maxRecDepth 100000 in
set_option maxHeartbeats 8000000 in
theorem dtlook_any (hd : DT w lo hi D P cap GB T L) (hL : 0 ≤ L ∧ L ≤ 1000000000) :
    Calls Tryz.prog 43 #[.pointer (some ⟨D, 0, none⟩)] w fun e w' => e = .returned (.agg (shp ((T.cnt 3 : Nat) : Int) ((T.cnt 2 : Nat) : Int) ((T.cnt 1 : Nat) : Int) ((T.opens : Nat) : Int) ((maxN T.lk T.ents : Nat) : Int) ((addL T.lk T.ents : Nat) : Int))) ∧ DT w' lo hi D P cap GB T L ∧ Chg (fun b => b = D) w w' := by
  have HD := Lib.hid hd
  have hgood := hd.good
  have hbd := hd.good.bounds
  have hDi := hd.id
  have hiz := hd.hz
  obtain ⟨d0, d1, zD, fD⟩ := dcells hd
  have hn : T.n ≤ 64 := hbd.1
  have N3 := Lib.hid (fun (w' : World) (h' : DT w' lo hi D P cap GB T L) => dtcount3 3 3 rfl h')
  have N2 := Lib.hid (fun (w' : World) (h' : DT w' lo hi D P cap GB T L) => dtcount3 2 2 rfl h')
  have N1 := Lib.hid (fun (w' : World) (h' : DT w' lo hi D P cap GB T L) => dtcount3 1 1 rfl h')
  have EN := Lib.hid (fun (w' : World) (h' : DT w' lo hi D P cap GB T L) => dtall_any h')
  have FI := Lib.hid (fun (ky : Int) (hs : Nat) (hh : hs < 18446744073709551616) (w' : World) (h' : DT w' lo hi D P cap GB T 0) => dtfind_any h' (by decide) ky hs hh)
  have HO := Lib.hid (fun j => (sumN_le (f := fun i => if openB (T.M i) = true then 1 else 0) (c := 1) (n := j) fun i _ => by split <;> omega))
  have HEL := Lib.hid (show T.ents.length ≤ 8 * T.n from entsTo_len T T.n)
  have HLK := Lib.hid (show ∀ e, T.lk e ≤ T.n from fun e => (looks_bd hgood _ _).2)
  have HEH := Lib.hid (show ∀ e ∈ T.ents, e.hash = ((e.hash.toNat : Nat) : Int) ∧ e.hash.toNat < 18446744073709551616 from fun e he => by
    obtain ⟨g, k, ha, rfl⟩ := ents_at he
    exact ents_hash (hgood.good g ha.hg) (entsL_mem.2 ⟨k, ha.hk, ha.full, rfl⟩))
  have CN := Lib.hid (fun (k : Nat) => show ∀ w' : World, DW w' (GB k) (T.M k) (T.S k) → Calls Tryz.prog 70 #[.pointer (some ⟨GB k, 0, none⟩), .int .i64 1] w' fun e w'' => e = .returned (.int .i64 ((countK (T.M k) 1 : Nat) : Int)) ∧ Below w'.heap.size w' w'' from fun w' h' => dcount_any (GB k) (T.M k) 1 (T.S k) w' h')
  obtain ⟨n, hnn⟩ : ∃ n, n = T.n := ⟨_, rfl⟩
  rw [← hnn] at hn HEL HLK d0
  have HN := Lib.hid hnn
  unfold TabS.opens
  obtain ⟨l, hl⟩ : ∃ l, l = T.ents := ⟨_, rfl⟩
  rw [← hl] at EN HEL HEH ⊢
  rw [← hnn]
  generalize T.cnt 3 = c3 at *
  generalize T.cnt 2 = c2 at *
  generalize T.cnt 1 = c1 at *
  clear hd hgood hbd hnn hl d0 d1
  go_enter Tryz.func43, Tryz.ntmps43
  go_upto_region 2 with (first
    | (go_at_call 17; (with_reducible refine (N3.out _ (HD.out.alloc _)).mono ?_); rintro e w3 ⟨rfl, hb3⟩; have B3 := Lib.hid ((show Below w.heap.size w _ from (Below.refl _ _).alloc (Nat.le_refl _) _).trans (hb3.mono (by simp))); have Z3 := Lib.hid (show Blk w3 w.heap.size 88 (shp 0 0 0 0 0 0) from (Blk.new w _ _).below hb3 (by simp)))
    | (go_at_call 17; (with_reducible refine (N2.out _ (HD.out.later B3.out)).mono ?_); rintro e w4 ⟨rfl, hb4⟩; have B4 := Lib.hid (B3.out.trans (hb4.mono B3.out.size)); have Z4 := Lib.hid (Z3.out.below hb4 Z3.out.lt))
    | (go_at_call 17; (with_reducible refine (N1.out _ (HD.out.later B4.out)).mono ?_); rintro e w5 ⟨rfl, hb5⟩; have B5 := Lib.hid (B4.out.trans (hb5.mono B4.out.size)); have Z5 := Lib.hid (Z4.out.below hb5 Z4.out.lt)))
  refine wp_at (fun wL hwL => ?_)
  obtain ⟨z, hz⟩ : ∃ z, z = w.heap.size := ⟨_, rfl⟩
  obtain ⟨y, hy⟩ : ∃ y, y = w5.heap.size := ⟨_, rfl⟩
  have S0 := Lib.hid (show Blk wL y 88 (shp (c3 : Int) (c2 : Int) (c1 : Int) ((sumN (fun i => if openB (T.M i) = true then 1 else 0) 0 : Nat) : Int) 0 0) by rw [hwL, hy]; first | exact Blk.new _ _ _ | exact (((((((Blk.new _ _ _).set 0 _).set 1 _).set 2 _).set 3 _).set 4 _).set 5 _))
  have hbL : Below w5.heap.size w5 wL := by rw [hwL]; go_grown
  have R0 := Lib.hid (show Blk wL z 88 (shp 0 0 0 0 0 0) by rw [hz]; exact Z5.out.below hbL Z5.out.lt)
  have BL := Lib.hid (B5.out.trans (hbL.mono B5.out.size))
  have hyz : z < y := by rw [hz, hy]; exact Z5.out.lt
  have hDz : D < z := by rw [hz]; exact zD
  have hiz' : hi ≤ z := by rw [hz]; exact hiz
  rw [← hz, ← hy]
  have HZ := Lib.hid hz
  replace hwL := Lib.hid hwL
  clear hz hy B3 B4 B5 Z3 Z4 Z5 hbL hb3 hb4 hb5 hiz zD fD
  have D0 := Lib.hid (HD.out.later BL.out)
  obtain ⟨d0, d1, zD, fD⟩ := dcells D0.out
  rw [← HN.out] at d0
  go_wp2
  go_loopw [21] (fun v21 wr => ∃ k : Nat, k ≤ n ∧ v21 = .int .i64 (k : Int) ∧ Blk wr y 88 (shp (c3 : Int) (c2 : Int) (c1 : Int) ((sumN (fun i => if openB (T.M i) = true then 1 else 0) k : Nat) : Int) 0 0) ∧ Blk wr z 88 (shp 0 0 0 0 0 0) ∧ Below w.heap.size w wr ∧ DT wr lo hi D P cap GB T L) (fun v21 _ => n - (intOf v21).toNat)
  case atStart => exact ⟨0, Nat.zero_le _, rfl, S0.out, R0.out, BL.out, D0.out⟩
  case round =>
    obtain ⟨k, hk, rfl, hS, hR, hB, hT⟩ := hrel
    clear S0 R0 BL D0 d0 d1 zD fD
    have KS := Lib.hid hS
    have KR := Lib.hid hR
    have KB := Lib.hid hB
    have KD := Lib.hid hT
    obtain ⟨d0, d1, zD, fD⟩ := dcells hT
    rw [← HN.out] at d0
    clear hS hR hB hT
    by_cases hlt : k < n
    · have hltI : (k : Int) < (n : Int) := by omega
      have hkT : k < T.n := by have := HN.out; omega
      have p0 := KD.out.ptr k hkT
      have zP := KD.out.pz
      have CK := Lib.hid (CN.out k)
      have q0 := HO.out k
      have E0 := Lib.hid (show sumN (fun i => if openB (T.M i) = true then 1 else 0) (k + 1) = sumN (fun i => if openB (T.M i) = true then 1 else 0) k + (if openB (T.M k) = true then 1 else 0) from rfl)
      rw [open_count (T.M k)] at E0
      have G := Lib.hid (KD.out.g k hkT)
      generalize sumN (fun i => if openB (T.M i) = true then 1 else 0) k = a0 at *
      generalize countK (T.M k) 1 = d1' at *
      have w0' : IntKind.i64.wrap ((a0 : Int) + 1) = ((a0 + 1 : Nat) : Int) := by rw [IntKind.wrap_i64]; omega
      by_cases hd : 0 < d1'
      · have hdI : (0 : Int) < (d1' : Int) := by omega
        rw [decide_eq_true hd] at E0
        simp only [if_true] at E0
        go_wp2_with (go_at_call 70; (with_reducible refine (CK.out _ G.out).mono ?_); rintro e w2 ⟨rfl, hb2⟩; have S2 := Lib.hid (KS.out.below hb2 KS.out.lt); have R2 := Lib.hid (KR.out.below hb2 KR.out.lt); have B2 := Lib.hid (KB.out.trans (hb2.mono KB.out.size)); have D2 := Lib.hid (KD.out.later hb2); have q6 := shp_cells S2.out; have s3 := q6.2.2.2.1; have zS := q6.2.2.2.2.2.2.1; have fS := q6.2.2.2.2.2.2.2; clear q6)
        go_roundw
        case rel => exact ⟨k + 1, by omega, by go_num, by rw [E0.out]; exact S2.out.set 3 _, R2.out.other (by omega) _ _, B2.out.trans (((Chg.refl (fun b => b = y) w2).set1 _ _).below (n := w.heap.size) B2.out.size (fun b hb e => by have := HZ.out; omega)), D2.out.chg ((Chg.refl (fun b => b = y) w2).set1 _ _) (fun b h1 h2 e => by omega)⟩
        case measure => simp [intOf]; omega
      · obtain rfl : d1' = 0 := by omega
        rw [decide_eq_false hd] at E0
        simp only [Bool.false_eq_true, if_false, Nat.add_zero] at E0
        go_wp2_with (go_at_call 70; (with_reducible refine (CK.out _ G.out).mono ?_); rintro e w2 ⟨rfl, hb2⟩; have S2 := Lib.hid (KS.out.below hb2 KS.out.lt); have R2 := Lib.hid (KR.out.below hb2 KR.out.lt); have B2 := Lib.hid (KB.out.trans (hb2.mono KB.out.size)); have D2 := Lib.hid (KD.out.later hb2))
        go_roundw
        case rel => exact ⟨k + 1, by omega, by go_num, by rw [E0.out]; exact S2.out, R2.out, B2.out, D2.out⟩
        case measure => simp [intOf]; omega
    · obtain rfl : k = n := by omega
      have hll := HEL.out
      obtain ⟨c0, hc0⟩ : ∃ c0, c0 = sumN (fun i => if openB (T.M i) = true then 1 else 0) k := ⟨_, rfl⟩
      rw [← hc0] at KS
      replace hc0 := Lib.hid hc0
      go_wp2_with (go_at_call 67; (with_reducible refine (EN.out _ KD.out).mono ?_); rintro e w9 ⟨ev, rfl, hr9, hb9⟩; obtain ⟨ea, ecap, rfl⟩ := ownsRow_slice hr9; have S9 := Lib.hid (KS.out.below hb9 KS.out.lt); have R9 := Lib.hid (KR.out.below hb9 KR.out.lt); have C9 := Lib.hid ((Chg.of_below (X := fun b => b = D) KB.out).trans (Chg.of_below hb9)); have D9 := Lib.hid (KD.out.later hb9); have W9 := Lib.hid hr9; clear hr9)
      have hyr : y < wr.heap.size := KS.out.lt
      clear d0 d1 zD fD
      go_loopw [40] (fun v40 wx => ∃ j : Nat, j ≤ l.length ∧ v40 = .int .i64 (j : Int) ∧ Blk wx y 88 (shp (c3 : Int) (c2 : Int) (c1 : Int) (c0 : Int) ((maxN T.lk (l.take j) : Nat) : Int) ((addL T.lk (l.take j) : Nat) : Int)) ∧ Blk wx z 88 (shp 0 0 0 0 0 0) ∧
        wx.ownsRow wr.heap.size 47 3 (.slice ea l.length ecap) l.length (entV l) ∧ (∃ L', DT wx lo hi D P cap GB T L') ∧ Chg (fun b => b = D) w wx ∧ addL T.lk (l.take j) ≤ k * j ∧ maxN T.lk (l.take j) ≤ k) (fun v40 _ => l.length - (intOf v40).toNat)
      case atStart => exact ⟨0, Nat.zero_le _, rfl, S9.out, R9.out, W9.out, ⟨L, D9.out⟩, C9.out, by simp [addL], by simp [maxN]⟩
      case round =>
        clear S9 R9 W9 C9 D9 KS KR KB KD
        obtain ⟨j, hj, rfl, hS, hR, hW, ⟨L', hT⟩, hC, hA1, hA2⟩ := hrel
        obtain ⟨wA, hwA⟩ : ∃ wA, wA = wr := ⟨_, rfl⟩
        subst hwA
        have KS := Lib.hid hS
        have KR := Lib.hid hR
        have KW := Lib.hid hW
        have KC := Lib.hid hC
        have KD := Lib.hid hT
        obtain ⟨d0, d1, zD, fD⟩ := dcells hT
        clear hS hR hW hC hT
        by_cases hlt : j < l.length
        · have hltI : (j : Int) < (l.length : Int) := by omega
          obtain ⟨ea', ecap', e, -, hrow⟩ := ents_own KW.out
          cases e
          obtain ⟨b, rfl, hbb, hbz, hcl⟩ := hrow (fun e => by rw [e] at hlt; exact absurd hlt (by simp))
          obtain ⟨g0, g1, g2⟩ := hcl j hlt
          obtain ⟨hh1, hh2⟩ := HEH.out l[j] (List.getElem_mem hlt)
          have HM := Lib.hid (maxN_take (f := T.lk) hlt)
          have HA := Lib.hid (addL_take (f := T.lk) hlt)
          have hlk := HLK.out l[j]
          have HLJ := Lib.hid (show T.lk l[j] = T.looks l[j].key l[j].hash.toNat from rfl)
          rw [hh1] at g2
          rw [HLJ.out] at HM HA hlk
          generalize l[j].hash.toNat = hs' at *
          generalize l[j].key = ky at *
          generalize l[j].val = vv at *
          have SJ := Lib.hid (fun (w' : World) (h' : DT w' lo hi D P cap GB T 0) => FI.out ky hs' hh2 w' h')
          have hkj : k * (j + 1) = k * j + k := Nat.mul_succ _ _
          have hkj2 : k * j ≤ 64 * 512 := Nat.mul_le_mul (by omega) (by omega)
          generalize T.looks ky hs' = lk at *
          generalize T.ent ky hs' = en at *
          generalize T.has ky hs' = hb at *
          generalize maxN T.lk (l.take j) = mx at *
          generalize addL T.lk (l.take j) = ad at *
          generalize k * j = kj at *
          have w5' : IntKind.i64.wrap ((ad : Int) + (lk : Int)) = ((ad + lk : Nat) : Int) := by rw [IntKind.wrap_i64]; omega
          clear hcl hrow hh1
          go_upto_region 12 with (fail)
          refine wp_at (fun w2 hw2 => ?_)
          have hb2 : Below wA.heap.size wA w2 := by rw [hw2]; go_grown
          have C2 := Lib.hid (KC.out.trans (Chg.of_below hb2))
          have S2 := Lib.hid (KS.out.below hb2 KS.out.lt)
          have R2 := Lib.hid (KR.out.below hb2 KR.out.lt)
          have W2 := Lib.hid (ownsRow_later KW.out hb2)
          have D2 := Lib.hid (KD.out.later hb2)
          have P2 := Lib.hid (show Blk w2 wA.heap.size 47 #[.int .u64 ky, .int .u64 vv, .int .u64 (hs' : Int)] by rw [hw2]; exact Blk.new _ _ _)
          obtain ⟨p0, p1, p2⟩ := cells3 P2.out
          have zP2 := P2.out.lt
          replace hw2 := Lib.hid hw2
          have zDA : D < wA.heap.size := zD
          have zyA : y < wA.heap.size := KS.out.lt
          clear g0 g1 g2 hbz hb2 KS KR KW KC KD d0 d1 zD fD
          obtain ⟨d0, d1, zD, fD⟩ := dcells D2.out
          go_upto_region 14 with (go_at_call 59; (with_reducible refine (SJ.out _ (D2.out.looks 0)).mono ?_); rintro e w3 ⟨rfl, hD3, hC3⟩; have D3 := Lib.hid hD3; have C3 := Lib.hid (((Chg.refl (fun b => b = D) w2).set1 1 (.int .i64 0)).trans hC3); clear hD3 hC3)
          have S3 := Lib.hid (S2.out.chg C3.out (show y ≠ D by omega))
          have R3 := Lib.hid (R2.out.chg C3.out (show z ≠ D by omega))
          have W3 := Lib.hid (ownsRow_chg W2.out C3.out (fun b hb e => by omega))
          have K3 := Lib.hid (C2.out.trans C3.out)
          rw [show (0 : Int) + (lk : Int) = (lk : Int) by omega] at D3
          clear S2 R2 W2 C2 C3 D2 P2 p0 p1 p2 zP2 d0 d1 zD fD SJ
          obtain ⟨-, d1, zD, fD⟩ := dcells D3.out
          obtain ⟨s0, s1, s2, s3, s4, s5, zS, fS⟩ := shp_cells S3.out
          refine wp_region_seq (fun _ => False) #[⟨0, 0, 9007199254740992, 1, 0⟩, ⟨1, 1, 18014398509481984, 9007199254740992, 0⟩, ⟨2, 3, 36028797018963968, 18014398509481984, 0⟩, ⟨4, 7, 72057594037927936, 36028797018963968, 1⟩, ⟨0, 0, 144115188075855872, 8, 0⟩, ⟨16, 16, 288230376151711744, 144115188075855872, 1⟩, ⟨40, 63, 576460752303423488, 360287970189639680, 0⟩] 40 [(0, 0), (1, 0), (2, 0), (3, 1), (4, 0), (5, 1), (6, 0)] (by kernel_rfl) (by kernel_rfl) (by kernel_rfl) (by kernel_rfl) (by kernel_rfl) (by kernel_rfl) (fun c a d v w h => by cases d <;> exact h) ?_
          refine seq_calcA (h := ?_)
          try simp only [Act.put, List.setIfInBounds_toArray, List.set_cons_zero, List.set_cons_succ]
          refine seq_calcA (h := ?_)
          try simp only [Act.put, List.setIfInBounds_toArray, List.set_cons_zero, List.set_cons_succ]
          refine seq_calcA (h := ?_)
          try simp only [Act.put, List.setIfInBounds_toArray, List.set_cons_zero, List.set_cons_succ]
          refine seq_load1A (hu := Tryz.underlying3) (h := ?_)
          try simp only [Act.put, List.setIfInBounds_toArray, List.set_cons_zero, List.set_cons_succ]
          refine seq_calcA (h := ?_)
          try simp only [Act.put, List.setIfInBounds_toArray, List.set_cons_zero, List.set_cons_succ]
          refine seq_load1A (hu := Tryz.underlying3) (h := ?_)
          try simp only [Act.put, List.setIfInBounds_toArray, List.set_cons_zero, List.set_cons_succ]
          refine seq_calcA (h := ?_)
          try simp only [Act.put, List.setIfInBounds_toArray, List.set_cons_zero, List.set_cons_succ]
          refine seq_nil ?_
          obtain ⟨m2, hm2⟩ : ∃ m2, m2 = max mx lk := ⟨_, rfl⟩
          rw [← hm2] at HM
          have hm3 : m2 ≤ k := by omega
          by_cases hgt : mx < lk
          · have hgI : (mx : Int) < (lk : Int) := by omega
            have hgB : decide ((lk : Int) > (mx : Int)) = true := decide_eq_true hgI
            obtain rfl : m2 = lk := by omega
            clear hm2
            go_upto_region 16 with (fail)
            refine wp_at (fun w5 hw5 => ?_)
            have S5 := Lib.hid (show Blk w5 y 88 (shp (c3 : Int) (c2 : Int) (c1 : Int) (c0 : Int) (m2 : Int) (ad : Int)) by rw [hw5]; exact Blk.set (Blk.drew S3.out) 4 _)
            have hc5 : Chg (fun b => b = y) w3 w5 := by rw [hw5]; exact (Chg.drew (Chg.refl _ _)).set1 _ _
            have R5 := Lib.hid (R3.out.chg hc5 (show z ≠ y by omega))
            have W5 := Lib.hid (ownsRow_chg W3.out hc5 (fun b hb e => by omega))
            have D5 := Lib.hid (D3.out.chg hc5 (fun b h1 h2 e => by omega))
            have C5 := Lib.hid (K3.out.trans' hc5 (fun b hb e => by have := HZ.out; omega))
            replace hw5 := Lib.hid hw5
            clear S3 R3 W3 D3 K3 hc5 d1 zD fD s0 s1 s2 s3 s4 s5 zS fS
            obtain ⟨-, d1, zD, fD⟩ := dcells D5.out
            obtain ⟨s0, s1, s2, s3, s4, s5, zS, fS⟩ := shp_cells S5.out
            refine wp_region_seq (fun _ => False) #[⟨0, 0, 36893488147419103232, 8, 0⟩, ⟨1, 1, 73786976294838206464, 36893488147419103232, 1⟩, ⟨0, 0, 147573952589676412928, 1, 0⟩, ⟨4, 4, 295147905179352825856, 147573952589676412928, 0⟩, ⟨8, 12, 590295810358705651712, 295147905179352825856, 0⟩, ⟨16, 28, 1180591620717411303424, 590295810358705651712, 1⟩, ⟨34, 63, 2361183241434822606848, 1254378597012249509888, 0⟩, ⟨127, 127, 4722366482869645213696, 8, 0⟩, ⟨255, 255, 0, 7083549724304467820544, 3⟩] 34 [(0, 0), (1, 1), (2, 0), (3, 0), (4, 0), (5, 1), (6, 0), (7, 0), (8, 3)] (by kernel_rfl) (by kernel_rfl) (by kernel_rfl) (by kernel_rfl) (by kernel_rfl) (by kernel_rfl) (fun c a d v w h => by cases d <;> exact h) ?_
            refine seq_calcA (h := ?_)
            try simp only [Act.put, List.setIfInBounds_toArray, List.set_cons_zero, List.set_cons_succ]
            refine seq_load1A (hu := Tryz.underlying3) (h := ?_)
            try simp only [Act.put, List.setIfInBounds_toArray, List.set_cons_zero, List.set_cons_succ]
            refine seq_calcA (h := ?_)
            try simp only [Act.put, List.setIfInBounds_toArray, List.set_cons_zero, List.set_cons_succ]
            refine seq_calcA (h := ?_)
            try simp only [Act.put, List.setIfInBounds_toArray, List.set_cons_zero, List.set_cons_succ]
            refine seq_calcA (h := ?_)
            try simp only [Act.put, List.setIfInBounds_toArray, List.set_cons_zero, List.set_cons_succ]
            refine seq_load1A (hu := Tryz.underlying3) (h := ?_)
            try simp only [Act.put, List.setIfInBounds_toArray, List.set_cons_zero, List.set_cons_succ]
            refine seq_calcA (h := ?_)
            try simp only [Act.put, List.setIfInBounds_toArray, List.set_cons_zero, List.set_cons_succ]
            refine seq_calcA (h := ?_)
            try simp only [Act.put, List.setIfInBounds_toArray, List.set_cons_zero, List.set_cons_succ]
            refine seq_lastA (h := fun K hK => ?_); go_wp2_with (fail); refine hK.out _ _ ?_; clear hK K
            try simp only [Act.put, List.setIfInBounds_toArray, List.set_cons_zero, List.set_cons_succ]
            refine seq_nil ?_
            go_wp2
            go_roundw
            case rel =>
              refine ⟨j + 1, by omega, by go_num, ?_, ?_, ?_, ⟨(m2 : Int), ?_⟩, ?_, by rw [HA.out]; omega, by rw [HM.out]; omega⟩
              · rw [HM.out, HA.out]; exact Blk.set (Blk.drew S5.out) 5 _
              · exact Blk.other (Blk.drew R5.out) (by omega) _ _
              · exact ownsRow_chg (X := fun b => b = y) W5.out (((Chg.refl _ _).drew).set1 _ _) (fun b hb e => by omega)
              · exact D5.out.chg (((Chg.refl (fun b => b = y) _).drew).set1 _ _) (fun b h1 h2 e => by omega)
              · exact C5.out.trans' (((Chg.refl (fun b => b = y) _).drew).set1 _ _) (fun b hb e => by have := HZ.out; omega)
            case measure => simp [intOf]; omega
          · have hgI : ¬ (mx : Int) < (lk : Int) := by omega
            have hgB : decide ((lk : Int) > (mx : Int)) = false := decide_eq_false hgI
            have hgJ : (lk : Int) ≤ (mx : Int) := by omega
            obtain rfl : m2 = mx := by omega
            clear hm2
            go_upto_region 16 with (fail)
            refine wp_at (fun w5 hw5 => ?_)
            have S5 := Lib.hid (show Blk w5 y 88 (shp (c3 : Int) (c2 : Int) (c1 : Int) (c0 : Int) (m2 : Int) (ad : Int)) by rw [hw5]; exact Blk.drew S3.out)
            have hc5 : Chg (fun b => b = y) w3 w5 := by rw [hw5]; exact Chg.drew (Chg.refl _ _)
            have R5 := Lib.hid (R3.out.chg hc5 (show z ≠ y by omega))
            have W5 := Lib.hid (ownsRow_chg W3.out hc5 (fun b hb e => by omega))
            have D5 := Lib.hid (D3.out.chg hc5 (fun b h1 h2 e => by omega))
            have C5 := Lib.hid (K3.out.trans' hc5 (fun b hb e => by have := HZ.out; omega))
            replace hw5 := Lib.hid hw5
            clear S3 R3 W3 D3 K3 hc5 d1 zD fD s0 s1 s2 s3 s4 s5 zS fS
            obtain ⟨-, d1, zD, fD⟩ := dcells D5.out
            obtain ⟨s0, s1, s2, s3, s4, s5, zS, fS⟩ := shp_cells S5.out
            refine wp_region_seq (fun _ => False) #[⟨0, 0, 36893488147419103232, 8, 0⟩, ⟨1, 1, 73786976294838206464, 36893488147419103232, 1⟩, ⟨0, 0, 147573952589676412928, 1, 0⟩, ⟨4, 4, 295147905179352825856, 147573952589676412928, 0⟩, ⟨8, 12, 590295810358705651712, 295147905179352825856, 0⟩, ⟨16, 28, 1180591620717411303424, 590295810358705651712, 1⟩, ⟨34, 63, 2361183241434822606848, 1254378597012249509888, 0⟩, ⟨127, 127, 4722366482869645213696, 8, 0⟩, ⟨255, 255, 0, 7083549724304467820544, 3⟩] 34 [(0, 0), (1, 1), (2, 0), (3, 0), (4, 0), (5, 1), (6, 0), (7, 0), (8, 3)] (by kernel_rfl) (by kernel_rfl) (by kernel_rfl) (by kernel_rfl) (by kernel_rfl) (by kernel_rfl) (fun c a d v w h => by cases d <;> exact h) ?_
            refine seq_calcA (h := ?_)
            try simp only [Act.put, List.setIfInBounds_toArray, List.set_cons_zero, List.set_cons_succ]
            refine seq_load1A (hu := Tryz.underlying3) (h := ?_)
            try simp only [Act.put, List.setIfInBounds_toArray, List.set_cons_zero, List.set_cons_succ]
            refine seq_calcA (h := ?_)
            try simp only [Act.put, List.setIfInBounds_toArray, List.set_cons_zero, List.set_cons_succ]
            refine seq_calcA (h := ?_)
            try simp only [Act.put, List.setIfInBounds_toArray, List.set_cons_zero, List.set_cons_succ]
            refine seq_calcA (h := ?_)
            try simp only [Act.put, List.setIfInBounds_toArray, List.set_cons_zero, List.set_cons_succ]
            refine seq_load1A (hu := Tryz.underlying3) (h := ?_)
            try simp only [Act.put, List.setIfInBounds_toArray, List.set_cons_zero, List.set_cons_succ]
            refine seq_calcA (h := ?_)
            try simp only [Act.put, List.setIfInBounds_toArray, List.set_cons_zero, List.set_cons_succ]
            refine seq_calcA (h := ?_)
            try simp only [Act.put, List.setIfInBounds_toArray, List.set_cons_zero, List.set_cons_succ]
            refine seq_lastA (h := fun K hK => ?_); go_wp2_with (fail); refine hK.out _ _ ?_; clear hK K
            try simp only [Act.put, List.setIfInBounds_toArray, List.set_cons_zero, List.set_cons_succ]
            refine seq_nil ?_
            go_wp2
            go_roundw
            case rel =>
              refine ⟨j + 1, by omega, by go_num, ?_, ?_, ?_, ⟨(lk : Int), ?_⟩, ?_, by rw [HA.out]; omega, by rw [HM.out]; omega⟩
              · rw [HM.out, HA.out]; exact Blk.set (Blk.drew S5.out) 5 _
              · exact Blk.other (Blk.drew R5.out) (by omega) _ _
              · exact ownsRow_chg (X := fun b => b = y) W5.out (((Chg.refl _ _).drew).set1 _ _) (fun b hb e => by omega)
              · exact D5.out.chg (((Chg.refl (fun b => b = y) _).drew).set1 _ _) (fun b h1 h2 e => by omega)
              · exact C5.out.trans' (((Chg.refl (fun b => b = y) _).drew).set1 _ _) (fun b hb e => by have := HZ.out; omega)
            case measure => simp [intOf]; omega
        · obtain rfl : j = l.length := by omega
          rw [List.take_length] at KS
          obtain ⟨mx, hmx⟩ : ∃ mx, mx = maxN T.lk l := ⟨_, rfl⟩
          obtain ⟨ad, had⟩ : ∃ ad, ad = addL T.lk l := ⟨_, rfl⟩
          rw [← hmx, ← had] at KS
          replace hmx := Lib.hid hmx
          replace had := Lib.hid had
          obtain ⟨s0, s1, s2, s3, s4, s5, zS, fS⟩ := shp_cells KS.out
          obtain ⟨r0, r1, r2, r3, r4, r5, zR, fR⟩ := shp_cells KR.out
          go_wp2
          refine wp_end_at (fun Wf hWf => ?_)
          have K2 := KD.out.looks L
          have hR : Blk Wf z 88 (shp (c3 : Int) (c2 : Int) (c1 : Int) (c0 : Int) (mx : Int) (ad : Int)) := by
            rw [hWf]
            exact ((((((KR.out.other (by omega) _ _).set 0 _).set 1 _).set 2 _).set 3 _).set 4 _).set 5 _
          have hC : Chg (fun b => b = z) (wA.setCell ⟨D, 1, none⟩ (.int .i64 L)) Wf := by rw [hWf]; exact ((((((Chg.refl _ _).set1 _ _).set1 _ _).set1 _ _).set1 _ _).set1 _ _).set1 _ _
          have hK : Chg (fun b => b = D) w Wf := (KC.out.set1 1 _).trans' hC (fun b hb e => by have := HZ.out; omega)
          have hD := K2.chg hC (fun b h1 h2 e => by omega)
          obtain ⟨x0, x1, x2, x3, x4, x5, -, -⟩ := shp_cells hR
          exact bodyPost_ret (v := .agg (shp (c3 : Int) (c2 : Int) (c1 : Int) (c0 : Int) (mx : Int) (ad : Int))) (by simp [results, Tryz.results43, go_sem, x0, x1, x2, x3, x4, x5, shp]) rfl ⟨by rw [hc0.out, hmx.out, had.out], hD, hK⟩
end
end Go.Proofs.YtgamgphfjndiiaaGreatDoor
