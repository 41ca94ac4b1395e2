/- Texts joined: SoundShapes. No condition but those that stand within. -/
import Derived.Test.YtgamgphfjndiiaaGreatDoorPkSwar
import Derived.Test.YtgamgphfjndiiaaGreatDoorPkMeter
import Derived.Test.YtgamgphfjndiiaaGreatDoorPkErrs
import Derived.Test.YtgamgphfjndiiaaGreatDoorPkGroup
import Derived.Test.YtgamgphfjndiiaaGreatDoorPkTab
import Derived.Test.YtgamgphfjndiiaaGreatDoorPkTab2
import Derived.Test.YtgamgphfjndiiaaGreatDoorPkTab3
import Derived.Test.YtgamgphfjndiiaaGreatDoorPkTake
import Derived.Test.YtgamgphfjndiiaaGreatDoorPkTabM
import Derived.Test.YtgamgphfjndiiaaGreatDoorPkEvac
import Derived.Test.YtgamgphfjndiiaaGreatDoorPkSound
import Derived.Test.YtgamgphfjndiiaaGreatDoorPkRef09
import Derived.Test.YtgamgphfjndiiaaGreatDoorPkEvac2
import Derived.Test.YtgamgphfjndiiaaGreatDoorPkEvac3
import Derived.Test.YtgamgphfjndiiaaGreatDoorPkSound2
import Derived.Test.YtgamgphfjndiiaaGreatDoorPkSound3
set_option linter.unusedVariables false
set_option linter.unusedSimpArgs false
namespace Go.Proofs.YtgamgphfjndiiaaGreatDoor
open Go.RowKit Go.Proofs
attribute [local go_sem] neq_nilG eql_nilG nilT
set_option maxRecDepth 100000 in
theorem look_nil (w : World) : Calls Tryz.prog 37 #[.pointer none] w fun e w' => e = .returned (.agg (shp 0 0 0 0 0 0)) ∧ Below w.heap.size w w' := by
  go_enter Tryz.func37, Tryz.ntmps37
  go_wp2
  refine wp_end_at (fun Wf hWf => ?_)
  have hR : Blk Wf w.heap.size 79 (shp 0 0 0 0 0 0) := by
    rw [hWf]
    exact Blk.new w _ _
  have hB : Below w.heap.size w Wf := by rw [hWf]; go_grown
  obtain ⟨x0, x1, x2, x3, x4, x5, -, -⟩ := shp_cells hR
  exact bodyPost_ret (v := .agg (shp 0 0 0 0 0 0)) (by simp [results, Tryz.results37, go_sem, x0, x1, x2, x3, x4, x5, shp]) rfl ⟨rfl, hB⟩
set_option maxRecDepth 100000 in
theorem path_nil (w : World) : Calls Tryz.prog 39 #[.pointer none, .int .u64 1] w fun e w' => e = .returned (.slice none 0 0) ∧ Below w.heap.size w w' := by
  go_enter Tryz.func39, Tryz.ntmps39
  go_wp2
  go_ret
  exact ⟨rfl, by go_grown⟩
set_option maxRecDepth 100000 in
theorem check_nil (E : Nat → Addr) (w : World) (h : EC w E [4]) : Calls Tryz.prog 38 #[.pointer none] w fun e w' => e = .returned (errAt E 4) ∧ Below w.heap.size w w' := by
  have e4 : w.cell? ⟨2, 0, none⟩ = some (errAt E 4) := h 4 (by decide)
  have z4 := World.block_lt_of_cell? _ _ e4
  go_enter Tryz.func38, Tryz.ntmps38
  go_wp2
  go_ret
  exact ⟨rfl, by go_grown⟩
set_option maxRecDepth 100000 in
set_option maxHeartbeats 16000000 in
theorem soundShapes_any (g : Int) (v1 v2 : Value) (n1 n2 : Nat) (f1 f2 : Nat → Nat → Int) (E : Nat → Addr) (w0 : World) (hes : ErrsAre w0 E) (hT : Tab64 w0) (h1 : RowsAt w0 v1 n1 1 .u64 f1) (h2 : RowsAt w0 v2 n2 3 .i64 f2) :
    Calls Tryz.prog 7 #[.int .i64 g, v1, v2] w0 fun e w' => e = .returned (.bool true) ∧ Below w0.heap.size w0 w' := by
  have m1 := h1.2.2
  have m2 := h2.2.2
  unfold maxLen at m1 m2
  have he : EC w0 E [1, 2, 4, 5, 14, 16] := hes.ec.sub (by decide)
  have HES := Lib.hid hes
  have HE := Lib.hid he
  have HT := Lib.hid hT
  have AL := Lib.hid (alive10_any E w0 he hT)
  obtain ⟨a2, cap2, rfl, hx2⟩ := h2.cellAt (by decide)
  by_cases hok : ¬ (1 ≤ n1 ∧ n1 ≤ 100 ∧ n2 ≤ 120 ∧ g ≤ 16 ∧ rightB g = true)
  · obtain ⟨a1, cap1, rfl, -⟩ := h1.cellAt (by decide)
    have MD := Lib.hid (fun (w' : World) (h : EC w' E [1]) => made10_no g a1 a2 n1 n2 cap1 cap2 hok E w' h)
    clear hok h1 h2 hx2 he hes hT
    go_enter Tryz.func7, Tryz.ntmps7
    go_wp2_with (first
      | (go_at_call 35; (with_reducible refine AL.out.mono ?_); rintro e w1 ⟨rfl, hb1⟩; have E1 := Lib.hid ((HE.out.below hb1).sub (l' := [1]) (by decide)))
      | (go_at_call 36; (with_reducible refine (MD.out _ E1.out).mono ?_); rintro e w2 ⟨rfl, hb2⟩))
    go_ret
    exact ⟨rfl, hb1.trans (hb2.mono hb1.size)⟩
  obtain ⟨k1, k2, k3, k4, k5⟩ := Classical.not_not.1 hok
  obtain ⟨b1, o1, cap1, G, rfl, hb1z, hG, hc1⟩ := hashes_of h1 k1
  obtain ⟨n, rfl⟩ := Int.eq_ofNat_of_zero_le (show 0 ≤ g by rw [rightB_iff] at k5; omega)
  have hHb : ∀ q, hashH n1 G q < 18446744073709551616 := hashH_lt k1 hG
  have MD := Lib.hid (fun (w' : World) (hw' : Below w0.heap.size w0 w') => made10_ok n n1 n2 (by omega) k5 k1 k2 k3 b1 o1 cap1 cap2 a2 G f2 E w0 w' HE.out HT.out hw' hb1z hG hc1 hx2)
  have HC := Lib.hid hc1
  have HG := Lib.hid hG
  have HHB := Lib.hid hHb
  have hnb := right_bd k5
  clear hok h1 h2 hx2 he hes hT hG hc1 hHb k5
  go_enter Tryz.func7, Tryz.ntmps7
  go_upto_region 6 with (first
    | (go_at_call 35; (with_reducible refine AL.out.mono ?_); rintro e w1 ⟨rfl, hb1⟩; have B1 := Lib.hid hb1; clear hb1)
    | (go_at_call 36; (with_reducible refine (MD.out _ B1.out).mono ?_); rintro e w2 ⟨p, T, L, rfl, hP2, hS2, hN2, hL1, hL2, -, hb2⟩; have P2 := Lib.hid hP2; have S2 := Lib.hid hS2; have N2 := Lib.hid hN2; have B2 := Lib.hid (B1.out.trans (hb2.mono B1.out.size)); clear hP2 hS2 hN2 hb2))
  have hgood := S2.out.f.good
  obtain ⟨hpb, hpo⟩ := (⟨P2.out.b, P2.out.o⟩ : _ ∧ _)
  have hLb : 0 ≤ L ∧ L ≤ 1000000000 := ⟨hL1, by omega⟩
  have DL := Lib.hid (fun (w' : World) (h : DX w' p.mid p.hi p.D T L) => show Calls Tryz.prog 43 #[.pointer (some ⟨p.D, 0, none⟩)] w' fun e w'' => e = .returned (.agg (shp ((T.cnt 3 : Nat) : Int) ((T.cnt 2 : Nat) : Int) ((T.cnt 1 : Nat) : Int) ((T.opens : Nat) : Int) ((maxN T.lk T.ents : Nat) : Int) ((addL T.lk T.ents : Nat) : Int))) ∧ DX w'' p.mid p.hi p.D T L ∧ Chg (fun b => b = p.D) w' w'' from by
    obtain ⟨P, cap, GB, h⟩ := h
    exact (dtlook_any h hLb).mono fun e w'' ⟨h1, h2, h3⟩ => ⟨h1, ⟨P, cap, GB, h2⟩, h3⟩)
  have DP := Lib.hid (fun (x : Nat) (hx : x < 18446744073709551616) (w' : World) (h : DX w' p.mid p.hi p.D T L) => show Calls Tryz.prog 44 #[.pointer (some ⟨p.D, 0, none⟩), .int .u64 (x : Int)] w' fun e w'' => ∃ v, e = .returned v ∧ w''.ownsRow w'.heap.size 3 1 v (T.pl x) ((List.range (T.pl x)).map (encI (T.wkI x))) ∧ Below w'.heap.size w' w'' from by
    obtain ⟨P, cap, GB, h⟩ := h
    exact dtpath_any h x hx)
  have hDi : p.mid ≤ p.D ∧ p.D < p.hi := by obtain ⟨P, cap, GB, h⟩ := P2.out.d; exact h.id
  have SL := Lib.hid (fun (w' : World) (h : TN w' p.B p.Q T E w0) => slook_any h)
  have PT := Lib.hid (fun (x : Nat) (hx : x < 18446744073709551616) (w' : World) (h : TN w' p.B p.Q T E w0) => spath_any h x hx)
  have PL := Lib.hid (fun x => pl_bd hgood x)
  have hn64 := hgood.bounds.1
  generalize T.cnt 3 = c3 at *
  generalize T.cnt 2 = c2 at *
  generalize T.cnt 1 = c1 at *
  generalize T.opens = c0 at *
  generalize maxN T.lk T.ents = mx at *
  generalize addL T.lk T.ents = ad at *
  clear hgood
  simp only [shp] at SL DL
  go_upto_region 7 with (go_at_call 43; (with_reducible refine (DL.out _ P2.out.d).mono ?_); rintro e w3 ⟨rfl, hd3, hc3⟩; have T3 := Lib.hid (TMW.chg P2.out.t hc3 (fun b e => by omega) (fun e => by omega) (fun e => by omega) (fun b e => by cases e)); have D3 := Lib.hid hd3; have B3 := Lib.hid (B2.out.trans (hc3.below (n := w0.heap.size) B2.out.size (fun b hb e => by omega))); clear hd3 hc3)
  refine wp_at (fun w4 hw4 => ?_)
  have S4 := Lib.hid (show Blk w4 w3.heap.size 88 (shp (c3 : Int) (c2 : Int) (c1 : Int) (c0 : Int) (mx : Int) (ad : Int)) by rw [hw4]; exact Blk.new _ _ _)
  have hb4 : Below w3.heap.size w3 w4 := by rw [hw4]; go_grown
  have T4 := Lib.hid (T3.out.later hb4)
  have D4 := Lib.hid (D3.out.later hb4)
  have B4 := Lib.hid (B3.out.trans (hb4.mono B3.out.size))
  replace hw4 := Lib.hid hw4
  clear hb4 T3 D3 B3
  obtain ⟨s0, s1, s2, s3, s4, s5, zS, -⟩ := shp_cells S4.out
  refine wp_region_seq (fun _ => False) #[⟨0, 0, 536870912, 128, 0⟩, ⟨1, 1, 1073741824, 536870912, 2⟩, ⟨0, 0, 2147483648, 512, 0⟩, ⟨4, 4, 4294967296, 2147483648, 1⟩, ⟨0, 0, 8589934592, 512, 0⟩, ⟨16, 16, 17179869184, 8589934592, 1⟩, ⟨0, 0, 34359738368, 512, 0⟩, ⟨64, 64, 68719476736, 34359738368, 1⟩, ⟨0, 0, 137438953472, 512, 0⟩, ⟨256, 256, 274877906944, 137438953472, 1⟩, ⟨0, 0, 549755813888, 512, 0⟩, ⟨1024, 1024, 1099511627776, 549755813888, 1⟩, ⟨0, 0, 2199023255552, 512, 0⟩, ⟨4096, 4096, 4398046511104, 2199023255552, 1⟩, ⟨10920, 16380, 8796093022208, 5862630359040, 0⟩, ⟨16386, 32767, 17592186044416, 8797166764032, 0⟩] 10920 [(0, 0), (2, 0), (3, 1), (4, 0), (5, 1), (6, 0), (7, 1), (8, 0), (9, 1), (10, 0), (11, 1), (12, 0), (13, 1), (14, 0), (1, 2), (15, 0)] (by kernel_rfl) (by kernel_rfl) (by kernel_rfl) (by kernel_rfl) (by kernel_rfl) (by kernel_rfl) (fun c a d v w h => by cases d <;> exact h) ?_
  refine seq_calcA (h := ?_)
  try simp only [Act.put, List.setIfInBounds_toArray, List.set_cons_zero, List.set_cons_succ]
  refine seq_calcA (h := ?_)
  try simp only [Act.put, List.setIfInBounds_toArray, List.set_cons_zero, List.set_cons_succ]
  refine seq_load1A (hu := Tryz.underlying3) (h := ?_)
  try simp only [Act.put, List.setIfInBounds_toArray, List.set_cons_zero, List.set_cons_succ]
  refine seq_calcA (h := ?_)
  try simp only [Act.put, List.setIfInBounds_toArray, List.set_cons_zero, List.set_cons_succ]
  refine seq_load1A (hu := Tryz.underlying3) (h := ?_)
  try simp only [Act.put, List.setIfInBounds_toArray, List.set_cons_zero, List.set_cons_succ]
  refine seq_calcA (h := ?_)
  try simp only [Act.put, List.setIfInBounds_toArray, List.set_cons_zero, List.set_cons_succ]
  refine seq_load1A (hu := Tryz.underlying3) (h := ?_)
  try simp only [Act.put, List.setIfInBounds_toArray, List.set_cons_zero, List.set_cons_succ]
  refine seq_calcA (h := ?_)
  try simp only [Act.put, List.setIfInBounds_toArray, List.set_cons_zero, List.set_cons_succ]
  refine seq_load1A (hu := Tryz.underlying3) (h := ?_)
  try simp only [Act.put, List.setIfInBounds_toArray, List.set_cons_zero, List.set_cons_succ]
  refine seq_calcA (h := ?_)
  try simp only [Act.put, List.setIfInBounds_toArray, List.set_cons_zero, List.set_cons_succ]
  refine seq_load1A (hu := Tryz.underlying3) (h := ?_)
  try simp only [Act.put, List.setIfInBounds_toArray, List.set_cons_zero, List.set_cons_succ]
  refine seq_calcA (h := ?_)
  try simp only [Act.put, List.setIfInBounds_toArray, List.set_cons_zero, List.set_cons_succ]
  refine seq_load1A (hu := Tryz.underlying3) (h := ?_)
  try simp only [Act.put, List.setIfInBounds_toArray, List.set_cons_zero, List.set_cons_succ]
  refine seq_calcA (h := ?_)
  try simp only [Act.put, List.setIfInBounds_toArray, List.set_cons_zero, List.set_cons_succ]
  refine seq_doA (h := fun K hK => ?_); go_wp2_with (go_at_call 37; (with_reducible refine (SL.out _ (T4.out.later (Below.refl _ _).drew)).mono ?_); rintro e w5 ⟨rfl, hb5⟩; have T5 := Lib.hid ((T4.out.later (Below.refl _ _).drew).later hb5); have D5 := Lib.hid ((D4.out.later (Below.refl _ _).drew).later hb5); have B5 := Lib.hid (B4.out.trans ((Below.undrew hb5).mono B4.out.size)); have S5 := Lib.hid (S4.out.drew.below hb5 S4.out.lt); obtain ⟨t0, t1, t2, t3, t4, t5, zT, -⟩ := shp_cells S5.out); refine hkA hK (h := ?_); clear hK K
  try simp only [Act.put, List.setIfInBounds_toArray, List.set_cons_zero, List.set_cons_succ]
  refine seq_calcA (h := ?_)
  try simp only [Act.put, List.setIfInBounds_toArray, List.set_cons_zero, List.set_cons_succ]
  refine seq_nil ?_
  clear s0 s1 s2 s3 s4 s5 zS t0 t1 t2 t3 t4 t5 zT S4 T4 D4 B4
  go_wp2
  go_loopw [47] (fun v47 wr => ∃ k : Nat, k ≤ n1 ∧ v47 = .int .i64 (k : Int) ∧ Below w5.heap.size w5 wr) (fun v47 _ => n1 - (intOf v47).toNat)
  case atStart => exact ⟨0, Nat.zero_le _, rfl, Below.refl _ _⟩
  case round =>
    obtain ⟨k, hk, rfl, hB⟩ := hrel
    have KB := Lib.hid hB
    have KT := Lib.hid (T5.out.later hB)
    have KD := Lib.hid (D5.out.later hB)
    have BK := Lib.hid (B5.out.trans (hB.mono B5.out.size))
    clear hB
    by_cases hlt : k < n1
    · have hltI : (k : Int) < (n1 : Int) := by omega
      have gk := HC.out wr BK.out k hlt
      have zb := Nat.lt_of_lt_of_le hb1z BK.out.size
      have hGk := HG.out k hlt
      generalize G k = x at gk hGk
      have PX := Lib.hid (PT.out x hGk)
      have PD := Lib.hid (DP.out x hGk)
      obtain ⟨xs, hxs⟩ : ∃ xs, xs = (List.range (T.pl x)).map (T.wkI x) := ⟨_, rfl⟩
      have HX := Lib.hid (show (List.range (T.pl x)).map (encI (T.wkI x)) = xs.map (Value.int .i64) by rw [hxs, List.map_map]; rfl)
      have HXL := Lib.hid (show xs.length < 9223372036854775807 by rw [hxs, List.length_map, List.length_range]; have := PL.out x; omega)
      rw [HX.out] at PX PD
      generalize T.pl x = pl at PX PD
      clear hxs
      go_wp2_with (first
        | (go_at_call 39; (with_reducible refine (PX.out _ KT.out).mono ?_); rintro e w6 ⟨pv, rfl, hr6, hb6⟩; have R6 := Lib.hid (readsInts_own hr6); have D6 := Lib.hid (KD.out.later hb6); have B6 := Lib.hid (KB.out.trans (hb6.mono KB.out.size)); clear hr6)
        | (go_at_call 44; (with_reducible refine (PD.out _ D6.out).mono ?_); rintro e w7 ⟨pw, rfl, hr7, hb7⟩; have R7 := Lib.hid (readsInts_own hr7); have R67 := Lib.hid (R6.out.later hb7); have B7 := Lib.hid (B6.out.trans (hb7.mono B6.out.size)); clear hr7)
        | (go_at_call 40; (with_reducible refine (sameInts_any _ _ xs xs _ R67.out R7.out HXL.out).mono ?_); rintro e w8 ⟨rfl, rfl⟩; simp only [decide_true]))
      go_roundw
      case rel => exact ⟨k + 1, by omega, by go_num, B7.out⟩
      case measure => simp [intOf]; omega
    · obtain rfl : k = n1 := by omega
      have LN := Lib.hid look_nil
      have CKN := Lib.hid (fun (w' : World) (h : EC w' E [4]) => check_nil E w' h)
      have NU := Lib.hid (fun (w' : World) (h : ErrsAre w' E) => show Calls Tryz.prog 12 #[errAt E 4] w' fun e w'' => e = .returned (.int .i64 4) ∧ Below w'.heap.size w' w'' from (num_err w' E h 4 (by decide) (by decide)).mono fun e w'' ⟨h1, h2⟩ => ⟨h1, by rw [← h2]; exact (Below.refl _ _).alloc (Nat.le_refl _) _⟩)
      have EK := Lib.hid (HES.out.below (BK.out.mono (Nat.le_refl _)))
      simp only [shp] at LN
      go_wp2_with (first
        | (go_at_call 37; (with_reducible refine (LN.out _).mono ?_); rintro e w6 ⟨rfl, hb6⟩; have E6 := Lib.hid (EK.out.below hb6); have B6 := Lib.hid (BK.out.trans (hb6.mono BK.out.size)))
        | (go_at_call 39; (with_reducible refine (path_nil _).mono ?_); rintro e w7 ⟨rfl, hb7⟩; have E7 := Lib.hid (E6.out.below hb7); have B7 := Lib.hid (B6.out.trans (hb7.mono B6.out.size)))
        | (go_at_call 38; (with_reducible refine (CKN.out _ (E7.out.ec.sub (by decide))).mono ?_); rintro e w8 ⟨rfl, hb8⟩; have E8 := Lib.hid (E7.out.below hb8); have B8 := Lib.hid (B7.out.trans (hb8.mono B7.out.size)))
        | (go_at_call 12; (with_reducible refine (NU.out _ E8.out).mono ?_); rintro e w9 ⟨rfl, hb9⟩; have B9 := Lib.hid (B8.out.trans (hb9.mono B8.out.size))))
      go_ret
      exact ⟨rfl, B9.out⟩
end Go.Proofs.YtgamgphfjndiiaaGreatDoor
