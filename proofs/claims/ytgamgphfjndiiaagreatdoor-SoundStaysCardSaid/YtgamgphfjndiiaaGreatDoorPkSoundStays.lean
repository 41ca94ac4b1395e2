/- Texts joined: SoundStays. No condition but those that stand within. -/
import Derived.Test.YtgamgphfjndiiaaGreatDoorPkSwar
import Derived.Test.YtgamgphfjndiiaaGreatDoorPkMeter
import Derived.Test.YtgamgphfjndiiaaGreatDoorPkErrs
import Derived.Test.YtgamgphfjndiiaaGreatDoorPkGroup
import Derived.Test.YtgamgphfjndiiaaGreatDoorPkTab
import Derived.Test.YtgamgphfjndiiaaGreatDoorPkTab2
import Derived.Test.YtgamgphfjndiiaaGreatDoorPkTab3
import Derived.Test.YtgamgphfjndiiaaGreatDoorPkTake
import Derived.Test.YtgamgphfjndiiaaGreatDoorPkTabM
import Derived.Test.YtgamgphfjndiiaaGreatDoorPkEvac
import Derived.Test.YtgamgphfjndiiaaGreatDoorPkSound
import Derived.Test.YtgamgphfjndiiaaGreatDoorPkRef09
import Derived.Test.YtgamgphfjndiiaaGreatDoorPkEvac2
import Derived.Test.YtgamgphfjndiiaaGreatDoorPkEvac3
import Derived.Test.YtgamgphfjndiiaaGreatDoorPkSound2
set_option linter.unusedVariables false
set_option linter.unusedSimpArgs false
namespace Go.Proofs.YtgamgphfjndiiaaGreatDoor
open Go.RowKit Go.Proofs
attribute [local go_sem] neq_nilG eql_nilG nilT
set_option maxRecDepth 100000 in
set_option maxHeartbeats 16000000 in
theorem soundStays_any (g : Int) (v1 v2 : Value) (n1 n2 : Nat) (f1 f2 : Nat → Nat → Int) (E : Nat → Addr) (w0 : World) (he : EC w0 E [1, 2, 4, 5, 14, 16]) (hT : Tab64 w0) (h1 : RowsAt w0 v1 n1 1 .u64 f1) (h2 : RowsAt w0 v2 n2 3 .i64 f2) :
    Calls Tryz.prog 5 #[.int .i64 g, v1, v2] w0 fun e w' => e = .returned (.bool true) ∧ Below w0.heap.size w0 w' := by
  have m1 := h1.2.2
  have m2 := h2.2.2
  unfold maxLen at m1 m2
  have HE := Lib.hid he
  have HT := Lib.hid hT
  have AL := Lib.hid (alive10_any E w0 he hT)
  obtain ⟨a2, cap2, rfl, hx2⟩ := h2.cellAt (by decide)
  by_cases hok : ¬ (1 ≤ n1 ∧ n1 ≤ 100 ∧ n2 ≤ 120 ∧ g ≤ 16 ∧ rightB g = true)
  · obtain ⟨a1, cap1, rfl, -⟩ := h1.cellAt (by decide)
    have MD := Lib.hid (fun (w' : World) (h : EC w' E [1]) => made10_no g a1 a2 n1 n2 cap1 cap2 hok E w' h)
    clear hok h1 h2 hx2 he hT
    go_enter Tryz.func5, Tryz.ntmps5
    go_wp2_with (first
      | (go_at_call 35; (with_reducible refine AL.out.mono ?_); rintro e w1 ⟨rfl, hb1⟩; have E1 := Lib.hid ((HE.out.below hb1).sub (l' := [1]) (by decide)))
      | (go_at_call 36; (with_reducible refine (MD.out _ E1.out).mono ?_); rintro e w2 ⟨rfl, hb2⟩))
    go_ret
    exact ⟨rfl, hb1.trans (hb2.mono hb1.size)⟩
  obtain ⟨k1, k2, k3, k4, k5⟩ := Classical.not_not.1 hok
  obtain ⟨b1, o1, cap1, G, rfl, hb1z, hG, hc1⟩ := hashes_of h1 k1
  obtain ⟨n, rfl⟩ := Int.eq_ofNat_of_zero_le (show 0 ≤ g by rw [rightB_iff] at k5; omega)
  have hHb : ∀ q, hashH n1 G q < 18446744073709551616 := hashH_lt k1 hG
  have MD := Lib.hid (fun (w' : World) (hw' : Below w0.heap.size w0 w') => made10_ok n n1 n2 (by omega) k5 k1 k2 k3 b1 o1 cap1 cap2 a2 G f2 E w0 w' HE.out HT.out hw' hb1z hG hc1 hx2)
  have HC := Lib.hid hc1
  have HG := Lib.hid hG
  have HHB := Lib.hid hHb
  have hnb := right_bd k5
  clear hok h1 h2 hx2 he hT hG hc1 hHb k5
  go_enter Tryz.func5, Tryz.ntmps5
  go_upto_region 6 with (first
    | (go_at_call 35; (with_reducible refine AL.out.mono ?_); rintro e w1 ⟨rfl, hb1⟩; have B1 := Lib.hid hb1; clear hb1)
    | (go_at_call 36; (with_reducible refine (MD.out _ B1.out).mono ?_); rintro e w2 ⟨p, T, L, rfl, hP2, hS2, hN2, -, -, -, hb2⟩; have P2 := Lib.hid hP2.t; have S2 := Lib.hid hS2; have N2 := Lib.hid hN2; have B2 := Lib.hid (B1.out.trans (hb2.mono B1.out.size)); clear hP2 hS2 hN2 hb2))
  have hgood := S2.out.f.good
  have SL := Lib.hid (fun (w' : World) (h : TN w' p.B p.Q T E w0) => slook_any h)
  have SC := Lib.hid (fun (w' : World) (h : TN w' p.B p.Q T E w0) => scheck_any h S2.out.f HHB.out (S2.out.kb (by omega)))
  have LN := Lib.hid (fun (w' : World) (h : TN w' p.B p.Q T E w0) => TMW.len h)
  have TB := Lib.hid (fun (w' : World) (h : TN w' p.B p.Q T E w0) => TMW.tombs h)
  have PT := Lib.hid (fun (x : Nat) (hx : x < 18446744073709551616) (w' : World) (h : TN w' p.B p.Q T E w0) => spath_any h x hx)
  have PL := Lib.hid (fun x => pl_bd hgood x)
  rw [hgood.lv] at LN
  rw [hgood.tb] at TB
  have hca := cnt_all hgood
  have hop := opens_pos S2.out.f
  have hop64 : T.opens ≤ 1 * T.n := sumN_le fun i _ => by split <;> omega
  have hmx := maxN_le T.ents (fun e he => (lk_all hgood e he).2)
  have had := addL_bd T.ents (lk_all hgood)
  rw [ents_cnt] at had
  have hN := N2.out
  rw [hN] at hca hmx had hop64
  simp only [shp] at SL
  generalize T.cnt 3 = c3 at *
  generalize T.cnt 2 = c2 at *
  generalize T.cnt 1 = c1 at *
  generalize T.opens = c0 at *
  generalize maxN T.lk T.ents = mx at *
  generalize addL T.lk T.ents = ad at *
  have hc3 : n * c3 ≤ 16 * 128 := Nat.mul_le_mul (by omega) (by omega)
  obtain ⟨u1, hu1⟩ : ∃ u1, u1 = c3 + c2 := ⟨_, rfl⟩
  obtain ⟨u8, hu8⟩ : ∃ u8, u8 = 8 * n := ⟨_, rfl⟩
  have w1' : IntKind.i64.wrap ((c3 : Int) + (c2 : Int)) = (u1 : Int) := by rw [IntKind.wrap_i64]; omega
  have w2' : IntKind.i64.wrap ((u1 : Int) + (c1 : Int)) = (u8 : Int) := by rw [IntKind.wrap_i64]; omega
  have w3' : IntKind.i64.wrap (8 * (n : Int)) = (u8 : Int) := by rw [IntKind.wrap_i64]; omega
  have w4' : IntKind.i64.wrap ((n : Int) * (c3 : Int)) = ((n * c3 : Nat) : Int) := by rw [show (n : Int) * (c3 : Int) = ((n * c3 : Nat) : Int) by simp, IntKind.wrap_i64]; omega
  have x1 : ((mx : Int) > (n : Int)) = False := by simp; omega
  have x2 : decide ((mx : Int) > (n : Int)) = false := by simp; omega
  have x3 : decide ((n : Int) < (mx : Int)) = false := by simp; omega
  have x4 : decide ((ad : Int) < (c3 : Int)) = false := by simp; omega
  have x4b : decide (ad < c3) = false := by simp; omega
  have x4c : ¬ (ad : Int) < (c3 : Int) := by omega
  have x4d : (c3 : Int) ≤ (ad : Int) := by omega
  have x5 : decide (((n * c3 : Nat) : Int) < (ad : Int)) = false := by rw [decide_eq_false_iff_not]; omega
  have x6 : decide ((ad : Int) > ((n * c3 : Nat) : Int)) = false := by rw [decide_eq_false_iff_not]; omega
  have x7 : ((c0 : Int) == 0) = false := by simp; omega
  have x6b : ¬ ((n * c3 : Nat) : Int) < (ad : Int) := by omega
  have x6d : (ad : Int) ≤ ((n * c3 : Nat) : Int) := by omega
  have x6c : decide (n * c3 < ad) = false := by rw [decide_eq_false_iff_not]; omega
  generalize n * c3 = nc at *
  clear hgood hu1 hu8 hca
  go_upto_region 7 with (go_at_call 37; (with_reducible refine (SL.out _ P2.out).mono ?_); rintro e w3 ⟨rfl, hb3⟩; have P3 := Lib.hid (P2.out.later hb3); have B3 := Lib.hid (B2.out.trans (hb3.mono B2.out.size)); clear hb3)
  refine wp_at (fun w4 hw4 => ?_)
  have hb4 : Below w3.heap.size w3 w4 := by rw [hw4]; exact (Below.refl _ _).alloc (Nat.le_refl _) _
  have S4 := Lib.hid (show Blk w4 w3.heap.size 79 (shp (c3 : Int) (c2 : Int) (c1 : Int) (c0 : Int) (mx : Int) (ad : Int)) by rw [hw4]; exact Blk.new _ _ _)
  have P4 := Lib.hid (P3.out.later hb4)
  have B4 := Lib.hid (B3.out.trans (hb4.mono B3.out.size))
  replace hw4 := Lib.hid hw4
  clear hb4 P3 B3
  obtain ⟨s0, s1, s2, s3, s4, s5, zS, -⟩ := shp_cells S4.out
  refine wp_region_seq (fun _ => False) #[⟨0, 0, 1073741824, 128, 0⟩, ⟨1, 1, 2147483648, 1073741824, 2⟩, ⟨2, 3, 4294967296, 2147483648, 0⟩, ⟨6, 7, 8589934592, 4294967296, 0⟩, ⟨8, 15, 17179869184, 8589935104, 0⟩, ⟨24, 31, 34359738368, 25769803776, 1⟩, ⟨8, 15, 68719476736, 8589935104, 0⟩, ⟨72, 79, 137438953472, 77309411328, 1⟩, ⟨168, 255, 274877906944, 180388626432, 0⟩, ⟨8, 15, 549755813888, 8589935104, 0⟩, ⟨520, 527, 1099511627776, 558345748480, 1⟩, ⟨1288, 2047, 2199023255552, 1382979469312, 0⟩, ⟨8, 15, 4398046511104, 8589934593, 0⟩, ⟨4104, 4111, 8796093022208, 4406636445696, 0⟩, ⟨10248, 16383, 17592186044416, 11003706212352, 0⟩, ⟨16392, 32767, 35184372088832, 17600775979008, 0⟩, ⟨32776, 65535, 70368744177664, 35184372088832, 0⟩, ⟨65536, 131071, 140737488355328, 70368744178176, 0⟩, ⟨196608, 262143, 281474976710656, 211106232532992, 1⟩, ⟨65536, 131071, 562949953421312, 70368744177792, 0⟩, ⟨589824, 655359, 1125899906842624, 633318697598976, 2⟩, ⟨1376256, 2097151, 2251799813685248, 1477743627730944, 0⟩, ⟨2162688, 4194303, 4503599627370496, 2322168557862912, 0⟩, ⟨5242880, 8388607, 9007199254740992, 4503599627370496, 0⟩, ⟨8388608, 16777215, 18014398509481984, 9007199254741504, 0⟩, ⟨25165824, 33554431, 36028797018963968, 27021597764222976, 1⟩, ⟨8388608, 16777215, 72057594037927936, 9007199254741120, 0⟩, ⟨75497472, 83886079, 144115188075855872, 81064793292668928, 2⟩, ⟨176160768, 268435455, 288230376151711744, 189151184349560832, 0⟩, ⟨276824064, 536870911, 576460752303423488, 297237575406452736, 0⟩, ⟨671088640, 1073741823, 1152921504606846976, 576460752303423488, 0⟩, ⟨1073741824, 2147483647, 2305843009213693952, 1152921504606847488, 0⟩, ⟨3221225472, 4294967295, 4611686018427387904, 3458764513820540928, 1⟩, ⟨1073741824, 2147483647, 9223372036854775808, 1152921504606846977, 0⟩, ⟨13958643712, 17179869183, 18446744073709551616, 14987979559889010688, 0⟩, ⟨18253611008, 34359738367, 36893488147419103232, 19599665578316398592, 0⟩, ⟨35433480192, 68719476735, 73786976294838206464, 36893488147419103232, 0⟩, ⟨68719476736, 137438953471, 147573952589676412928, 73786976294838206976, 0⟩, ⟨206158430208, 274877906943, 295147905179352825856, 221360928884514619392, 1⟩, ⟨68719476736, 137438953471, 590295810358705651712, 73786976294838206976, 0⟩, ⟨618475290624, 687194767359, 1180591620717411303424, 664082786653543858176, 1⟩, ⟨1443109011456, 2199023255551, 2361183241434822606848, 1549526502191602335744, 0⟩, ⟨2267742732288, 4398046511103, 4722366482869645213696, 2434970217729660813312, 0⟩, ⟨4466765987840, 8796093022207, 9444732965739290427392, 4722366482869645213696, 0⟩, ⟨8796093022208, 17592186044415, 18889465931478580854784, 9444732965739290427904, 0⟩, ⟨26388279066624, 35184372088831, 37778931862957161709568, 28334198897217871282176, 1⟩, ⟨8796093022208, 17592186044415, 75557863725914323419136, 9444732965739290427393, 0⟩, ⟨8796093022208, 17592186044415, 151115727451828646838272, 9444732965739290427904, 0⟩, ⟨149533581377536, 158329674399743, 302231454903657293676544, 160560460417567937265664, 1⟩, ⟨360639813910528, 510173395288063, 604462909807314587353088, 387234051595310907523072, 0⟩, ⟨606930418532352, 1125899906842623, 1208925819614629174706176, 651686574636011039490048, 0⟩, ⟨1134695999864832, 2251799813685247, 2417851639229258349412352, 1218370552580368465133568, 0⟩] 318038067119264 [(0, 0), (1, 2), (2, 0), (3, 0), (4, 0), (5, 1), (6, 0), (7, 1), (8, 0), (9, 0), (10, 1), (11, 0), (12, 0), (13, 0), (14, 0), (15, 0), (16, 0), (17, 0), (18, 1), (19, 0), (20, 2), (21, 0), (22, 0), (23, 0), (24, 0), (25, 1), (26, 0), (27, 2), (28, 0), (29, 0), (30, 0), (31, 0), (32, 1), (33, 0), (34, 0), (35, 0), (36, 0), (37, 0), (38, 1), (39, 0), (40, 1), (41, 0), (42, 0), (43, 0), (44, 0), (45, 1), (46, 0), (47, 0), (48, 1), (49, 0), (50, 0), (51, 0)] (by kernel_rfl) (by kernel_rfl) (by kernel_rfl) (by kernel_rfl) (by kernel_rfl) (by kernel_rfl) (fun c a d v w h => by cases d <;> exact h) ?_
  refine seq_calcA (h := ?_)
  try simp only [Act.put, List.setIfInBounds_toArray, List.set_cons_zero, List.set_cons_succ]
  refine seq_doA (h := fun K hK => ?_); go_wp2_with (first | (go_at_call 38; (with_reducible refine (SC.out _ (P4.out.later (Below.refl _ _).drew)).mono ?_); rintro e w5 ⟨rfl, hb5⟩; have P5 := Lib.hid ((P4.out.later (Below.refl _ _).drew).later hb5); have B5 := Lib.hid (B4.out.trans ((Below.undrew hb5).mono B4.out.size)); have S5 := Lib.hid (S4.out.drew.below hb5 S4.out.lt); obtain ⟨t0, t1, t2, t3, t4, t5, zT, -⟩ := shp_cells S5.out) | (go_at_call 16; (with_reducible refine (LN.out _ P5.out).mono ?_); rintro e w' ⟨rfl, rfl⟩) | (go_at_call 18; (with_reducible refine (TB.out _ P5.out).mono ?_); rintro e w' ⟨rfl, rfl⟩)); refine hkA hK (h := ?_); clear hK K
  try simp only [Act.put, List.setIfInBounds_toArray, List.set_cons_zero, List.set_cons_succ]
  refine seq_calcA (h := ?_)
  try simp only [Act.put, List.setIfInBounds_toArray, List.set_cons_zero, List.set_cons_succ]
  refine seq_calcA (h := ?_)
  try simp only [Act.put, List.setIfInBounds_toArray, List.set_cons_zero, List.set_cons_succ]
  first
    | (refine seq_skipA (h := ?_))
    | (refine seq_calcA (h := ?_))
  try simp only [Act.put, List.setIfInBounds_toArray, List.set_cons_zero, List.set_cons_succ]
  first
    | (refine seq_skipA (h := ?_))
    | (refine seq_load1A (hu := Tryz.underlying3) (h := ?_))
  try simp only [Act.put, List.setIfInBounds_toArray, List.set_cons_zero, List.set_cons_succ]
  first
    | (refine seq_skipA (h := ?_))
    | (refine seq_calcA (h := ?_))
  try simp only [Act.put, List.setIfInBounds_toArray, List.set_cons_zero, List.set_cons_succ]
  first
    | (refine seq_skipA (h := ?_))
    | (refine seq_load1A (hu := Tryz.underlying3) (h := ?_))
  try simp only [Act.put, List.setIfInBounds_toArray, List.set_cons_zero, List.set_cons_succ]
  first
    | (refine seq_skipA (h := ?_))
    | (refine seq_calcA (h := ?_))
  try simp only [Act.put, List.setIfInBounds_toArray, List.set_cons_zero, List.set_cons_succ]
  first
    | (refine seq_skipA (h := ?_))
    | (refine seq_calcA (h := ?_))
  try simp only [Act.put, List.setIfInBounds_toArray, List.set_cons_zero, List.set_cons_succ]
  first
    | (refine seq_skipA (h := ?_))
    | (refine seq_load1A (hu := Tryz.underlying3) (h := ?_))
  try simp only [Act.put, List.setIfInBounds_toArray, List.set_cons_zero, List.set_cons_succ]
  first
    | (refine seq_skipA (h := ?_))
    | (refine seq_calcA (h := ?_))
  try simp only [Act.put, List.setIfInBounds_toArray, List.set_cons_zero, List.set_cons_succ]
  first
    | (refine seq_skipA (h := ?_))
    | (refine seq_calcA (h := ?_))
  try simp only [Act.put, List.setIfInBounds_toArray, List.set_cons_zero, List.set_cons_succ]
  first
    | (refine seq_skipA (h := ?_))
    | (refine seq_calcA (h := ?_))
  try simp only [Act.put, List.setIfInBounds_toArray, List.set_cons_zero, List.set_cons_succ]
  first
    | (refine seq_skipA (h := ?_))
    | (refine seq_calcA (h := ?_))
  try simp only [Act.put, List.setIfInBounds_toArray, List.set_cons_zero, List.set_cons_succ]
  refine seq_calcA (h := ?_)
  try simp only [Act.put, List.setIfInBounds_toArray, List.set_cons_zero, List.set_cons_succ]
  refine seq_calcA (h := ?_)
  try simp only [Act.put, List.setIfInBounds_toArray, List.set_cons_zero, List.set_cons_succ]
  first
    | (refine seq_skipA (h := ?_))
    | (refine seq_calcA (h := ?_))
  try simp only [Act.put, List.setIfInBounds_toArray, List.set_cons_zero, List.set_cons_succ]
  first
    | (refine seq_skipA (h := ?_))
    | (refine seq_load1A (hu := Tryz.underlying3) (h := ?_))
  try simp only [Act.put, List.setIfInBounds_toArray, List.set_cons_zero, List.set_cons_succ]
  first
    | (refine seq_skipA (h := ?_))
    | (refine seq_calcA (h := ?_))
  try simp only [Act.put, List.setIfInBounds_toArray, List.set_cons_zero, List.set_cons_succ]
  first
    | (refine seq_skipA (h := ?_))
    | (refine seq_doA (h := fun K hK => ?_); go_wp2_with (first | (go_at_call 38; (with_reducible refine (SC.out _ (P4.out.later (Below.refl _ _).drew)).mono ?_); rintro e w5 ⟨rfl, hb5⟩; have P5 := Lib.hid ((P4.out.later (Below.refl _ _).drew).later hb5); have B5 := Lib.hid (B4.out.trans ((Below.undrew hb5).mono B4.out.size)); have S5 := Lib.hid (S4.out.drew.below hb5 S4.out.lt); obtain ⟨t0, t1, t2, t3, t4, t5, zT, -⟩ := shp_cells S5.out) | (go_at_call 16; (with_reducible refine (LN.out _ P5.out).mono ?_); rintro e w' ⟨rfl, rfl⟩) | (go_at_call 18; (with_reducible refine (TB.out _ P5.out).mono ?_); rintro e w' ⟨rfl, rfl⟩)); refine hkA hK (h := ?_); clear hK K)
  try simp only [Act.put, List.setIfInBounds_toArray, List.set_cons_zero, List.set_cons_succ]
  first
    | (refine seq_skipA (h := ?_))
    | (refine seq_calcA (h := ?_))
  try simp only [Act.put, List.setIfInBounds_toArray, List.set_cons_zero, List.set_cons_succ]
  refine seq_calcA (h := ?_)
  try simp only [Act.put, List.setIfInBounds_toArray, List.set_cons_zero, List.set_cons_succ]
  refine seq_calcA (h := ?_)
  try simp only [Act.put, List.setIfInBounds_toArray, List.set_cons_zero, List.set_cons_succ]
  first
    | (refine seq_skipA (h := ?_))
    | (refine seq_calcA (h := ?_))
  try simp only [Act.put, List.setIfInBounds_toArray, List.set_cons_zero, List.set_cons_succ]
  first
    | (refine seq_skipA (h := ?_))
    | (refine seq_load1A (hu := Tryz.underlying3) (h := ?_))
  try simp only [Act.put, List.setIfInBounds_toArray, List.set_cons_zero, List.set_cons_succ]
  first
    | (refine seq_skipA (h := ?_))
    | (refine seq_calcA (h := ?_))
  try simp only [Act.put, List.setIfInBounds_toArray, List.set_cons_zero, List.set_cons_succ]
  first
    | (refine seq_skipA (h := ?_))
    | (refine seq_doA (h := fun K hK => ?_); go_wp2_with (first | (go_at_call 38; (with_reducible refine (SC.out _ (P4.out.later (Below.refl _ _).drew)).mono ?_); rintro e w5 ⟨rfl, hb5⟩; have P5 := Lib.hid ((P4.out.later (Below.refl _ _).drew).later hb5); have B5 := Lib.hid (B4.out.trans ((Below.undrew hb5).mono B4.out.size)); have S5 := Lib.hid (S4.out.drew.below hb5 S4.out.lt); obtain ⟨t0, t1, t2, t3, t4, t5, zT, -⟩ := shp_cells S5.out) | (go_at_call 16; (with_reducible refine (LN.out _ P5.out).mono ?_); rintro e w' ⟨rfl, rfl⟩) | (go_at_call 18; (with_reducible refine (TB.out _ P5.out).mono ?_); rintro e w' ⟨rfl, rfl⟩)); refine hkA hK (h := ?_); clear hK K)
  try simp only [Act.put, List.setIfInBounds_toArray, List.set_cons_zero, List.set_cons_succ]
  first
    | (refine seq_skipA (h := ?_))
    | (refine seq_calcA (h := ?_))
  try simp only [Act.put, List.setIfInBounds_toArray, List.set_cons_zero, List.set_cons_succ]
  refine seq_calcA (h := ?_)
  try simp only [Act.put, List.setIfInBounds_toArray, List.set_cons_zero, List.set_cons_succ]
  refine seq_calcA (h := ?_)
  try simp only [Act.put, List.setIfInBounds_toArray, List.set_cons_zero, List.set_cons_succ]
  first
    | (refine seq_skipA (h := ?_))
    | (refine seq_calcA (h := ?_))
  try simp only [Act.put, List.setIfInBounds_toArray, List.set_cons_zero, List.set_cons_succ]
  first
    | (refine seq_skipA (h := ?_))
    | (refine seq_load1A (hu := Tryz.underlying3) (h := ?_))
  try simp only [Act.put, List.setIfInBounds_toArray, List.set_cons_zero, List.set_cons_succ]
  first
    | (refine seq_skipA (h := ?_))
    | (refine seq_calcA (h := ?_))
  try simp only [Act.put, List.setIfInBounds_toArray, List.set_cons_zero, List.set_cons_succ]
  first
    | (refine seq_skipA (h := ?_))
    | (refine seq_calcA (h := ?_))
  try simp only [Act.put, List.setIfInBounds_toArray, List.set_cons_zero, List.set_cons_succ]
  refine seq_calcA (h := ?_)
  try simp only [Act.put, List.setIfInBounds_toArray, List.set_cons_zero, List.set_cons_succ]
  refine seq_calcA (h := ?_)
  try simp only [Act.put, List.setIfInBounds_toArray, List.set_cons_zero, List.set_cons_succ]
  first
    | (refine seq_skipA (h := ?_))
    | (refine seq_calcA (h := ?_))
  try simp only [Act.put, List.setIfInBounds_toArray, List.set_cons_zero, List.set_cons_succ]
  first
    | (refine seq_skipA (h := ?_))
    | (refine seq_load1A (hu := Tryz.underlying3) (h := ?_))
  try simp only [Act.put, List.setIfInBounds_toArray, List.set_cons_zero, List.set_cons_succ]
  first
    | (refine seq_skipA (h := ?_))
    | (refine seq_calcA (h := ?_))
  try simp only [Act.put, List.setIfInBounds_toArray, List.set_cons_zero, List.set_cons_succ]
  first
    | (refine seq_skipA (h := ?_))
    | (refine seq_load1A (hu := Tryz.underlying3) (h := ?_))
  try simp only [Act.put, List.setIfInBounds_toArray, List.set_cons_zero, List.set_cons_succ]
  first
    | (refine seq_skipA (h := ?_))
    | (refine seq_calcA (h := ?_))
  try simp only [Act.put, List.setIfInBounds_toArray, List.set_cons_zero, List.set_cons_succ]
  refine seq_calcA (h := ?_)
  try simp only [Act.put, List.setIfInBounds_toArray, List.set_cons_zero, List.set_cons_succ]
  refine seq_calcA (h := ?_)
  try simp only [Act.put, List.setIfInBounds_toArray, List.set_cons_zero, List.set_cons_succ]
  first
    | (refine seq_skipA (h := ?_))
    | (refine seq_calcA (h := ?_))
  try simp only [Act.put, List.setIfInBounds_toArray, List.set_cons_zero, List.set_cons_succ]
  first
    | (refine seq_skipA (h := ?_))
    | (refine seq_load1A (hu := Tryz.underlying3) (h := ?_))
  try simp only [Act.put, List.setIfInBounds_toArray, List.set_cons_zero, List.set_cons_succ]
  first
    | (refine seq_skipA (h := ?_))
    | (refine seq_calcA (h := ?_))
  try simp only [Act.put, List.setIfInBounds_toArray, List.set_cons_zero, List.set_cons_succ]
  first
    | (refine seq_skipA (h := ?_))
    | (refine seq_calcA (h := ?_))
  try simp only [Act.put, List.setIfInBounds_toArray, List.set_cons_zero, List.set_cons_succ]
  first
    | (refine seq_skipA (h := ?_))
    | (refine seq_load1A (hu := Tryz.underlying3) (h := ?_))
  try simp only [Act.put, List.setIfInBounds_toArray, List.set_cons_zero, List.set_cons_succ]
  first
    | (refine seq_skipA (h := ?_))
    | (refine seq_calcA (h := ?_))
  try simp only [Act.put, List.setIfInBounds_toArray, List.set_cons_zero, List.set_cons_succ]
  first
    | (refine seq_skipA (h := ?_))
    | (refine seq_calcA (h := ?_))
  try simp only [Act.put, List.setIfInBounds_toArray, List.set_cons_zero, List.set_cons_succ]
  refine seq_calcA (h := ?_)
  try simp only [Act.put, List.setIfInBounds_toArray, List.set_cons_zero, List.set_cons_succ]
  refine seq_nil ?_
  go_wp2
  go_loopw [84] (fun v84 wr => ∃ k : Nat, k ≤ n1 ∧ v84 = .int .i64 (k : Int) ∧ Below w5.heap.size w5 wr) (fun v84 _ => n1 - (intOf v84).toNat)
  case atStart => exact ⟨0, Nat.zero_le _, rfl, Below.refl _ _⟩
  case round =>
    obtain ⟨k, hk, rfl, hB⟩ := hrel
    have KB := Lib.hid hB
    have PK := Lib.hid (P5.out.later hB)
    have BK := Lib.hid (B5.out.trans (hB.mono B5.out.size))
    have hs := (S5.out.below hB S5.out.lt)
    obtain ⟨r0, r1, r2, r3, r4, r5, zR, -⟩ := shp_cells hs
    clear hB hs t0 t1 t2 t3 t4 t5 zT
    by_cases hlt : k < n1
    · have hltI : (k : Int) < (n1 : Int) := by omega
      have gk := HC.out wr BK.out k hlt
      have zb := Nat.lt_of_lt_of_le hb1z BK.out.size
      have hGk := HG.out k hlt
      generalize G k = x at gk hGk
      have PX := Lib.hid (PT.out x hGk)
      obtain ⟨l1, l2⟩ := PL.out x
      rw [hN] at l2
      generalize T.pl x = pl at *
      have y1 : decide ((pl : Int) < 1) = false := by simp; omega
      have y2 : decide ((n : Int) < (pl : Int)) = false := by simp; omega
      have y3 : decide ((pl : Int) > (n : Int)) = false := by simp; omega
      go_wp2_with (go_at_call 39; (with_reducible refine (PX.out _ PK.out).mono ?_); rintro e w6 ⟨pv, rfl, hr6, hb6⟩; obtain ⟨pa, pcap, rfl⟩ := ownsRow_slice hr6; have B6 := Lib.hid (KB.out.trans (hb6.mono KB.out.size)); have q6 := shp_cells ((S5.out.below KB.out S5.out.lt).below hb6 zR); have q63 := q6.2.2.2.1; have zR6 := q6.2.2.2.2.2.2.1; clear q6 hr6)
      go_roundw
      case rel => exact ⟨k + 1, by omega, by go_num, B6.out⟩
      case measure => simp [intOf]; omega
    · obtain rfl : k = n1 := by omega
      go_wp2
      go_ret
      exact ⟨rfl, BK.out⟩
end Go.Proofs.YtgamgphfjndiiaaGreatDoor
