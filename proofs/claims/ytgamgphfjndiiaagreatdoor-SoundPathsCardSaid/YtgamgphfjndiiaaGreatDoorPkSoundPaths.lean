/- Texts joined: SoundPaths. No condition but those that stand within. -/
import Derived.Test.YtgamgphfjndiiaaGreatDoorPkSwar
import Derived.Test.YtgamgphfjndiiaaGreatDoorPkMeter
import Derived.Test.YtgamgphfjndiiaaGreatDoorPkErrs
import Derived.Test.YtgamgphfjndiiaaGreatDoorPkGroup
import Derived.Test.YtgamgphfjndiiaaGreatDoorPkTab
import Derived.Test.YtgamgphfjndiiaaGreatDoorPkTab2
import Derived.Test.YtgamgphfjndiiaaGreatDoorPkTab3
import Derived.Test.YtgamgphfjndiiaaGreatDoorPkTake
import Derived.Test.YtgamgphfjndiiaaGreatDoorPkTabM
import Derived.Test.YtgamgphfjndiiaaGreatDoorPkEvac
import Derived.Test.YtgamgphfjndiiaaGreatDoorPkSound
import Derived.Test.YtgamgphfjndiiaaGreatDoorPkRef09
import Derived.Test.YtgamgphfjndiiaaGreatDoorPkEvac2
import Derived.Test.YtgamgphfjndiiaaGreatDoorPkEvac3
import Derived.Test.YtgamgphfjndiiaaGreatDoorPkSound2
set_option linter.unusedVariables false
set_option linter.unusedSimpArgs false
namespace Go.Proofs.YtgamgphfjndiiaaGreatDoor
open Go.RowKit Go.Proofs
attribute [local go_sem] neq_nilG eql_nilG nilT
theorem numHas_any (v : Value) (xs : List Int) (x : Int) (w : World) (h : ReadsInts w v xs) (b1 : xs.length < 9223372036854775807) :
    Calls Tryz.prog 42 #[v, .int .i64 x] w fun e w' => e = .returned (.bool (decide (x ∈ xs))) ∧ w = w' := by
  obtain ⟨a, cap, rfl, hx⟩ := h
  have HX := Lib.hid hx
  clear hx
  go_enter Tryz.func42, Tryz.ntmps42
  go_wp2
  go_loop [9] (fun v8 => ∃ k : Nat, k ≤ xs.length ∧ v8 = .int .i64 (k : Int) ∧ x ∉ xs.take k) (fun v8 => xs.length - (intOf v8).toNat)
  case atStart => exact ⟨0, Nat.zero_le _, rfl, by simp⟩
  case round =>
    obtain ⟨k, hk, rfl, hn⟩ := hrel
    have HN := Lib.hid hn
    clear hn
    by_cases hlt : k < xs.length
    · obtain ⟨b, off, rfl, hc⟩ := HX.out (fun e => by rw [e] at hlt; simp at hlt)
      have c1 := hc k hlt
      clear hc
      by_cases he : x = xs[k]
      · have hI := Lib.hid (decide_eq_true (show x ∈ xs by rw [he]; exact List.getElem_mem hlt))
        have he' : (xs[k] == x) = true := by simpa using he.symm
        clear he
        go_wp2
        go_ret
        exact ⟨by rw [hI.out]; rfl, rfl⟩
      · have he' : (xs[k] == x) = false := by simpa using fun e => he e.symm
        have HN2 := Lib.hid (show x ∉ xs.take (k + 1) by rw [List.take_succ_eq_append_getElem hlt, List.mem_append]; intro h; exact h.elim HN.out (fun h => he (by simpa using h)))
        clear he
        go_wp2
        go_round
        case rel => exact ⟨k + 1, by omega, by go_num, HN2.out⟩
        case measure => simp [intOf]; omega
    · obtain rfl : k = xs.length := by omega
      have hI := Lib.hid (decide_eq_false (show x ∉ xs by have := HN.out; rwa [List.take_length] at this))
      go_wp2
      go_ret
      exact ⟨by rw [hI.out]; rfl, rfl⟩
theorem up_nat (h : Nat) (hh : h < 18446744073709551616) : h &&& (18446744073709551615 - 127) = 128 * (h / 128) := by
  apply Nat.eq_of_testBit_eq
  intro i
  rw [Nat.testBit_and, show 18446744073709551615 - 127 = 2 ^ 7 * (2 ^ 57 - 1) from by decide, show 128 * (h / 128) = 2 ^ 7 * (h / 2 ^ 7) from rfl, Nat.testBit_two_pow_mul, Nat.testBit_two_pow_mul, Nat.testBit_two_pow_sub_one, Nat.testBit_div_two_pow]
  by_cases h7 : 7 ≤ i
  · have e : i - 7 + 7 = i := by omega
    by_cases h64 : i < 64
    · have : decide (i - 7 < 57) = true := by simp; omega
      rw [this]
      simp [h7, e]
    · have hz : h.testBit i = false := Nat.testBit_lt_two_pow (Nat.lt_of_lt_of_le hh (show 2 ^ 64 ≤ 2 ^ i from Nat.pow_le_pow_right (by decide) (by omega)))
      simp [h7, e, hz]
  · simp [h7]
theorem up_bits (h : Nat) (hh : h < 18446744073709551616) : bits .andNot .u64 (h : Int) 127 = ((128 * (h / 128) : Nat) : Int) := by
  have := u64_andNot (h : Int) 127 (by omega) (by omega) (by decide) (by decide)
  rw [this]
  congr 1
  exact up_nat h hh
theorem or_bits (a b : Nat) (ha : a < 144115188075855872) (hb : b < 128) : bits .or .u64 ((128 * a : Nat) : Int) (b : Int) = ((128 * a + b : Nat) : Int) := by
  have := u64_or ((128 * a : Nat) : Int) (b : Int) (by omega) (by omega) (by omega) (by omega)
  rw [this]
  congr 1
  rw [Int.toNat_natCast, Int.toNat_natCast]
  exact (Nat.two_pow_add_eq_or_of_lt (i := 7) hb a).symm
theorem walk8_inj : ∀ r : Fin 8, ∀ j j' : Fin 8, (r.val + j.val * (j.val + 1) / 2) % 8 = (r.val + j'.val * (j'.val + 1) / 2) % 8 → j = j' := by decide +kernel
theorem walkAt8 (u j : Nat) : walkAt u 8 j = (u % 8 + j * (j + 1) / 2) % 8 := by unfold walkAt; omega
theorem wk8_inj {T : TabS} (hn : T.n = 8) {x j j' : Nat} (hj : j < 8) (hj' : j' < 8) (e : T.wk x j = T.wk x j') : j = j' := by
  unfold TabS.wk at e
  rw [hn, walkAt8, walkAt8] at e
  have := walk8_inj ⟨x / 128 % 8, Nat.mod_lt _ (by decide)⟩ ⟨j, hj⟩ ⟨j', hj'⟩ e
  exact congrArg Fin.val this
theorem wk_same {T : TabS} {x y : Nat} (h : x / 128 = y / 128) : T.wk x = T.wk y := by funext j; unfold TabS.wk; rw [h]
theorem pl_same {T : TabS} {x y : Nat} (h : x / 128 = y / 128) : T.pl x = T.pl y := by unfold TabS.pl; rw [wk_same h]
def TabS.pathL (T : TabS) (x : Nat) : List Int := (List.range (T.pl x)).map (T.wkI x)
theorem pathL_same {T : TabS} {x y : Nat} (h : x / 128 = y / 128) : T.pathL x = T.pathL y := by unfold TabS.pathL; rw [pl_same h, show T.wkI x = T.wkI y from by funext j; unfold TabS.wkI; rw [wk_same h]]
theorem pathL_row (T : TabS) (x : Nat) : (List.range (T.pl x)).map (encI (T.wkI x)) = (T.pathL x).map (Value.int .i64) := by unfold TabS.pathL; rw [List.map_map]; rfl
theorem pathL_len (T : TabS) (x : Nat) : (T.pathL x).length = T.pl x := by simp [TabS.pathL]
theorem pathL_get (T : TabS) (x i : Nat) (h : i < (T.pathL x).length) : (T.pathL x)[i] = ((T.wk x i : Nat) : Int) := by simp [TabS.pathL, TabS.wkI]
theorem pathL_once {T : TabS} (hn : T.n = 8) {x i : Nat} (h8 : T.pl x ≤ 8) (h : i < (T.pathL x).length) : (T.pathL x)[i] ∉ (T.pathL x).take i := by
  have hl := pathL_len T x
  intro hm
  obtain ⟨j, hj, e⟩ := List.mem_take_iff_getElem.1 hm
  rw [pathL_get, pathL_get] at e
  have := wk8_inj hn (x := x) (j := j) (j' := i) (by omega) (by omega) (Int.ofNat.inj e)
  omega
theorem slice_toI (b o n cap i : Nat) (h : i ≤ cap) (w : World) : (Instr.slice 60 (.slice (some ⟨b, o, none⟩) n cap) none (some (.int .i64 (i : Int))) none).run Tryz.prog w = .ok (.slice (some ⟨b, o, none⟩) i cap) w := by
  have hsz := Tryz.sizeOf3 w
  have hb : (Instr.sliceBounds true n cap none (some (.int .i64 (i : Int))) none).run Tryz.prog w = .ok (0, i, cap) w := by
    simp [Instr.sliceBounds, go_sem, h]
    try omega
  simp only [Instr.slice, Sem.run_bind, run_underlying Tryz.underlying60, Result.andThen, hb, hsz, Sem.run_pure]
  by_cases hc : cap = 0
  · subst hc
    obtain rfl : i = 0 := by omega
    rfl
  · rw [if_neg (by omega)]
    rfl
theorem path_row {w : World} {base : Nat} {v : Value} {T : TabS} {x : Nat} (h : w.ownsRow base 3 1 v (T.pl x) ((List.range (T.pl x)).map (encI (T.wkI x)))) (h1 : 1 ≤ T.pl x) :
    ∃ g cap, v = .slice (some ⟨g, 0, none⟩) (T.pl x) cap ∧ T.pl x ≤ cap ∧ ∀ i (hi : i < (T.pathL x).length), w.cell? ⟨g, i, none⟩ = some (.int .i64 (T.pathL x)[i]) := by
  rw [pathL_row] at h
  have hl := pathL_len T x
  have hr := readsInts_own h
  rcases h.2 with ⟨rfl, h0⟩ | ⟨g, cap, cur, rfl, hb, hg, hc, h2, h3, h4⟩
  · omega
  · obtain ⟨hn, hx⟩ := hr.opened
    obtain ⟨b, off, e, hc2⟩ := hx (fun e => by rw [e] at hl; simp at hl; omega)
    simp only [Option.some.injEq, Addr.mk.injEq] at e
    obtain ⟨rfl, rfl, -⟩ := e
    exact ⟨g, cap, rfl, hc, fun i hi => by have := hc2 i hi; rwa [Nat.zero_add] at this⟩
theorem readsInts_take {w : World} {g cap i : Nat} {xs : List Int} (hi : i ≤ xs.length) (h : ∀ j (hj : j < xs.length), w.cell? ⟨g, j, none⟩ = some (.int .i64 xs[j])) :
    ReadsInts w (.slice (some ⟨g, 0, none⟩) i cap) (xs.take i) :=
  ⟨some ⟨g, 0, none⟩, cap, by rw [List.length_take, Nat.min_eq_left hi], fun _ => ⟨g, 0, rfl, fun j hj => by
    rw [List.length_take, Nat.min_eq_left hi] at hj
    rw [Nat.zero_add, h j (by omega), List.getElem_take]⟩⟩
set_option maxRecDepth 100000 in
set_option maxHeartbeats 16000000 in
theorem soundPaths_any (v1 v2 : Value) (l0 l1 : Int) (n1 n2 : Nat) (f1 f2 : Nat → Nat → Int) (hl0 : 0 ≤ l0 ∧ l0 < 18446744073709551616) (hl1 : 0 ≤ l1 ∧ l1 < 18446744073709551616) (E : Nat → Addr) (w0 : World) (he : EC w0 E [1, 2, 4, 5, 14, 16]) (hT : Tab64 w0) (h1 : RowsAt w0 v1 n1 1 .u64 f1) (h2 : RowsAt w0 v2 n2 3 .i64 f2) :
    Calls Tryz.prog 6 #[v1, v2, .agg #[.int .u64 l0, .int .u64 l1]] w0 fun e w' => e = .returned (.bool true) ∧ Below w0.heap.size w0 w' := by
  have m1 := h1.2.2
  have m2 := h2.2.2
  unfold maxLen at m1 m2
  have HE := Lib.hid he
  have HT := Lib.hid hT
  have AL := Lib.hid (fun (w' : World) (hb' : Below w0.heap.size w0 w') => alive10_any E w' (HE.out.below hb') (hT.below hb'))
  have CB := Lib.hid (Blk.new w0 83 #[.int .u64 l0, .int .u64 l1])
  obtain ⟨a2, cap2, rfl, hx2⟩ := h2.cellAt (by decide)
  by_cases hok : ¬ (1 ≤ n1 ∧ n1 ≤ 100 ∧ n2 ≤ 120)
  · obtain ⟨a1, cap1, rfl, -⟩ := h1.cellAt (by decide)
    have MD := Lib.hid (fun (w' : World) (h : EC w' E [1]) => made10_no 8 a1 a2 n1 n2 cap1 cap2 (fun h => hok ⟨h.1, h.2.1, h.2.2.1⟩) E w' h)
    clear hok h1 h2 hx2 he hT
    go_enter Tryz.func6, Tryz.ntmps6
    go_wp2_with (first
      | (go_at_call 35; (with_reducible refine (AL.out _ ((Below.refl _ _).alloc (Nat.le_refl _) _)).mono ?_); rintro e w1 ⟨rfl, hb1⟩; have hB1 := Lib.hid ((show Below w0.heap.size w0 _ from (Below.refl _ _).alloc (Nat.le_refl _) _).trans (hb1.mono (by simp))); have E1 := Lib.hid ((HE.out.below hB1.out).sub (l' := [1]) (by decide)))
      | (go_at_call 36; (with_reducible refine (MD.out _ E1.out).mono ?_); rintro e w2 ⟨rfl, hb2⟩))
    go_ret
    exact ⟨rfl, hB1.out.trans (hb2.mono hB1.out.size)⟩
  obtain ⟨k1, k2, k3⟩ := Classical.not_not.1 hok
  obtain ⟨b1, o1, cap1, G, rfl, hb1z, hG, hc1⟩ := hashes_of h1 k1
  have hHb : ∀ q, hashH n1 G q < 18446744073709551616 := hashH_lt k1 hG
  have MD := Lib.hid (fun (w' : World) (hw' : Below w0.heap.size w0 w') => made10_ok 8 n1 n2 (by decide) (by decide) k1 k2 k3 b1 o1 cap1 cap2 a2 G f2 E w0 w' HE.out HT.out hw' hb1z hG hc1 hx2)
  simp only [show ((8 : Nat) : Int) = 8 from rfl] at MD
  obtain ⟨y0, rfl⟩ := Int.eq_ofNat_of_zero_le hl0.1
  obtain ⟨y1, rfl⟩ := Int.eq_ofNat_of_zero_le hl1.1
  have hy0 : y0 < 18446744073709551616 := by omega
  have hy1 : y1 < 18446744073709551616 := by omega
  have HC := Lib.hid hc1
  have HG := Lib.hid hG
  have HHB := Lib.hid hHb
  clear hok h1 h2 hx2 he hT hG hc1 hHb hl0 hl1
  go_enter Tryz.func6, Tryz.ntmps6
  go_upto_region 6 with (first
    | (go_at_call 35; (with_reducible refine (AL.out _ ((Below.refl _ _).alloc (Nat.le_refl _) _)).mono ?_); rintro e w1 ⟨rfl, hb1⟩; have B1 := Lib.hid ((show Below w0.heap.size w0 _ from (Below.refl _ _).alloc (Nat.le_refl _) _).trans (hb1.mono (by simp))); have C1 := Lib.hid (CB.out.below hb1 CB.out.lt); clear hb1)
    | (go_at_call 36; (with_reducible refine (MD.out _ B1.out).mono ?_); rintro e w2 ⟨p, T, L, rfl, hP2, hS2, hN2, -, -, -, hb2⟩; have P2 := Lib.hid hP2.t; have S2 := Lib.hid hS2; have N2 := Lib.hid hN2; have B2 := Lib.hid (B1.out.trans (hb2.mono B1.out.size)); have C2 := Lib.hid (C1.out.below hb2 C1.out.lt); clear hP2 hS2 hN2 hb2))
  have hgood := S2.out.f.good
  have SL := Lib.hid (fun (w' : World) (h : TN w' p.B p.Q T E w0) => slook_any h)
  have SC := Lib.hid (fun (w' : World) (h : TN w' p.B p.Q T E w0) => scheck_any h S2.out.f HHB.out (S2.out.kb (by omega)))
  have TX := Lib.hid (fun (w' : World) (h : TN w' p.B p.Q T E w0) => TMW.text h)
  have ST := Lib.hid (fun (v1 v2 : Value) (w' : World) h1 h2 => sameTexts_any v1 v2 T.texts w' h1 h2 (by rw [TabS.texts_len]; have := hgood.bounds; omega))
  have PT := Lib.hid (fun (x : Nat) (hx : x < 18446744073709551616) (w' : World) (h : TN w' p.B p.Q T E w0) => spath_any h x hx)
  have PL := Lib.hid (fun x => pl_bd hgood x)
  have WKL := Lib.hid (show ∀ x i, T.wk x i < T.n from fun x i => walkAt_lt _ _ _ (by have := hgood.bounds; omega))
  simp only [shp] at SL
  generalize T.cnt 3 = c3 at *
  generalize T.cnt 2 = c2 at *
  generalize T.cnt 1 = c1 at *
  generalize T.opens = c0 at *
  generalize maxN T.lk T.ents = mx at *
  generalize addL T.lk T.ents = ad at *
  clear hgood
  go_wp2_with (go_at_call 24; (with_reducible refine (TX.out _ P2.out).mono ?_); rintro e w3 ⟨tv, rfl, ht3, hb3⟩; have P3 := Lib.hid (P2.out.later hb3); have T3 := Lib.hid ht3; have B3 := Lib.hid (B2.out.trans (hb3.mono B2.out.size)); have C3 := Lib.hid (C2.out.below hb3 C2.out.lt); clear ht3 hb3)
  go_loopw [34] (fun v34 wr => ∃ k : Nat, k ≤ n1 ∧ v34 = .int .i64 (k : Int) ∧ Below w3.heap.size w3 wr) (fun v34 _ => n1 - (intOf v34).toNat)
  case atStart => exact ⟨0, Nat.zero_le _, rfl, Below.refl _ _⟩
  case round =>
    obtain ⟨k, hk, rfl, hB⟩ := hrel
    obtain ⟨wA, hwA⟩ : ∃ wA, wA = wr := ⟨_, rfl⟩
    subst hwA
    have KB := Lib.hid hB
    have PK := Lib.hid (P3.out.later hB)
    have BK := Lib.hid (B3.out.trans (hB.mono B3.out.size))
    have CK := Lib.hid (C3.out.below hB C3.out.lt)
    have TK := Lib.hid (T3.out.later hB)
    clear hB
    by_cases hlt : k < n1
    · have hltI : (k : Int) < (n1 : Int) := by omega
      have gk := HC.out wA BK.out k hlt
      have zb := Nat.lt_of_lt_of_le hb1z BK.out.size
      have hGk := HG.out k hlt
      generalize G k = x at gk hGk
      obtain ⟨c0', c1'⟩ := cells2 CK.out
      have zC := CK.out.lt
      have q1 := up_bits x hGk
      have q2 := h2_bits y0 hy0
      have q3 := h2_bits y1 hy1
      have q4 := or_bits (x / 128) (y0 % 128) (by omega) (Nat.mod_lt _ (by decide))
      have q5 := or_bits (x / 128) (y1 % 128) (by omega) (Nat.mod_lt _ (by decide))
      have r0 : (128 * (x / 128) + y0 % 128) / 128 = x / 128 := by omega
      have r1 : (128 * (x / 128) + y1 % 128) / 128 = x / 128 := by omega
      have hx0 : 128 * (x / 128) + y0 % 128 < 18446744073709551616 := by omega
      have hx1 : 128 * (x / 128) + y1 % 128 < 18446744073709551616 := by omega
      have SP := Lib.hid (pathL_same (T := T) (show (128 * (x / 128) + y1 % 128) / 128 = (128 * (x / 128) + y0 % 128) / 128 by rw [r0, r1]))
      have W0 := Lib.hid (show T.wk (128 * (x / 128) + y0 % 128) 0 = x / 128 % 8 by unfold TabS.wk; rw [r0, N2.out, walkAt_zero])
      have PX0 := Lib.hid (fun (w' : World) (h : TN w' p.B p.Q T E w0) => PT.out _ hx0 w' h)
      have PX1 := Lib.hid (fun (w' : World) (h : TN w' p.B p.Q T E w0) => PT.out _ hx1 w' h)
      have H1 := Lib.hid (fun (w' : World) => h1_any x hGk w')
      obtain ⟨u, hu⟩ : ∃ u, u = 128 * (x / 128) := ⟨_, rfl⟩
      obtain ⟨m0, hm0⟩ : ∃ m0, m0 = y0 % 128 := ⟨_, rfl⟩
      obtain ⟨m1', hm1⟩ : ∃ m1', m1' = y1 % 128 := ⟨_, rfl⟩
      obtain ⟨x0, hxx0⟩ : ∃ x0, x0 = 128 * (x / 128) + y0 % 128 := ⟨_, rfl⟩
      obtain ⟨x1, hxx1⟩ : ∃ x1, x1 = 128 * (x / 128) + y1 % 128 := ⟨_, rfl⟩
      rw [← hxx0] at q4 SP W0 PX0
      rw [← hxx1] at q5 SP PX1
      rw [← hu] at q1 q4 q5
      rw [← hm0] at q2 q4
      rw [← hm1] at q3 q5
      obtain ⟨v8, hv8⟩ : ∃ v8, v8 = x / 128 := ⟨_, rfl⟩
      rw [← hv8] at H1 W0
      clear hu hm0 hm1 hxx0 hxx1 r0 r1 hx0 hx1
      go_upto_region 10 with (fail)
      refine wp_region_seq (fun _ => False) #[⟨0, 0, 274877906944, 128, 0⟩, ⟨0, 0, 549755813888, 2048, 0⟩, ⟨2, 2, 1099511627776, 549755813888, 0⟩, ⟨0, 0, 2199023255552, 32, 0⟩, ⟨8, 8, 4398046511104, 2199023255552, 1⟩, ⟨16, 24, 8796093022208, 4398046511104, 0⟩, ⟨36, 62, 17592186044416, 9895604649984, 0⟩, ⟨65, 127, 35184372088832, 17867063951360, 2⟩, ⟨0, 0, 70368744177664, 128, 0⟩, ⟨0, 0, 140737488355328, 2048, 0⟩, ⟨512, 512, 281474976710656, 140737488355328, 0⟩, ⟨0, 0, 562949953421312, 32, 0⟩, ⟨2048, 2048, 1125899906842624, 562949953421312, 1⟩, ⟨4096, 6144, 2251799813685248, 1125899906842624, 0⟩, ⟨9216, 15872, 4503599627370496, 2533274790395904, 0⟩, ⟨16768, 32767, 9007199254740992, 4573968371548160, 3⟩, ⟨33023, 65535, 4096, 35184372088832, 0⟩, ⟨131071, 131071, 8192, 9007199254740992, 0⟩] 4112 [(0, 0), (1, 0), (2, 0), (3, 0), (4, 1), (5, 0), (6, 0), (8, 0), (9, 0), (10, 0), (11, 0), (12, 1), (13, 0), (14, 0), (7, 2), (15, 3), (16, 0), (17, 0)] (by kernel_rfl) (by kernel_rfl) (by kernel_rfl) (by kernel_rfl) (by kernel_rfl) (by kernel_rfl) (fun c a d v w h => by cases d <;> exact h) ?_
      refine seq_calcA (h := ?_)
      try simp only [Act.put, List.setIfInBounds_toArray, List.set_cons_zero, List.set_cons_succ]
      refine seq_calcA (h := ?_)
      try simp only [Act.put, List.setIfInBounds_toArray, List.set_cons_zero, List.set_cons_succ]
      refine seq_calcA (h := ?_)
      try simp only [Act.put, List.setIfInBounds_toArray, List.set_cons_zero, List.set_cons_succ]
      refine seq_calcA (h := ?_)
      try simp only [Act.put, List.setIfInBounds_toArray, List.set_cons_zero, List.set_cons_succ]
      refine seq_load1A (hu := Tryz.underlying45) (h := ?_)
      try simp only [Act.put, List.setIfInBounds_toArray, List.set_cons_zero, List.set_cons_succ]
      refine seq_calcA (h := ?_)
      try simp only [Act.put, List.setIfInBounds_toArray, List.set_cons_zero, List.set_cons_succ]
      refine seq_calcA (h := ?_)
      try simp only [Act.put, List.setIfInBounds_toArray, List.set_cons_zero, List.set_cons_succ]
      refine seq_calcA (h := ?_)
      try simp only [Act.put, List.setIfInBounds_toArray, List.set_cons_zero, List.set_cons_succ]
      refine seq_calcA (h := ?_)
      try simp only [Act.put, List.setIfInBounds_toArray, List.set_cons_zero, List.set_cons_succ]
      refine seq_calcA (h := ?_)
      try simp only [Act.put, List.setIfInBounds_toArray, List.set_cons_zero, List.set_cons_succ]
      refine seq_calcA (h := ?_)
      try simp only [Act.put, List.setIfInBounds_toArray, List.set_cons_zero, List.set_cons_succ]
      refine seq_load1A (hu := Tryz.underlying45) (h := ?_)
      try simp only [Act.put, List.setIfInBounds_toArray, List.set_cons_zero, List.set_cons_succ]
      refine seq_calcA (h := ?_)
      try simp only [Act.put, List.setIfInBounds_toArray, List.set_cons_zero, List.set_cons_succ]
      refine seq_calcA (h := ?_)
      try simp only [Act.put, List.setIfInBounds_toArray, List.set_cons_zero, List.set_cons_succ]
      refine seq_doA (h := fun K hK => ?_); go_wp2_with (first | (go_at_call 39; (with_reducible refine (PX0.out _ (PK.out.later (Below.refl _ _).drew)).mono ?_); rintro e w5 ⟨pv, rfl, hr5, hb5⟩; have P5 := Lib.hid ((PK.out.later (Below.refl _ _).drew).later hb5); have R5 := Lib.hid hr5; have B5 := Lib.hid (KB.out.trans ((Below.undrew hb5).mono KB.out.size)); have q5' := cells2 (CK.out.drew.below hb5 CK.out.lt); have c05 := q5'.1; have c15 := q5'.2; have zC5 := (CK.out.drew.below hb5 CK.out.lt).lt; clear q5' hr5) | (go_at_call 39; (with_reducible refine (PX1.out _ P5.out).mono ?_); rintro e w6 ⟨pw, rfl, hr6, hb6⟩; have P6 := Lib.hid (P5.out.later hb6); have R6 := Lib.hid hr6; have B6 := Lib.hid (B5.out.trans (hb6.mono B5.out.size)); have R56 := Lib.hid (ownsRow_later R5.out hb6); clear hr6)); refine hkA hK (h := ?_); clear hK K
      try simp only [Act.put, List.setIfInBounds_toArray, List.set_cons_zero, List.set_cons_succ]
      refine seq_lastA (h := fun K hK => ?_); go_wp2_with (first | (go_at_call 39; (with_reducible refine (PX0.out _ (PK.out.later (Below.refl _ _).drew)).mono ?_); rintro e w5 ⟨pv, rfl, hr5, hb5⟩; have P5 := Lib.hid ((PK.out.later (Below.refl _ _).drew).later hb5); have R5 := Lib.hid hr5; have B5 := Lib.hid (KB.out.trans ((Below.undrew hb5).mono KB.out.size)); have q5' := cells2 (CK.out.drew.below hb5 CK.out.lt); have c05 := q5'.1; have c15 := q5'.2; have zC5 := (CK.out.drew.below hb5 CK.out.lt).lt; clear q5' hr5) | (go_at_call 39; (with_reducible refine (PX1.out _ P5.out).mono ?_); rintro e w6 ⟨pw, rfl, hr6, hb6⟩; have P6 := Lib.hid (P5.out.later hb6); have R6 := Lib.hid hr6; have B6 := Lib.hid (B5.out.trans (hb6.mono B5.out.size)); have R56 := Lib.hid (ownsRow_later R5.out hb6); clear hr6)); refine hK.out _ _ ?_; clear hK K
      try simp only [Act.put, List.setIfInBounds_toArray, List.set_cons_zero, List.set_cons_succ]
      refine seq_calcA (h := ?_)
      try simp only [Act.put, List.setIfInBounds_toArray, List.set_cons_zero, List.set_cons_succ]
      refine seq_calcA (h := ?_)
      try simp only [Act.put, List.setIfInBounds_toArray, List.set_cons_zero, List.set_cons_succ]
      refine seq_nil ?_
      go_upto_region 11 with (fail)
      obtain ⟨g, capP, rfl, hcapP, hcc⟩ := path_row R56.out (PL.out x0).1
      have R6' := R6.out
      rw [pathL_row, SP.out] at R6'
      have RY := Lib.hid ((readsInts_own R6').later (Below.refl _ _).drew)
      have RX := Lib.hid (show ∀ j (hj : j < (T.pathL x0).length), w6.drew.cell? ⟨g, j, none⟩ = some (.int .i64 (T.pathL x0)[j]) from hcc)
      have hlen := pathL_len T x0
      obtain ⟨hm1p, hm8⟩ := PL.out x0
      rw [N2.out] at hm8
      have ON := Lib.hid (fun i (h : i < (T.pathL x0).length) => pathL_once N2.out hm8 h)
      have g0 := pathL_get T x0 0 (by omega)
      rw [W0.out] at g0
      have RX0 := Lib.hid (show ReadsInts w6.drew (.slice (some ⟨g, 0, none⟩) (T.pathL x0).length capP) (T.pathL x0) from by have := readsInts_take (cap := capP) (Nat.le_refl _) RX.out; rwa [List.take_length] at this)
      have cell0 := RX.out 0 (by omega)
      rw [g0] at cell0
      rw [hlen] at RX0
      clear g0
      generalize T.pathL x0 = xs at RX0 RX RY ON cell0 hlen
      generalize T.pl x0 = m at RX0 hlen hm1p hm8 hcapP
      clear R6' hcc R5 R6 R56 SP W0 PX0 PX1
      have hmI : ¬ (((m : Nat) : Int) < 1) := by omega
      have hmN : 0 < m := hm1p
      have hmD : decide (((m : Nat) : Int) < 1) = false := decide_eq_false hmI
      have hmD2 : decide (m < 1) = false := decide_eq_false (by omega)
      have hmZ : ¬ m = 0 := by omega
      have hmD3 : decide (m = 0) = false := decide_eq_false hmZ
      obtain ⟨r8, hr8⟩ : ∃ r8, r8 = v8 % 8 := ⟨_, rfl⟩
      have tm : ((v8 : Nat) : Int).tmod 8 = (r8 : Int) := by rw [Int.tmod_eq_emod_of_nonneg (by omega)]; omega
      have hr8' : r8 < 8 := by omega
      rw [← hr8] at cell0
      have hv8' : v8 < 144115188075855872 := by omega
      have hmI0 : (0 : Int) < (m : Int) := by omega
      have wr8 : IntKind.i64.wrap (r8 : Int) = (r8 : Int) := by rw [IntKind.wrap_i64]; omega
      have neS : (((r8 : Nat) : Int) != (r8 : Int)) = false := by simp
      clear hr8 hv8
      refine wp_region_seq (fun _ => False) #[⟨0, 0, 18014398509481984, 4096, 0⟩, ⟨0, 0, 36028797018963968, 8192, 0⟩, ⟨3, 3, 72057594037927936, 54043195528445952, 2⟩, ⟨4, 7, 144115188075855872, 72057594037927936, 0⟩, ⟨12, 15, 288230376151711744, 144115188075855872, 0⟩, ⟨16, 31, 576460752303423488, 288230376151715840, 0⟩, ⟨48, 63, 1152921504606846976, 864691128455135232, 0⟩, ⟨80, 127, 2305843009213693952, 1441151880758558720, 0⟩, ⟨144, 255, 4611686018427387904, 2594073385365405696, 0⟩, ⟨272, 511, 9223372036854775808, 4611686018427387904, 0⟩, ⟨512, 1023, 18446744073709551616, 9223372036854779904, 0⟩, ⟨1536, 2047, 36893488147419103232, 27670116110564327424, 0⟩, ⟨2560, 4095, 73786976294838206464, 46116860184273879040, 1⟩, ⟨512, 1023, 147573952589676412928, 9223372036854777856, 0⟩, ⟨8704, 9215, 295147905179352825856, 156797324626531188736, 2⟩, ⟨16896, 25599, 590295810358705651712, 304371277216207601664, 0⟩, ⟨33280, 58367, 1180591620717411303424, 599519182395560427520, 0⟩, ⟨70144, 131071, 2361183241434822606848, 1263601969049104285696, 0⟩, ⟨131584, 262143, 4722366482869645213696, 2370406613471677382656, 0⟩] 4096 [(0, 0), (1, 0), (2, 2), (3, 0), (4, 0), (5, 0), (6, 0), (7, 0), (8, 0), (9, 0), (10, 0), (11, 0), (12, 1), (13, 0), (14, 2), (15, 0), (16, 0), (17, 0), (18, 0)] (by kernel_rfl) (by kernel_rfl) (by kernel_rfl) (by kernel_rfl) (by kernel_rfl) (by kernel_rfl) (fun c a d v w h => by cases d <;> exact h) ?_
      refine seq_calcA (h := ?_)
      try simp only [Act.put, List.setIfInBounds_toArray, List.set_cons_zero, List.set_cons_succ]
      refine seq_calcA (h := ?_)
      try simp only [Act.put, List.setIfInBounds_toArray, List.set_cons_zero, List.set_cons_succ]
      refine seq_doA (h := fun K hK => ?_); go_wp2_with (first | (go_at_call 40; (with_reducible refine (sameInts_any _ _ xs xs _ RX0.out RY.out (by rw [hlen]; omega)).mono ?_); rintro e w7 ⟨rfl, rfl⟩; simp only [decide_true]) | (go_at_call 41; (with_reducible refine (H1.out _).mono ?_); rintro e w7 ⟨rfl, rfl⟩)); refine hkA hK (h := ?_); clear hK K
      try simp only [Act.put, List.setIfInBounds_toArray, List.set_cons_zero, List.set_cons_succ]
      refine seq_calcA (h := ?_)
      try simp only [Act.put, List.setIfInBounds_toArray, List.set_cons_zero, List.set_cons_succ]
      refine seq_calcA (h := ?_)
      try simp only [Act.put, List.setIfInBounds_toArray, List.set_cons_zero, List.set_cons_succ]
      first
        | (refine seq_skipA (h := ?_))
        | (refine seq_calcA (h := ?_))
      try simp only [Act.put, List.setIfInBounds_toArray, List.set_cons_zero, List.set_cons_succ]
      first
        | (refine seq_skipA (h := ?_))
        | (refine seq_calcA (h := ?_))
      try simp only [Act.put, List.setIfInBounds_toArray, List.set_cons_zero, List.set_cons_succ]
      first
        | (refine seq_skipA (h := ?_))
        | (refine seq_calcA (h := ?_))
      try simp only [Act.put, List.setIfInBounds_toArray, List.set_cons_zero, List.set_cons_succ]
      refine seq_calcA (h := ?_)
      try simp only [Act.put, List.setIfInBounds_toArray, List.set_cons_zero, List.set_cons_succ]
      refine seq_calcA (h := ?_)
      try simp only [Act.put, List.setIfInBounds_toArray, List.set_cons_zero, List.set_cons_succ]
      first
        | (refine seq_skipA (h := ?_))
        | (refine seq_calcA (h := ?_))
      try simp only [Act.put, List.setIfInBounds_toArray, List.set_cons_zero, List.set_cons_succ]
      first
        | (refine seq_skipA (h := ?_))
        | (refine seq_calcA (h := ?_))
      try simp only [Act.put, List.setIfInBounds_toArray, List.set_cons_zero, List.set_cons_succ]
      first
        | (refine seq_skipA (h := ?_))
        | (refine seq_load1A (hu := Tryz.underlying3) (h := ?_))
      try simp only [Act.put, List.setIfInBounds_toArray, List.set_cons_zero, List.set_cons_succ]
      first
        | (refine seq_skipA (h := ?_))
        | (refine seq_calcA (h := ?_))
      try simp only [Act.put, List.setIfInBounds_toArray, List.set_cons_zero, List.set_cons_succ]
      first
        | (refine seq_skipA (h := ?_))
        | (refine seq_doA (h := fun K hK => ?_); go_wp2_with (first | (go_at_call 40; (with_reducible refine (sameInts_any _ _ xs xs _ RX0.out RY.out (by rw [hlen]; omega)).mono ?_); rintro e w7 ⟨rfl, rfl⟩; simp only [decide_true]) | (go_at_call 41; (with_reducible refine (H1.out _).mono ?_); rintro e w7 ⟨rfl, rfl⟩)); refine hkA hK (h := ?_); clear hK K)
      try simp only [Act.put, List.setIfInBounds_toArray, List.set_cons_zero, List.set_cons_succ]
      first
        | (refine seq_skipA (h := ?_))
        | (refine seq_calcA (h := ?_))
      try simp only [Act.put, List.setIfInBounds_toArray, List.set_cons_zero, List.set_cons_succ]
      first
        | (refine seq_skipA (h := ?_))
        | (refine seq_calcA (h := ?_))
      try simp only [Act.put, List.setIfInBounds_toArray, List.set_cons_zero, List.set_cons_succ]
      first
        | (refine seq_skipA (h := ?_))
        | (refine seq_calcA (h := ?_))
      try simp only [Act.put, List.setIfInBounds_toArray, List.set_cons_zero, List.set_cons_succ]
      refine seq_calcA (h := ?_)
      try simp only [Act.put, List.setIfInBounds_toArray, List.set_cons_zero, List.set_cons_succ]
      refine seq_nil ?_
      clear hmI hmN hmD hmD2 hmZ hmD3 hmI0
      go_wp2
      go_loop [75] (fun v75 => ∃ i : Nat, i ≤ m ∧ v75 = .int .i64 (i : Int)) (fun v75 => m - (intOf v75).toNat)
      case atStart => exact ⟨0, Nat.zero_le _, rfl⟩
      case round =>
        obtain ⟨i, hi, rfl⟩ := hrel
        by_cases him : i < m
        · have himI : (i : Int) < (m : Int) := by omega
          have ci := RX.out i (by omega)
          have hnot := Lib.hid (ON.out i (by omega))
          have sli := slice_toI g 0 m capP i (by omega)
          have RT := Lib.hid (readsInts_take (cap := capP) (i := i) (by omega) RX.out)
          generalize xs[i] = y at ci hnot
          go_wp2_with (go_at_call 42; (with_reducible refine (numHas_any _ (xs.take i) y _ RT.out (by rw [List.length_take]; omega)).mono ?_); rintro e w7 ⟨rfl, rfl⟩; simp only [decide_eq_false hnot.out])
          go_round
          case rel => exact ⟨i + 1, by omega, by go_num⟩
          case measure => simp [intOf]; omega
        · obtain rfl : i = m := by omega
          go_wp2
          go_round
          case rel => exact ⟨k + 1, by omega, by go_num, B6.out.trans (Below.drew (Below.refl _ _))⟩
          case measure => simp [intOf]; omega
    · obtain rfl : k = n1 := by omega
      go_wp2_with (first
        | (go_at_call 37; (with_reducible refine (SL.out _ PK.out).mono ?_); rintro e w5 ⟨rfl, hb5⟩; have P5 := Lib.hid (PK.out.later hb5); have T5 := Lib.hid (TK.out.later hb5); have B5 := Lib.hid (BK.out.trans (hb5.mono BK.out.size)))
        | (go_at_call 37; (with_reducible refine (SL.out _ P5.out).mono ?_); rintro e w6 ⟨rfl, hb6⟩; have P6 := Lib.hid (P5.out.later hb6); have T6 := Lib.hid (T5.out.later hb6); have B6 := Lib.hid (B5.out.trans (hb6.mono B5.out.size)))
        | (go_at_call 38; (with_reducible refine (SC.out _ P6.out).mono ?_); rintro e w7 ⟨rfl, hb7⟩; have P7 := Lib.hid (P6.out.later hb7); have T7 := Lib.hid (T6.out.later hb7); have B7 := Lib.hid (B6.out.trans (hb7.mono B6.out.size)))
        | (go_at_call 24; (with_reducible refine (TX.out _ P7.out).mono ?_); rintro e w8 ⟨uv, rfl, hu8, hb8⟩; have U8 := Lib.hid hu8; have T8 := Lib.hid (T7.out.later hb8); have B8 := Lib.hid (B7.out.trans (hb8.mono B7.out.size)); clear hu8)
        | (go_at_call 23; (with_reducible refine (ST.out _ _ _ U8.out T8.out).mono ?_); rintro e w' ⟨rfl, rfl⟩))
      go_ret
      exact ⟨rfl, B8.out⟩
end Go.Proofs.YtgamgphfjndiiaaGreatDoor
