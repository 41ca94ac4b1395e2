/- The document's directory. Condition: the depth is right. -/
import Derived.Test.YtplimhllfbdocaaDoorRef03d
import Derived.Test.YtplimhllfbdocaaDoorDir
namespace Go.Proofs.YtplimhllfbdocaaDoor
set_option linter.unusedVariables false
set_option linter.unusedSimpArgs false
open Go.RowKit Go.Proofs

/-- blocks M and Z hold the document's directory of depth d whose entries are es -/
structure RD (w : World) (M Z d : Nat) (es : List Int) : Prop where
  head : Blk w M 104 #[.int .i64 (d : Int), .slice (some ⟨Z, 0, none⟩) es.length es.length]
  ring : Blk w Z 3 (es.map (Value.int .i64)).toArray
  ne : M ≠ Z
  deep : d ≤ 5
  len : es.length = 2 ^ d
theorem RD.below {w w' : World} {M Z d : Nat} {es : List Int} (h : RD w M Z d es) (hb : Below w.heap.size w w') : RD w' M Z d es := ⟨h.head.below hb h.head.lt, h.ring.below hb h.ring.lt, h.ne, h.deep, h.len⟩
theorem RD.chg {X : Nat → Prop} {w w' : World} {M Z d : Nat} {es : List Int} (h : RD w M Z d es) (hb : Chg X w w') (h1 : ¬ X M) (h2 : ¬ X Z) : RD w' M Z d es := ⟨h.head.chg hb h1, h.ring.chg hb h2, h.ne, h.deep, h.len⟩
theorem RD.pos {w : World} {M Z d : Nat} {es : List Int} (h : RD w M Z d es) : 1 ≤ es.length ∧ es.length ≤ 32 := by
  rw [h.len]
  exact ⟨Nat.one_le_two_pow, Nat.pow_le_pow_right (by decide) h.deep⟩
theorem RD.cellD {w : World} {M Z d : Nat} {es : List Int} (h : RD w M Z d es) (i : Nat) (hi : i < es.length) : w.cell? ⟨Z, i, none⟩ = some (.int .i64 (es.getD i 0)) := by
  rw [h.ring.cell]; simp [List.getD_eq_getElem?_getD, List.getElem?_eq_getElem hi]
theorem RD.set {w : World} {M Z d : Nat} {es : List Int} (h : RD w M Z d es) (i : Nat) (x : Int) : RD (w.setCell ⟨Z, i, none⟩ (.int .i64 x)) M Z d (es.set i x) := by
  refine ⟨?_, ?_, h.ne, h.deep, by rw [List.length_set]; exact h.len⟩
  · rw [List.length_set]; exact h.head.other h.ne _ _
  · have := h.ring.set i (.int .i64 x)
    simpa using this
theorem RD.reads {w : World} {M Z d : Nat} {es : List Int} (h : RD w M Z d es) : ReadsInts w (.slice (some ⟨Z, 0, none⟩) es.length es.length) es := readsInts_blk h.ring rfl
/-- a directory of the document's, newly made -/
def NewRD (d : Nat) (w : World) (e : Ending) (w' : World) : Prop := ∃ M Z, e = .returned (.tuple #[.pointer (some ⟨M, 0, none⟩), .int .i64 0]) ∧ RD w' M Z d (List.replicate (2 ^ d) 0) ∧ w.heap.size ≤ M ∧ w.heap.size ≤ Z ∧ Below w.heap.size w w'
set_option maxRecDepth 100000 in
set_option maxHeartbeats 1600000 in
theorem rdnew_ok (d : Nat) (hd : d ≤ 5) (w : World) : Calls Tryd.prog 121 #[.int .i64 (d : Int)] w (NewRD d w) := by
  obtain ⟨i0, hi, hz0, hz1, hz2⟩ := info_parts infoD
  have e1 : decide ((d : Int) < 0) = false := by simp
  have e2 : decide ((d : Int) > 5) = false := by simp; omega
  have h9 : ∀ k : Nat, k ≤ 5 → 2 ^ k ≤ 32 := fun k hk => Nat.pow_le_pow_right (n := 2) (by decide) hk
  have H9 := Lib.hid h9
  clear h9
  go_enter Tryd.func121, Tryd.ntmps121
  go_wp2
  go_loop [4, 5] (fun v3 v4 => ∃ k : Nat, k ≤ d ∧ v4 = .int .i64 (k : Int) ∧ v3 = .int .i64 ((2 ^ k : Nat) : Int)) (fun _ v4 => d - (intOf v4).toNat)
  case atStart => exact ⟨0, Nat.zero_le _, rfl, rfl⟩
  case round =>
    obtain ⟨k, hk, rfl, rfl⟩ := hrel
    by_cases hlt : k < d
    · have h1 := H9.out k (by omega)
      have h2 : 2 ^ (k + 1) = 2 ^ k * 2 := Nat.pow_succ ..
      generalize 2 ^ k = m at *
      have H2 := Lib.hid h2
      clear h2
      go_wp2
      go_round
      case rel => exact ⟨k + 1, by omega, by go_num, by rw [H2.out]; go_num⟩
      case measure => simp [intOf]; omega
    · obtain rfl : k = d := by omega
      have hy : 1 ≤ 2 ^ k ∧ 2 ^ k ≤ 32 := ⟨Nat.one_le_two_pow, H9.out _ hd⟩
      obtain ⟨y, hye⟩ : ∃ y, y = 2 ^ k := ⟨_, rfl⟩
      rw [← hye] at hy ⊢
      obtain ⟨y1, y2⟩ := hy
      replace hye := Lib.hid hye
      go_wp2_with (at_make; refine wpList_make_full _ rfl _ _ 52 rfl w.heap.size 3 i0 (.int .i64 0) 1 Tryd.underlying52 hi hz0 hz1 .i64 .i64 _ _ y rfl rfl rfl rfl (by rw [hz2]; omega) (by unfold maxLen; omega) (Nat.le_refl _) ?_; intro w1 hown1 hgrow1; have hb1 := Lib.hid (ownsRowD_blk hown1); have hB1 : Below w.heap.size w w1 := (Below.refl _ _).grown hgrow1 (Nat.le_refl _) (fun k e => by cases e); clear hgrow1 hown1)
      go_ret2
      refine ⟨w1.heap.size, w.heap.size, rfl, ⟨?_, ?_, by have := hb1.out.lt; omega, hd, by simp⟩, hB1.size, Nat.le_refl _, hB1.alloc hB1.size _⟩
      · have := Blk.new w1 104 #[.int .i64 (k : Int), .slice (some ⟨w.heap.size, 0, none⟩) y y]
        rw [List.length_replicate, ← hye.out]
        exact this
      · have := hb1.out.alloc (.cells #[.int .i64 (k : Int), .slice (some ⟨w.heap.size, 0, none⟩) y y] 104)
        rw [show (madeCells (Value.int .i64 0).cells (y * 1)).toList = List.replicate y (Value.int .i64 0) by rw [Nat.mul_one]; exact toList_madeCells_one _ _] at this
        rw [← hye.out, List.map_replicate]
        exact this
theorem rdnew_bad (a : Int) (ha : a < 0 ∨ 5 < a) (w : World) :
    Calls Tryd.prog 121 #[.int .i64 a] w fun e w' => e = .returned (.tuple #[.pointer none, .int .i64 1]) ∧ w = w' := by
  by_cases h1 : a < 0
  · have e1 : decide (a < 0) = true := by simpa using h1
    clear ha h1
    go_enter Tryd.func121, Tryd.ntmps121
    go_wp2
    go_ret2
    exact ⟨rfl, rfl⟩
  · have e1 : decide (a < 0) = false := by simpa using h1
    have e2 : decide (a > 5) = true := by simp; omega
    clear ha h1
    go_enter Tryd.func121, Tryd.ntmps121
    go_wp2
    go_ret2
    exact ⟨rfl, rfl⟩

/-- the greatest hash of a prefix -/
def highN (p k : Nat) : Nat := (p + 1) * 2 ^ (64 - k) - 1
theorem highN_lt {p k : Nat} (hp : p < 2 ^ k) (hk : k ≤ 64) : highN p k < 18446744073709551616 := by
  unfold highN
  have h1 : (p + 1) * 2 ^ (64 - k) ≤ 2 ^ k * 2 ^ (64 - k) := Nat.mul_le_mul_right _ hp
  rw [← Nat.pow_add, show k + (64 - k) = 64 by omega] at h1
  omega
theorem span_high {p k d : Nat} (hk : k ≤ d) (hd : d ≤ 64) : topN (highN p k) d + 1 = p * 2 ^ (d - k) + 2 ^ (d - k) := by
  unfold topN highN
  rw [show 64 - k = (d - k) + (64 - d) by omega, Nat.pow_add, ← Nat.mul_assoc]
  have hy := Nat.two_pow_pos (64 - d)
  have hx := Nat.two_pow_pos (d - k)
  have hq : 0 < (p + 1) * 2 ^ (d - k) := Nat.mul_pos (by omega) hx
  rw [show p * 2 ^ (d - k) + 2 ^ (d - k) = (p + 1) * 2 ^ (d - k) by rw [Nat.add_mul, Nat.one_mul]]
  generalize (p + 1) * 2 ^ (d - k) = q at *
  generalize 2 ^ (64 - d) = y at *
  obtain ⟨r, rfl⟩ : ∃ r, q = r + 1 := ⟨q - 1, by omega⟩
  congr 1
  rw [Nat.add_mul, Nat.one_mul]
  exact Nat.div_eq_of_lt_le (by omega) (by rw [Nat.add_mul, Nat.one_mul]; omega)
set_option maxRecDepth 100000 in
set_option maxHeartbeats 1600000 in
theorem rdspan_ok (M Z d p k : Nat) (es : List Int) (hk : k ≤ d) (hp : p < 2 ^ k) (w : World) (hD : RD w M Z d es) :
    Calls Tryd.prog 128 #[.pointer (some ⟨M, 0, none⟩), .int .i64 (p : Int), .int .i64 (k : Int)] w fun e w' => e = .returned (.tuple #[.int .i64 ((p * 2 ^ (d - k) : Nat) : Int), .int .i64 ((p * 2 ^ (d - k) + 2 ^ (d - k) : Nat) : Int), .int .i64 0]) ∧ Below w.heap.size w w' := by
  have hd := hD.deep
  have HD := Lib.hid hD
  have EN := Lib.hid (show ∀ w0 : World, Calls Tryd.prog 162 #[.int .i64 (p : Int), .int .i64 (k : Int)] w0 fun e w' => e = .returned (.tuple #[.int .u64 ((lowN p k : Nat) : Int), .int .u64 ((highN p k : Nat) : Int), .int .i64 0]) ∧ Below w0.heap.size w0 w' from fun w0 => ends03_any p k (by omega) hp w0)
  have T1 := Lib.hid (show ∀ w0 : World, Calls Tryd.prog 163 #[.int .u64 ((lowN p k : Nat) : Int), .int .i64 (d : Int)] w0 fun e w' => e = .returned (.tuple #[.int .i64 ((topN (lowN p k) d : Nat) : Int), .int .i64 0]) ∧ Below w0.heap.size w0 w' from fun w0 => top03_any _ d (lowN_lt hp (by omega)) (by omega) w0)
  have T2 := Lib.hid (show ∀ w0 : World, Calls Tryd.prog 163 #[.int .u64 ((highN p k : Nat) : Int), .int .i64 (d : Int)] w0 fun e w' => e = .returned (.tuple #[.int .i64 ((topN (highN p k) d : Nat) : Int), .int .i64 0]) ∧ Below w0.heap.size w0 w' from fun w0 => top03_any _ d (highN_lt hp (by omega)) (by omega) w0)
  rw [span_pow hk (by omega)] at T1
  have hh := span_high (p := p) hk (show d ≤ 64 by omega)
  have hb := span_le hp hk
  have h32 : 2 ^ d ≤ 32 := Nat.pow_le_pow_right (by decide) hd
  rw [← hh] at hb ⊢
  have e1 : decide ((k : Int) > (d : Int)) = false := by simp; omega
  have e2 : decide (d < k) = false := by simp; omega
  clear hh hD hp
  generalize topN (highN p k) d = t2 at *
  generalize highN p k = hi at *
  generalize lowN p k = lo at *
  generalize p * 2 ^ (d - k) = t1 at *
  go_enter Tryd.func128, Tryd.ntmps128
  go_wp2_with (first
    | (go_at_call 162; refine (EN.out _).mono ?_; rintro e w1 ⟨rfl, hb1⟩; have c1 := (HD.out.below hb1).head.cell 0; have HD1 := Lib.hid (HD.out.below hb1))
    | (go_at_call 163; with_reducible refine (T1.out _).mono ?_; rintro e w2 ⟨rfl, hb2⟩; have c2 := (HD1.out.below hb2).head.cell 0; have hb2' := hb1.trans (hb2.mono hb1.size))
    | (go_at_call 163; refine (T2.out _).mono ?_; rintro e w3 ⟨rfl, hb3⟩; have hb3' := hb2'.trans (hb3.mono hb2'.size)))
  go_ret3
  exact ⟨rfl, hb3'⟩
theorem rdspan_bad (M Z d : Nat) (p k : Int) (es : List Int) (hb : (d : Int) < k ∨ ¬ Pre p k) (w : World) (hD : RD w M Z d es) :
    Calls Tryd.prog 128 #[.pointer (some ⟨M, 0, none⟩), .int .i64 p, .int .i64 k] w fun e w' => e = .returned (.tuple #[.int .i64 0, .int .i64 0, .int .i64 1]) ∧ Below w.heap.size w w' := by
  by_cases h1 : Pre p k
  · obtain ⟨⟨k0, k1⟩, p0, p1⟩ := h1
    obtain ⟨m, rfl⟩ : ∃ m : Nat, k = (m : Int) := ⟨k.toNat, by omega⟩
    obtain ⟨q, rfl⟩ : ∃ q : Nat, p = (q : Int) := ⟨p.toNat, by omega⟩
    have hq : q < 2 ^ m := by simpa using Int.ofNat_lt.1 p1
    have hlt : (d : Int) < (m : Int) := hb.resolve_right (fun h => h ⟨⟨k0, k1⟩, p0, p1⟩)
    have HD := Lib.hid hD
    have EN := Lib.hid (show ∀ w0 : World, Calls Tryd.prog 162 #[.int .i64 (q : Int), .int .i64 (m : Int)] w0 fun e w' => e = .returned (.tuple #[.int .u64 ((lowN q m : Nat) : Int), .int .u64 ((highN q m : Nat) : Int), .int .i64 0]) ∧ Below w0.heap.size w0 w' from fun w0 => ends03_any q m (by omega) hq w0)
    have e1 : decide ((m : Int) > (d : Int)) = true := by simp; omega
    have e2 : decide (d < m) = true := by simp; omega
    clear hb hD p1 hq
    go_enter Tryd.func128, Tryd.ntmps128
    go_wp2_with (go_at_call 162; refine (EN.out _).mono ?_; rintro e w1 ⟨rfl, hb1⟩; have c1 := (HD.out.below hb1).head.cell 0)
    go_ret3
    exact ⟨rfl, hb1⟩
  · have EN : Hid (∀ w0 : World, Calls Tryd.prog 162 #[.int .i64 p, .int .i64 k] w0 fun e w' => e = .returned (.tuple #[.int .u64 0, .int .u64 0, .int .i64 1]) ∧ w0 = w') := by
      by_cases g : k < 0 ∨ 16 < k ∨ p < 0
      · exact Lib.hid (fun w0 => ends03_badA p k g w0)
      · obtain ⟨m, rfl⟩ : ∃ m : Nat, k = (m : Int) := ⟨k.toNat, by omega⟩
        obtain ⟨q, rfl⟩ : ∃ q : Nat, p = (q : Int) := ⟨p.toNat, by omega⟩
        refine Lib.hid (fun w0 => ends03_badB q m (by omega) ?_ w0)
        refine Decidable.byContradiction fun h => h1 ⟨⟨by omega, by omega⟩, by omega, ?_⟩
        rw [Int.toNat_natCast]
        exact Int.ofNat_lt.2 (by omega)
    clear hb hD h1
    go_enter Tryd.func128, Tryd.ntmps128
    go_wp2_with (go_at_call 162; refine (EN.out _).mono ?_; rintro e w' ⟨rfl, rfl⟩)
    go_ret3
    exact ⟨rfl, Below.refl _ _⟩
set_option maxHeartbeats 1600000 in
theorem rdset_ok (M Z d p k : Nat) (es : List Int) (x : Int) (hk : k ≤ d) (hp : p < 2 ^ k) (hx : 0 ≤ x) (w : World) (hD : RD w M Z d es) :
    Calls Tryd.prog 127 #[.pointer (some ⟨M, 0, none⟩), .int .i64 (p : Int), .int .i64 (k : Int), .int .i64 x] w fun e w' => e = .returned (.tuple #[.int .i64 ((2 ^ (d - k) : Nat) : Int), .int .i64 0]) ∧ RD w' M Z d (setsL es (p * 2 ^ (d - k)) (2 ^ (d - k)) x) ∧ Chg (fun b => b = Z) w w' := by
  have hs := Lib.hid (rdspan_ok M Z d p k es hk hp w hD)
  have hb := span_le hp hk
  have hy := Nat.two_pow_pos (d - k)
  rw [← hD.len] at hb
  have hpos := hD.pos
  have HD := Lib.hid hD
  generalize p * 2 ^ (d - k) = a at *
  generalize 2 ^ (d - k) = y at *
  have e1 : decide (x < 0) = false := by simp; omega
  clear hp hD
  go_enter Tryd.func127, Tryd.ntmps127
  go_wp2_with (go_at_call 128; refine hs.out.mono ?_; rintro e w1 ⟨rfl, hb1⟩)
  have HD1 := Lib.hid (HD.out.below hb1)
  have HC1 := Lib.hid (show Chg (fun b => b = Z) w w1 from Chg.of_below hb1)
  clear hb1
  go_loopw [13] (fun v13 wr => ∃ i : Nat, i ≤ y ∧ v13 = .int .i64 ((a + i : Nat) : Int) ∧ RD wr M Z d (setsL es a i x) ∧ Chg (fun b => b = Z) w wr) (fun v13 _ => a + y - (intOf v13).toNat)
  case atStart => exact ⟨0, Nat.zero_le _, rfl, HD1.out, HC1.out⟩
  case round =>
    obtain ⟨i, hi, rfl, hDi, hc⟩ := hrel
    have HDi := Lib.hid hDi
    have hsl := setsL_len es a i x
    by_cases hlt : i < y
    · have g1 := hDi.head.cell 1
      have g2 := hDi.cellD (a + i) (by rw [hsl]; omega)
      have g3 := hDi.ring.frozen (a + i)
      rw [hsl] at g1
      have hst := Lib.hid (show RD (wr.setCell ⟨Z, a + i, none⟩ (.int .i64 x)) M Z d (setsL es a (i + 1) x) from hDi.set (a + i) x)
      generalize (setsL es a i x).getD (a + i) 0 = z at g2
      replace hsl := Lib.hid hsl
      obtain ⟨j, hj⟩ : ∃ j, j = a + i := ⟨_, rfl⟩
      rw [← hj] at g2 g3 hst ⊢
      have hj1 : j < es.length := by omega
      have hj2 : j < a + y := by omega
      replace hj := Lib.hid hj
      clear hDi
      go_wp2
      go_roundw
      case rel => exact ⟨i + 1, by omega, by rw [show a + (i + 1) = j + 1 by have := hj.out; omega]; go_num, hst.out, hc.set1 _ _⟩
      case measure => simp [intOf]; omega
    · obtain rfl : i = y := by omega
      clear hDi hsl
      have hay : (a : Int) + (i : Int) - (a : Int) = (i : Int) := by omega
      go_wp2
      go_ret2
      exact ⟨rfl, HDi.out, hc⟩
theorem rdset_bad (M Z d : Nat) (es : List Int) (p k x : Int) (hb : (d : Int) < k ∨ ¬ Pre p k ∨ x < 0) (w : World) (hD : RD w M Z d es) :
    Calls Tryd.prog 127 #[.pointer (some ⟨M, 0, none⟩), .int .i64 p, .int .i64 k, .int .i64 x] w fun e w' => e = .returned (.tuple #[.int .i64 0, .int .i64 1]) ∧ Below w.heap.size w w' := by
  by_cases h1 : (d : Int) < k ∨ ¬ Pre p k
  · have hs := Lib.hid (rdspan_bad M Z d p k es h1 w hD)
    clear hb h1 hD
    go_enter Tryd.func127, Tryd.ntmps127
    go_wp2_with (go_at_call 128; refine hs.out.mono ?_; rintro e w1 ⟨rfl, hb1⟩)
    go_ret2
    exact ⟨rfl, hb1⟩
  · have h2 : ¬ (d : Int) < k := fun h => h1 (.inl h)
    have h3 : Pre p k := Decidable.byContradiction fun h => h1 (.inr h)
    have hx : x < 0 := by
      rcases hb with h | h | h
      · exact absurd h h2
      · exact absurd h3 h
      · exact h
    obtain ⟨⟨k0, k1⟩, k2, k3⟩ := h3
    obtain ⟨m, rfl⟩ : ∃ m : Nat, k = (m : Int) := ⟨k.toNat, by omega⟩
    obtain ⟨q, rfl⟩ : ∃ q : Nat, p = (q : Int) := ⟨p.toNat, by omega⟩
    have hs := Lib.hid (rdspan_ok M Z d q m es (by omega) (by simpa using Int.ofNat_lt.1 k3) w hD)
    have e1 : decide (x < 0) = true := by simpa using hx
    clear hb h1 hD h2 k3 hx
    go_enter Tryd.func127, Tryd.ntmps127
    go_wp2_with (go_at_call 128; refine hs.out.mono ?_; rintro e w1 ⟨rfl, hb1⟩)
    go_ret2
    exact ⟨rfl, hb1⟩
end Go.Proofs.YtplimhllfbdocaaDoor
