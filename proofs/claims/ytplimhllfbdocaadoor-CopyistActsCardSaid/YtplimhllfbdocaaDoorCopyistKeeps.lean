/- The walk of CopyistKeeps. Condition: the errors' cells. -/
import Derived.Test.YtplimhllfbdocaaDoorCopyistBegun
import Derived.Test.YtplimhllfbdocaaDoorRows2
import Derived.Test.YtplimhllfbdocaaDoorU64
import Derived.Deep.DeepCutAuto
namespace Go.Proofs.YtplimhllfbdocaaDoor
set_option linter.unusedVariables false
set_option linter.unusedSimpArgs false
open Go.RowKit Go.Proofs
attribute [local go_sem] neq_nilC

theorem topN_half' (h d : Nat) (hd : d < 64) : topN h d = topN h (d + 1) / 2 := by
  unfold topN
  rw [Nat.div_div_eq_div_mul, ← Nat.pow_succ, show (64 - (d + 1)).succ = 64 - d by omega]
theorem atD_dbl (es : List Int) (d h : Nat) (hd : d < 64) (hl : es.length = 2 ^ d) (hh : h < 18446744073709551616) : atD (dblF es.length es.length (gD es)) (d + 1) h = atD es d h := by
  have ht : topN h (d + 1) < 2 ^ (d + 1) := topN_lt hh (by omega)
  unfold atD
  rw [dblF_get _ _ _ _ (by rw [hl]; rw [Nat.pow_succ] at ht; omega), if_pos (by rw [hl]; rw [Nat.pow_succ] at ht; omega), topN_half' h d hd]
  rfl
theorem csetN_pos (d : Nat) (p k x : Int) (nx : Nat) (h : SetOk d p k x) : 1 ≤ csetN d p k x nx := by
  unfold csetN
  rw [if_pos h]
  have : 1 ≤ wide d k := Nat.one_le_two_pow
  omega
theorem csetN_le (d : Nat) (p k x : Int) (nx : Nat) (hd : d ≤ 5) (hn : nx ≤ 32) : csetN d p k x nx ≤ 100 := by
  unfold csetN
  split
  · have h1 : wide d k ≤ 2 ^ d := Nat.pow_le_pow_right (by decide) (by omega)
    have h2 : 2 ^ d ≤ 2 ^ 5 := Nat.pow_le_pow_right (by decide) hd
    omega
  · omega
/-- a meter that has counted so many units -/
def unitM (n : Nat) : MeterS := ⟨0, 0, n, 0, 0, n, false, 0⟩
theorem unitM_add (n : Nat) (h : n ≤ 1000) : (unitM n).add 0 0 1 = unitM (n + 1) := by
  have e0 : sumZ 0 0 = 0 := by decide
  have e1 : sumZ (n : Int) 1 = ((n + 1 : Nat) : Int) := by rw [sumZ_add (by omega) (by decide) (by omega)]; omega
  unfold MeterS.add unitM
  dsimp only
  rw [e0, e1]
def nxtC (nx n : Nat) : Nat := if nx < n then nx + 1 else nx
theorem cstep_m (C B R F S d G : Nat) (es : List Int) (nx : Nat) (tk : Bool) (w : World) (h : CW w C B R F S d es nx tk) (hM : Blk w G 64 (unitM nx).cells) (hne : G ≠ C ∧ G ≠ B ∧ G ≠ R ∧ G ≠ F ∧ G ≠ S) :
    Calls Tryd.prog 53 #[.pointer (some ⟨C, 0, none⟩), .pointer (some ⟨G, 0, none⟩)] w fun e w' => e = .returned (.bool (decide (nx < es.length))) ∧ CW w' C B R F S d es (nxtC nx es.length) tk ∧ Blk w' G 64 (unitM (nxtC nx es.length)).cells ∧ Chg (fun b => b = G ∨ b = S ∨ b = C) w w' := by
  have hpos := h.old.pos
  unfold nxtC
  by_cases hn : nx < es.length
  · rw [if_pos hn, decide_eq_true hn, ← unitM_add nx (by omega)]
    exact cstep_ok C B R F S d G es nx tk (unitM nx) rfl hn w h hM hne.1 hne.2.1 hne.2.2.1 hne.2.2.2.1 hne.2.2.2.2
  · obtain rfl : nx = es.length := by have := h.le; omega
    rw [if_neg hn, decide_eq_false hn]
    refine (cstep_end C B R F S d es tk _ w h).mono ?_
    rintro e w' ⟨rfl, hb⟩
    exact ⟨rfl, h.below hb, hM.below hb hM.lt, Chg.of_below hb⟩
set_option maxRecDepth 100000 in
set_option maxHeartbeats 16000000 in
theorem keeps_ok (d : Nat) (hd : d ≤ 4) (v v2 : Value) (n1 n2 : Nat) (h1 : n1 ≤ 100) (h2 : n2 ≤ 40) (f f2 : Nat → Nat → Int) (E : Nat → Addr) (w0 : World) (he : EC w0 E [1, 4]) (r1 : RowsAt w0 v n1 4 .i64 f) (r2 : RowsAt w0 v2 n2 1 .u64 f2) :
    Calls Tryd.prog 9 #[.int .i64 (d : Int), v, v2] w0 fun e w' => e = .returned (.bool true) ∧ Below w0.heap.size w0 w' := by
  have hwf := Lib.hid r2.2.1
  obtain ⟨a, cap, rfl, hx⟩ := r1.cellAt (by decide)
  obtain ⟨a2, cap2, rfl, hx2⟩ := r2.cellAt (by decide)
  have HE := Lib.hid he
  have HX := Lib.hid hx
  have HX2 := Lib.hid hx2
  clear r1 hx he r2 hx2
  have BG := Lib.hid (fun (w : World) (v : Value) (hv : ReadsInts w v [1, 2, 3, 4, 5]) (he : EC w E [1]) => begun_ok d hd v [1, 2, 3, 4, 5] (by decide) E w hv he)
  unfold BegunC at BG
  have AL := Lib.hid alive17_any
  go_enter Tryd.func9, Tryd.ntmps9
  go_wp2_with (first
    | (go_at_call 50; refine (AL.out _).mono ?_; rintro e w1 ⟨rfl, hb1⟩)
    | (go_at_call 51; refine (BG.out _ _ (readsInts_blk (B := w1.heap.size) (xs := [1, 2, 3, 4, 5]) (Blk.new _ _ _) rfl) ((HE.out.below (hb1.alloc hb1.size _)).sub (by decide))).mono ?_; rintro e w2 ⟨C, B, R, F, S, K, M, Z, es0, rfl, hC, -, g1, -, -, -, -, hb2⟩; have HC0 := Lib.hid hC; clear hC))
  have z1 := hb1.size
  have z2 := hb2.size
  simp only [World.size_alloc] at z2
  have lC := HC0.out.head.lt
  have lB := HC0.out.old.head.lt
  have lR := HC0.out.old.ring.lt
  have lF := HC0.out.fresh.head.lt
  have lS := HC0.out.fresh.ring.lt
  simp only [World.size_alloc] at g1
  obtain ⟨g1, g2, g3, g4, g5⟩ := g1
  obtain ⟨G, hG⟩ : ∃ G, G = w2.heap.size := ⟨_, rfl⟩
  have HG := Lib.hid (show Blk (w2.alloc (.cells (unitM 0).cells 64)) G 64 (unitM 0).cells by rw [hG]; exact Blk.new _ _ _)
  have HC := Lib.hid (HC0.out.below ((Below.refl _ w2).alloc (Nat.le_refl _) (.cells (unitM 0).cells 64)))
  have HB := Lib.hid (show Below w0.heap.size w0 (w2.alloc (.cells (unitM 0).cells 64)) from (((hb1.alloc z1 _).trans (hb2.mono (by simp; omega))).alloc (by omega) _))
  have hGn : G ≠ C ∧ G ≠ B ∧ G ≠ R ∧ G ≠ F ∧ G ≠ S := by omega
  have hG0 : w0.heap.size ≤ G := by omega
  have q1 : w0.heap.size ≤ C := by omega
  have q2 : w0.heap.size ≤ R := by omega
  have q3 : w0.heap.size ≤ S := by omega
  have HGn := Lib.hid hGn
  rw [← hG]
  clear hG hb1 hb2 HC0 z1 z2 lC lB lR lF lS hGn g1 g2 g3 g4 g5
  go_loopw [47] (fun v47 wr => ∃ (k : Nat) (es : List Int) (nx : Nat), k ≤ n1 ∧ v47 = .int .i64 (k : Int) ∧ CW wr C B R F S d es nx false ∧ Blk wr G 64 (unitM nx).cells ∧ Below w0.heap.size w0 wr) (fun v47 _ => n1 - (intOf v47).toNat)
  case atStart => exact ⟨0, es0, 0, Nat.zero_le _, rfl, HC.out, HG.out, HB.out⟩
  case round =>
    clear HC HG HB
    obtain ⟨k, es, nx, hk, rfl, hC, hM, hBW⟩ := hrel
    have HC := Lib.hid hC
    have HM := Lib.hid hM
    have lG := hM.lt
    have hpos := hC.old.pos
    have hle := hC.le
    clear hC hM
    by_cases hlt : k < n1
    · obtain ⟨b, off, rfl, hbz, hcells⟩ := HX.out (by omega)
      have c0 : wr.cell? ⟨b, off + k * 4, none⟩ = some (.int .i64 (f k 0)) := by simpa using hcells wr hBW k hlt 0 (by decide)
      have c1 : wr.cell? ⟨b, off + k * 4 + 1, none⟩ = some (.int .i64 (f k 1)) := by simpa [Nat.add_assoc] using hcells wr hBW k hlt 1 (by decide)
      have c2 : wr.cell? ⟨b, off + k * 4 + 2, none⟩ = some (.int .i64 (f k 2)) := by simpa [Nat.add_assoc] using hcells wr hBW k hlt 2 (by decide)
      have c3 : wr.cell? ⟨b, off + k * 4 + 3, none⟩ = some (.int .i64 (f k 3)) := by simpa [Nat.add_assoc] using hcells wr hBW k hlt 3 (by decide)
      generalize f k 0 = q at c0
      generalize f k 1 = p at c1
      generalize f k 2 = dd at c2
      generalize f k 3 = x at c3
      clear hcells
      have hBA := Lib.hid (hBW.alloc hBW.size (.cells #[.int .i64 q, .int .i64 p, .int .i64 dd, .int .i64 x] 90))
      have hal : Below wr.heap.size wr (wr.alloc (.cells #[.int .i64 q, .int .i64 p, .int .i64 dd, .int .i64 x] 90)) := (Below.refl _ _).alloc (Nat.le_refl _) _
      have hCA := Lib.hid (HC.out.below hal)
      have hMA := Lib.hid (HM.out.below hal lG)
      clear hal
      by_cases hq : q = 0
      · subst hq
        have hn1 := csetN_pos d p dd x nx
        have hn2 := csetN_le d p dd x nx (by omega) (by omega)
        have ST := cset_any C B R F S d p dd x es nx false E _ hCA.out ((HE.out.below hBA.out).sub (by decide))
        have HGC := Lib.hid (show ∀ w' : World, Chg (fun b => b = R ∨ b = S) (wr.alloc (.cells #[.int .i64 0, .int .i64 p, .int .i64 dd, .int .i64 x] 90)) w' → Blk w' G 64 (unitM nx).cells ∧ Below w0.heap.size w0 w' from
          fun w' hc => ⟨hMA.out.chg hc (by have := HGn.out; omega), hBA.out.trans (hc.below (n := w0.heap.size) hBA.out.size (fun k hk e => by omega))⟩)
        by_cases hs : SetOk d p dd x
        · rw [show setErr d p dd x = 0 from if_pos hs] at ST
          have hn3 := hn1 hs
          generalize csetN d p dd x nx = nn at *
          generalize setE d es p dd x = es' at *
          replace ST := Lib.hid ST
          have hlt1 : (1 : Int) ≤ (nn : Int) := by omega
          have hne0 : ((nn : Int) != 0) = true := by simp; omega
          simp only [errN, if_pos] at ST
          clear hs hn1 hn3
          go_wp2_with (go_at_call 52; refine ST.out.mono ?_; rintro e w3 ⟨rfl, h3, c3'⟩; have H3 := Lib.hid h3; clear h3)
          go_roundw
          case rel => exact ⟨k + 1, _, nx, by omega, by go_num, H3.out, (HGC.out _ c3').1, (HGC.out _ c3').2⟩
          case measure => simp [intOf]; omega
        · rw [show setErr d p dd x = 1 from if_neg hs, show csetN d p dd x nx = 0 from if_neg hs] at ST
          generalize setE d es p dd x = es' at *
          unfold errN at ST
          rw [if_neg (by decide)] at ST
          unfold errAt at ST
          replace ST := Lib.hid ST
          clear hs hn1 hn2
          go_wp2_with (go_at_call 52; refine ST.out.mono ?_; rintro e w3 ⟨rfl, h3, c3'⟩; have H3 := Lib.hid h3; clear h3)
          go_roundw
          case rel => exact ⟨k + 1, _, nx, by omega, by go_num, H3.out, (HGC.out _ c3').1, (HGC.out _ c3').2⟩
          case measure => simp [intOf]; omega
      · have e0 : (q == 0) = false := by simpa using hq
        have ST := Lib.hid (cstep_m C B R F S d G es nx false _ hCA.out hMA.out HGn.out)
        generalize nxtC nx es.length = nx' at *
        go_wp2_with (go_at_call 53; refine ST.out.mono ?_; rintro e w3 ⟨rfl, h3, m3, c3'⟩; have H3 := Lib.hid h3; have M3 := Lib.hid m3; clear h3 m3)
        go_roundw
        case rel => exact ⟨k + 1, es, nx', by omega, by go_num, H3.out, M3.out, hBA.out.trans (c3'.below (n := w0.heap.size) hBA.out.size (fun k hk e => by omega))⟩
        case measure => simp [intOf]; omega
    · obtain rfl : k = n1 := by omega
      go_wp2
      have hlen := HC.out.old.len
      have h16 : es.length ≤ 16 := by rw [hlen]; exact Nat.pow_le_pow_right (n := 2) (by decide) hd
      have HLN := Lib.hid hlen
      clear hlen
      go_loopw [83] (fun v83 wr => ∃ (j : Nat) (nx : Nat), j ≤ 40 ∧ v83 = .int .i64 (j : Int) ∧ (j ≤ nx ∨ nx = es.length) ∧ CW wr C B R F S d es nx false ∧ Blk wr G 64 (unitM nx).cells ∧ Below w0.heap.size w0 wr) (fun v83 _ => 40 - (intOf v83).toNat)
      case atStart => exact ⟨0, nx, by omega, rfl, .inl (Nat.zero_le _), HC.out, HM.out, hBW⟩
      case round =>
        clear HC HM hBW lG hle
        obtain ⟨j, ny, hj, rfl, hjn, hC, hM, hBW⟩ := hrel
        have HC := Lib.hid hC
        have HM := Lib.hid hM
        have lG := hM.lt
        have hle := hC.le
        clear hC hM
        by_cases hlt : j < 40
        · have ST := Lib.hid (cstep_m C B R F S d G es ny false _ HC.out HM.out HGn.out)
          have hjn2 : j + 1 ≤ nxtC ny es.length ∨ nxtC ny es.length = es.length := by unfold nxtC; split <;> omega
          generalize nxtC ny es.length = nz at *
          go_wp2_with (go_at_call 53; refine ST.out.mono ?_; rintro e w3 ⟨rfl, h3, m3, c3'⟩; have H3 := Lib.hid h3; have M3 := Lib.hid m3; clear h3 m3)
          go_roundw
          case rel => exact ⟨j + 1, nz, by omega, by go_num, hjn2, H3.out, M3.out, hBW.trans (c3'.below (n := w0.heap.size) hBW.size (fun k hk e => by omega))⟩
          case measure => simp [intOf]; omega
        · obtain rfl : j = 40 := by omega
          obtain rfl : ny = es.length := by omega
          have TK := Lib.hid (ctake_ok C B R F S d es _ HC.out)
          have hw : IntKind.i64.wrap ((2 : Int) * 2 ^ d) = ((2 * es.length : Nat) : Int) := by
            rw [show ((2 : Int) * 2 ^ d) = ((2 * es.length : Nat) : Int) by rw [HLN.out]; simp]
            exact IntWalk.i64_in _ (by omega)
          have LN := Lib.hid (fun w' (h : CW w' C B R F S d es es.length true) => dlen_any F S (d + 1) _ w' h.fresh)
          simp only [dblF_len] at LN
          have hq2 : (((2 * es.length : Nat) : Int) != ((2 * es.length : Nat) : Int)) = false := by simp
          generalize 2 * es.length = L2 at *
          go_wp2_with (go_at_call 54; refine TK.out.mono ?_; rintro e w3 ⟨rfl, h3, c3'⟩; have H3 := Lib.hid h3; have HB3 := Lib.hid (hBW.trans (c3'.below (n := w0.heap.size) hBW.size (fun k hk e => by omega))); clear h3 c3')
          refine wp_region_seq (fun _ => False) #[⟨0, 0, 19807040628566084398385987584, 512, 0⟩, ⟨1, 1, 39614081257132168796771975168, 19807040628566084398385987584, 0⟩, ⟨2, 3, 79228162514264337593543950336, 39614081257132168796771975168, 0⟩, ⟨4, 7, 158456325028528675187087900672, 79228162514264337593543983104, 0⟩, ⟨12, 15, 316912650057057350374175801344, 237684487542793012780631851008, 0⟩, ⟨20, 31, 633825300114114700748351602688, 396140812571321687967719751680, 0⟩, ⟨36, 63, 1267650600228229401496703205376, 633825300114114700748351602688, 0⟩, ⟨64, 127, 2535301200456458802993406410752, 1267650600228229401496703238144, 0⟩, ⟨192, 255, 5070602400912917605986812821504, 3802951800684688204490109616128, 3⟩, ⟨64, 127, 10141204801825835211973625643008, 1267650600228229401496703205377, 0⟩, ⟨576, 639, 20282409603651670423947251286016, 11408855402054064613470328848384, 0⟩, ⟨1344, 2047, 40564819207303340847894502572032, 26620662604792817431430767312896, 0⟩, ⟨2112, 4095, 81129638414606681695789005144064, 41832469807531570249391205777408, 0⟩] 0 [(0, 0), (1, 0), (2, 0), (3, 0), (4, 0), (5, 0), (6, 0), (7, 0), (9, 0), (10, 0), (8, 3), (11, 0), (12, 0)] (by kernel_rfl) (by kernel_rfl) (by kernel_rfl) (by kernel_rfl) (by kernel_rfl) (by kernel_rfl) (fun c a d v w h => by cases d <;> exact h) ?_
          refine seq_calc (by simp only [List.getElem?_toArray, List.getElem?_cons_succ, List.getElem?_cons_zero]; rfl) (by rfl) (fun u => by go_simp <;> with_reducible rfl) ?_
          try simp only [Act.put, List.setIfInBounds_toArray, List.set_cons_zero, List.set_cons_succ]
          refine seq_calc (by simp only [List.getElem?_toArray, List.getElem?_cons_succ, List.getElem?_cons_zero]; rfl) (by rfl) (fun u => by go_simp <;> with_reducible rfl) ?_
          try simp only [Act.put, List.setIfInBounds_toArray, List.set_cons_zero, List.set_cons_succ]
          refine seq_calc (by simp only [List.getElem?_toArray, List.getElem?_cons_succ, List.getElem?_cons_zero]; rfl) (by rfl) (fun u => by go_simp <;> with_reducible rfl) ?_
          try simp only [Act.put, List.setIfInBounds_toArray, List.set_cons_zero, List.set_cons_succ]
          first
            | (refine seq_skip (by simp only [List.getElem?_toArray, List.getElem?_cons_succ, List.getElem?_cons_zero]; rfl) (by rfl) ?_)
            | (refine seq_calc (by simp only [List.getElem?_toArray, List.getElem?_cons_succ, List.getElem?_cons_zero]; rfl) (by rfl) (fun u => by go_simp <;> with_reducible rfl) ?_)
          try simp only [Act.put, List.setIfInBounds_toArray, List.set_cons_zero, List.set_cons_succ]
          first
            | (refine seq_skip (by simp only [List.getElem?_toArray, List.getElem?_cons_succ, List.getElem?_cons_zero]; rfl) (by rfl) ?_)
            | (refine seq_calc (by simp only [List.getElem?_toArray, List.getElem?_cons_succ, List.getElem?_cons_zero]; rfl) (by rfl) (fun u => by go_simp <;> with_reducible rfl) ?_)
          try simp only [Act.put, List.setIfInBounds_toArray, List.set_cons_zero, List.set_cons_succ]
          refine seq_calc (by simp only [List.getElem?_toArray, List.getElem?_cons_succ, List.getElem?_cons_zero]; rfl) (by rfl) (fun u => by go_simp <;> with_reducible rfl) ?_
          try simp only [Act.put, List.setIfInBounds_toArray, List.set_cons_zero, List.set_cons_succ]
          refine seq_calc (by simp only [List.getElem?_toArray, List.getElem?_cons_succ, List.getElem?_cons_zero]; rfl) (by rfl) (fun u => by go_simp <;> with_reducible rfl) ?_
          try simp only [Act.put, List.setIfInBounds_toArray, List.set_cons_zero, List.set_cons_succ]
          first
            | (refine seq_skip (by simp only [List.getElem?_toArray, List.getElem?_cons_succ, List.getElem?_cons_zero]; rfl) (by rfl) ?_)
            | (refine seq_calc (by simp only [List.getElem?_toArray, List.getElem?_cons_succ, List.getElem?_cons_zero]; rfl) (by rfl) (fun u => by go_simp <;> with_reducible rfl) ?_)
          try simp only [Act.put, List.setIfInBounds_toArray, List.set_cons_zero, List.set_cons_succ]
          first
            | (refine seq_skip (by simp only [List.getElem?_toArray, List.getElem?_cons_succ, List.getElem?_cons_zero]; rfl) (by rfl) ?_)
            | (refine seq_calc (by simp only [List.getElem?_toArray, List.getElem?_cons_succ, List.getElem?_cons_zero]; rfl) (by rfl) (fun u => by go_simp <;> with_reducible rfl) ?_)
          try simp only [Act.put, List.setIfInBounds_toArray, List.set_cons_zero, List.set_cons_succ]
          first
            | (refine seq_skip (by simp only [List.getElem?_toArray, List.getElem?_cons_succ, List.getElem?_cons_zero]; rfl) (by rfl) ?_)
            | (refine seq_calc (by simp only [List.getElem?_toArray, List.getElem?_cons_succ, List.getElem?_cons_zero]; rfl) (by rfl) (fun u => by go_simp <;> with_reducible rfl) ?_)
          try simp only [Act.put, List.setIfInBounds_toArray, List.set_cons_zero, List.set_cons_succ]
          first
            | (refine seq_skip (by simp only [List.getElem?_toArray, List.getElem?_cons_succ, List.getElem?_cons_zero]; rfl) (by rfl) ?_)
            | (refine seq_last (by simp only [List.getElem?_toArray, List.getElem?_cons_succ, List.getElem?_cons_zero]; rfl) (by rfl) (fun K hK => ?_); go_wp2_with (go_at_call 55; refine (LN.out _ (H3.out.below (Below.refl _ _).drew)).mono ?_; rintro e w' ⟨rfl, rfl⟩); refine hK.out _ _ ?_; clear hK K)
          try simp only [Act.put, List.setIfInBounds_toArray, List.set_cons_zero, List.set_cons_succ]
          first
            | (refine seq_skip (by simp only [List.getElem?_toArray, List.getElem?_cons_succ, List.getElem?_cons_zero]; rfl) (by rfl) ?_)
            | (refine seq_calc (by simp only [List.getElem?_toArray, List.getElem?_cons_succ, List.getElem?_cons_zero]; rfl) (by rfl) (fun u => by go_simp <;> with_reducible rfl) ?_)
          try simp only [Act.put, List.setIfInBounds_toArray, List.set_cons_zero, List.set_cons_succ]
          refine seq_calc (by simp only [List.getElem?_toArray, List.getElem?_cons_succ, List.getElem?_cons_zero]; rfl) (by rfl) (fun u => by go_simp <;> with_reducible rfl) ?_
          try simp only [Act.put, List.setIfInBounds_toArray, List.set_cons_zero, List.set_cons_succ]
          refine seq_nil ?_
          go_wp2
          have hD2 : Below w3.heap.size w3 w3.drew := (Below.refl _ _).drew
          have H3d := Lib.hid (H3.out.below hD2)
          have HB3d := Lib.hid (HB3.out.trans (hD2.mono HB3.out.size))
          clear hD2
          go_loopw [109, 17] (fun v109 _ wr => ∃ i : Nat, i ≤ n2 ∧ v109 = .int .i64 (i : Int) ∧ CW wr C B R F S d es es.length true ∧ Below w0.heap.size w0 wr) (fun v109 _ _ => n2 - (intOf v109).toNat)
          case atStart => exact ⟨0, Nat.zero_le _, rfl, H3d.out, HB3d.out⟩
          case round =>
            clear H3 HB3 H3d HB3d
            obtain ⟨i, hi, rfl, hC, hBW⟩ := hrel
            have HC := Lib.hid hC
            clear hC
            by_cases hlt : i < n2
            · obtain ⟨b, off, rfl, hbz, hcells⟩ := HX2.out (by omega)
              have c0 : wr.cell? ⟨b, off + i, none⟩ = some (.int .u64 (f2 i 0)) := by simpa using hcells wr hBW i hlt 0 (by decide)
              obtain ⟨h, hh, eh⟩ := u64_of (hwf.out i hlt 0 (by decide))
              rw [eh] at c0
              clear hcells eh
              have A1 := dat_below F S (d + 1) h _ hh wr HC.out.fresh
              rw [atD_dbl es d h (by omega) HLN.out hh] at A1
              have A2 := Lib.hid (fun w' (hb : Below wr.heap.size wr w') => cat_any C B R F S d h es es.length true hh w' (HC.out.below hb))
              replace A1 := Lib.hid A1
              generalize atD es d h = y at *
              have hyy : ((y : Int) != y) = false := by simp
              go_wp2_with (first
                | (go_at_call 56; refine A1.out.mono ?_; rintro e w5 ⟨rfl, hb5⟩)
                | (go_at_call 57; refine (A2.out _ hb5).mono ?_; rintro e w6 ⟨rfl, hb6⟩))
              go_roundw
              case rel => exact ⟨i + 1, by omega, by go_num, (HC.out.below hb5).below hb6, hBW.trans ((hb5.trans (hb6.mono hb5.size)).mono hBW.size)⟩
              case measure => simp [intOf]; omega
            · obtain rfl : i = n2 := by omega
              have LF := cleft_any C B R F S d es es.length true wr HC.out
              rw [Nat.sub_self] at LF
              replace LF := Lib.hid LF
              go_wp2_with (go_at_call 58; refine LF.out.mono ?_; rintro e w5 ⟨rfl, hb5⟩)
              go_ret
              exact ⟨rfl, hBW.trans (hb5.mono hBW.size)⟩
set_option maxRecDepth 100000 in
set_option maxHeartbeats 4000000 in
theorem copyistKeeps_law (depth : Int) (v v2 : Value) (n1 n2 : Nat) (f f2 : Nat → Nat → Int) (E : Nat → Addr) (w0 : World) (he : EC w0 E [1, 4]) (r1 : RowsAt w0 v n1 4 .i64 f) (r2 : RowsAt w0 v2 n2 1 .u64 f2) :
    Calls Tryd.prog 9 #[.int .i64 depth, v, v2] w0 fun e w' => e = .returned (.bool true) ∧ Below w0.heap.size w0 w' := by
  have m1 := r1.2.2
  have m2 := r2.2.2
  unfold maxLen at m1 m2
  by_cases hgood : n1 ≤ 100 ∧ n2 ≤ 40 ∧ 0 ≤ depth ∧ depth ≤ 4
  · obtain ⟨h1, h2, h3, h4⟩ := hgood
    obtain ⟨d, rfl⟩ : ∃ d : Nat, depth = (d : Int) := ⟨depth.toNat, by omega⟩
    exact keeps_ok d (by omega) v v2 n1 n2 h1 h2 f f2 E w0 he r1 r2
  obtain ⟨a, cap, rfl, -⟩ := r1.cellAt (by decide)
  obtain ⟨a2, cap2, rfl, -⟩ := r2.cellAt (by decide)
  have AL := Lib.hid alive17_any
  have HE := Lib.hid he
  clear r1 r2 he
  by_cases g2 : 40 < n2
  · have g2' : (40 : Int) < (n2 : Int) := by omega
    clear hgood
    go_enter Tryd.func9, Tryd.ntmps9
    go_wp2_with (go_at_call 50; refine (AL.out _).mono ?_; rintro e w1 ⟨rfl, hb1⟩)
    go_ret
    exact ⟨rfl, hb1⟩
  have g2' : (n2 : Int) ≤ 40 := by omega
  by_cases g1 : 100 < n1
  · have g1' : (100 : Int) < (n1 : Int) := by omega
    clear hgood
    go_enter Tryd.func9, Tryd.ntmps9
    go_wp2_with (go_at_call 50; refine (AL.out _).mono ?_; rintro e w1 ⟨rfl, hb1⟩)
    go_ret
    exact ⟨rfl, hb1⟩
  have g1' : (n1 : Int) ≤ 100 := by omega
  by_cases g3 : depth = 5
  · subst g3
    have BG := Lib.hid (fun (w : World) (v : Value) (hv : ReadsInts w v [1, 2, 3, 4, 5]) (he : EC w E [1]) => begun_deep v [1, 2, 3, 4, 5] (by decide) E w hv he)
    unfold errAt at BG
    clear hgood
    go_enter Tryd.func9, Tryd.ntmps9
    go_wp2_with (first
      | (go_at_call 50; refine (AL.out _).mono ?_; rintro e w1 ⟨rfl, hb1⟩)
      | (go_at_call 51; refine (BG.out _ _ (readsInts_blk (B := w1.heap.size) (xs := [1, 2, 3, 4, 5]) (Blk.new _ _ _) rfl) ((HE.out.below (hb1.alloc hb1.size _)).sub (by decide))).mono ?_; rintro e w2 ⟨K, rfl, hb2⟩))
    go_ret
    exact ⟨rfl, (hb1.alloc hb1.size _).trans (hb2.mono (by have := hb1.size; simp; omega))⟩
  · have BG := Lib.hid (fun (w : World) (v : Value) (hE : EC w E [1, 4]) => begun_none depth (by omega) v E w hE)
    unfold errAt at BG
    clear hgood
    go_enter Tryd.func9, Tryd.ntmps9
    go_wp2_with (first
      | (go_at_call 50; refine (AL.out _).mono ?_; rintro e w1 ⟨rfl, hb1⟩)
      | (go_at_call 51; refine (BG.out _ _ (HE.out.below (hb1.alloc hb1.size _))).mono ?_; rintro e w2 ⟨rfl, hb2⟩))
    go_ret
    exact ⟨rfl, (hb1.alloc hb1.size _).trans (hb2.mono (by have := hb1.size; simp; omega))⟩
end Go.Proofs.YtplimhllfbdocaaDoor
