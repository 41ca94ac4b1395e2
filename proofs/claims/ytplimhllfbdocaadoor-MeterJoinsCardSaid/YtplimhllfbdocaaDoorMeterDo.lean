/- What an act does to a meter: law 06's do, kind by kind. Condition: the errors' cells. -/
import Derived.Test.YtplimhllfbdocaaDoorMeter
import Derived.Test.YtplimhllfbdocaaDoorTrapAct
import Derived.Test.YtplimhllfbdocaaDoorOwn
namespace Go.Proofs.YtplimhllfbdocaaDoor
set_option linter.unusedVariables false
set_option linter.unusedSimpArgs false
open Go.RowKit Go.Proofs
attribute [local go_sem high] run_minZ run_maxZ

/-- counts that may be, and a limit that is none or no number below 0 -/
structure MOK (m : MeterS) : Prop where
  a0 : 0 ≤ m.a0 ∧ m.a0 ≤ 1099511627776
  a1 : 0 ≤ m.a1 ∧ m.a1 ≤ 1099511627776
  a2 : 0 ≤ m.a2 ∧ m.a2 ≤ 1099511627776
  l0 : 0 ≤ m.l0 ∧ m.l0 ≤ 1099511627776
  l1 : 0 ≤ m.l1 ∧ m.l1 ≤ 1099511627776
  l2 : 0 ≤ m.l2 ∧ m.l2 ≤ 1099511627776
  lim : m.limited = true → 0 ≤ m.limit ∧ m.limit ≤ 9223372036854775807
theorem MOK.zero : MOK MeterS.zero := ⟨by decide, by decide, by decide, by decide, by decide, by decide, fun h => by cases h⟩
theorem MOK.add {m : MeterS} (h : MOK m) (x y z : Int) : MOK (m.add x y z) := ⟨sumZ_bd _ _, sumZ_bd _ _, sumZ_bd _ _, sumZ_bd _ _, sumZ_bd _ _, sumZ_bd _ _, h.lim⟩
theorem sumZ_zero {a : Int} (h : 0 ≤ a ∧ a ≤ 1099511627776) : sumZ a 0 = a := by unfold sumZ; rw [clampZ_id h.1 h.2]; unfold clampZ mnZ mxZ; omega
theorem sumZ_step {a : Int} (h : 0 ≤ a ∧ a ≤ 1099511627776) (i : Nat) : sumZ (sumZ a (i : Int)) 1 = sumZ a ((i + 1 : Nat) : Int) := by unfold sumZ clampZ mnZ mxZ; omega
theorem MOK.add0 {m : MeterS} (h : MOK m) : m.add 0 0 0 = m := by
  unfold MeterS.add
  rw [sumZ_zero h.a0, sumZ_zero h.a1, sumZ_zero h.a2, sumZ_zero h.l0, sumZ_zero h.l1, sumZ_zero h.l2]
theorem MOK.step0 {m : MeterS} (h : MOK m) (i : Nat) : (m.add (i : Int) 0 0).add 1 0 0 = m.add ((i + 1 : Nat) : Int) 0 0 := by
  unfold MeterS.add
  simp only [sumZ_step h.a0, sumZ_step h.l0, sumZ_zero h.a1, sumZ_zero h.a2, sumZ_zero h.l1, sumZ_zero h.l2]
theorem MOK.step1 {m : MeterS} (h : MOK m) (i : Nat) : (m.add 0 (i : Int) 0).add 0 1 0 = m.add 0 ((i + 1 : Nat) : Int) 0 := by
  unfold MeterS.add
  simp only [sumZ_step h.a1, sumZ_step h.l1, sumZ_zero h.a0, sumZ_zero h.a2, sumZ_zero h.l0, sumZ_zero h.l2]
/-- so many probes or visits -/
def cntZ (n : Int) : Nat := (mnZ (mxZ n 0) 50).toNat
theorem cntZ_eq (n : Int) : mnZ (mxZ n 0) 50 = (cntZ n : Int) := by unfold cntZ mnZ mxZ; omega
theorem cntZ_le (n : Int) : cntZ n ≤ 50 := by unfold cntZ mnZ mxZ; omega
/-- the number of the error that an act ends with -/
def doBad (m : MeterS) (k n : Int) : Nat := if k = 2 ∧ 1 ≤ n ∧ m.limited = true ∧ m.limit - m.l2 < n then 11 else 0
/-- a meter behind an act -/
def doS (m : MeterS) (k n : Int) : MeterS :=
  if k = 0 then m.add (cntZ n) 0 0 else if k = 1 then m.add 0 (cntZ n) 0 else if k = 2 then (if n < 1 ∨ (m.limited = true ∧ m.limit - m.l2 < n) then m else m.add 0 0 n)
  else if k = 3 then { m with l0 := 0, l1 := 0, l2 := 0 } else if k = 4 then { m with limited := decide (0 ≤ n), limit := n } else m
theorem MOK.doS {m : MeterS} (h : MOK m) (k n : Int) (hn : n ≤ 9223372036854775807) : MOK (doS m k n) := by
  unfold Go.Proofs.YtplimhllfbdocaaDoor.doS
  split
  · exact h.add _ _ _
  split
  · exact h.add _ _ _
  split
  · split
    · exact h
    · exact h.add _ _ _
  split
  · exact ⟨h.a0, h.a1, h.a2, ⟨Int.le_refl 0, show (0 : Int) ≤ _ by decide⟩, ⟨Int.le_refl 0, show (0 : Int) ≤ _ by decide⟩, ⟨Int.le_refl 0, show (0 : Int) ≤ _ by decide⟩, h.lim⟩
  split
  · exact ⟨h.a0, h.a1, h.a2, h.l0, h.l1, h.l2, fun e => by have := of_decide_eq_true e; exact ⟨this, hn⟩⟩
  · exact h

set_option maxRecDepth 100000 in
set_option maxHeartbeats 2000000 in
theorem do_0 (m : MeterS) (hm : MOK m) (n : Int) (B : Nat) (w : World) (hb : Blk w B 64 m.cells) :
    Calls Tryd.prog 43 #[.pointer (some ⟨B, 0, none⟩), .agg #[.int .i64 0, .int .i64 n]] w fun e w' => e = .returned (.int .i64 0) ∧ Blk w' B 64 (m.add (cntZ n) 0 0).cells ∧ Chg (fun b => b = B) w w' := by
  have hlt := hb.lt
  have HB := Lib.hid hb
  have hcn := cntZ_eq n
  have hcl := cntZ_le n
  have HM := Lib.hid hm
  generalize cntZ n = c at *
  clear hb hm
  go_enter Tryd.func43, Tryd.ntmps43
  go_wp2_with (go_at_call 72; refine (probing_any _ _).mono ?_; rintro e w1 ⟨rfl, hb1⟩; have hB1 : Below w.heap.size w w1 := (by first | exact hB1.trans (hb1.mono hB1.size) | exact hB1.trans (Below.undrew (hb1.mono hB1.size)) | exact hb1 | exact Below.trans (by go_grown) (hb1.mono (by simp <;> omega))); have hcwheapsize := fun (o : Nat) => hb1.cell (p := ⟨w.heap.size, o, none⟩) (by first | assumption | (simp <;> omega)); have hfwheapsize := fun (o : Nat) => hb1.frozen (p := ⟨w.heap.size, o, none⟩) (by first | assumption | (simp <;> omega)); have hzwheapsize : w.heap.size < w1.heap.size := Nat.lt_of_lt_of_le (by first | assumption | (simp <;> omega)) hb1.size; have hcwheapsize__1 := fun (o : Nat) => hb1.cell (p := ⟨w.heap.size + 1, o, none⟩) (by first | assumption | (simp <;> omega)); have hfwheapsize__1 := fun (o : Nat) => hb1.frozen (p := ⟨w.heap.size + 1, o, none⟩) (by first | assumption | (simp <;> omega)); have hzwheapsize__1 : w.heap.size + 1 < w1.heap.size := Nat.lt_of_lt_of_le (by first | assumption | (simp <;> omega)) hb1.size)
  have hz := hB1.size
  have b0 : Blk (w1.alloc (.cells #[.pointer (some ⟨B, 0, none⟩), .int .i64 1, .int .i64 0, .int .i64 0] 77)) B 64 (m.add ((0 : Nat) : Int) 0 0).cells := by
    rw [show m.add ((0 : Nat) : Int) 0 0 = m from HM.out.add0]; exact (HB.out.below hB1 hlt).alloc _
  have l0 : Blk (w1.alloc (.cells #[.pointer (some ⟨B, 0, none⟩), .int .i64 1, .int .i64 0, .int .i64 0] 77)) w1.heap.size 77 #[.pointer (some ⟨B, 0, none⟩), .int .i64 1, .int .i64 0, .int .i64 0] := Blk.new _ _ _
  have B0 := Lib.hid b0
  have L0 := Lib.hid l0
  have HST := Lib.hid HM.out.step0
  have C0 := Lib.hid ((Chg.of_below (X := fun b => b = B) hB1).alloc (.cells #[.pointer (some ⟨B, 0, none⟩), .int .i64 1, .int .i64 0, .int .i64 0] 77))
  clear b0 l0
  go_loopw [22] (fun v22 wr => ∃ i : Nat, i ≤ c ∧ v22 = .int .i64 (i : Int) ∧ Blk wr B 64 (m.add (i : Int) 0 0).cells ∧ Blk wr w1.heap.size 77 #[.pointer (some ⟨B, 0, none⟩), .int .i64 1, .int .i64 0, .int .i64 0] ∧ Chg (fun b => b = B) w wr) (fun v22 _ => c - (intOf v22).toNat)
  case atStart => exact ⟨0, by omega, rfl, B0.out, L0.out, C0.out⟩
  case round =>
    obtain ⟨i, hi, rfl, hb, hl, hch⟩ := hrel
    clear B0 L0 C0
    by_cases hlc : i < c
    · have k0 := hl.cell 0
      have k1 := hl.cell 1
      have k2 := hl.cell 2
      have k3 := hl.cell 3
      have HBi := Lib.hid hb
      have HLi := Lib.hid hl
      clear hb hl
      go_wp2_with (go_at_call 47; refine (visit_any _ _ _ _ _ 64 _ HBi.out).mono ?_; rintro e w2 ⟨rfl, h2, c2⟩; have H2 := Lib.hid h2; clear h2)
      go_roundw
      case rel => exact ⟨i + 1, by omega, by go_num, by rw [← HST.out i]; exact H2.out, (c2.block _ HLi.out.lt (by omega)).trans HLi.out, hch.trans c2⟩
      case measure => simp [intOf]; omega
    · obtain rfl : i = c := by omega
      have HBi := Lib.hid hb
      clear hb hl
      go_wp2
      go_ret
      exact ⟨rfl, HBi.out, hch⟩
set_option maxRecDepth 100000 in
set_option maxHeartbeats 2000000 in
theorem do_1 (m : MeterS) (hm : MOK m) (n : Int) (B : Nat) (w : World) (hb : Blk w B 64 m.cells) :
    Calls Tryd.prog 43 #[.pointer (some ⟨B, 0, none⟩), .agg #[.int .i64 1, .int .i64 n]] w fun e w' => e = .returned (.int .i64 0) ∧ Blk w' B 64 (m.add 0 (cntZ n) 0).cells ∧ Chg (fun b => b = B) w w' := by
  have hlt := hb.lt
  have HB := Lib.hid hb
  have hcn := cntZ_eq n
  have hcl := cntZ_le n
  have HM := Lib.hid hm
  generalize cntZ n = c at *
  clear hb hm
  go_enter Tryd.func43, Tryd.ntmps43
  go_wp2_with (first
    | (go_at_call 72; refine (probing_any _ _).mono ?_; rintro e w1 ⟨rfl, hb1⟩; have hB1 : Below w.heap.size w w1 := (by first | exact hB1.trans (hb1.mono hB1.size) | exact hB1.trans (Below.undrew (hb1.mono hB1.size)) | exact hb1 | exact Below.trans (by go_grown) (hb1.mono (by simp <;> omega))); have hcwheapsize := fun (o : Nat) => hb1.cell (p := ⟨w.heap.size, o, none⟩) (by first | assumption | (simp <;> omega)); have hfwheapsize := fun (o : Nat) => hb1.frozen (p := ⟨w.heap.size, o, none⟩) (by first | assumption | (simp <;> omega)); have hzwheapsize : w.heap.size < w1.heap.size := Nat.lt_of_lt_of_le (by first | assumption | (simp <;> omega)) hb1.size; have hcwheapsize__1 := fun (o : Nat) => hb1.cell (p := ⟨w.heap.size + 1, o, none⟩) (by first | assumption | (simp <;> omega)); have hfwheapsize__1 := fun (o : Nat) => hb1.frozen (p := ⟨w.heap.size + 1, o, none⟩) (by first | assumption | (simp <;> omega)); have hzwheapsize__1 : w.heap.size + 1 < w1.heap.size := Nat.lt_of_lt_of_le (by first | assumption | (simp <;> omega)) hb1.size; have hz := hB1.size)
    | (go_at_call 79; refine (working_any _ _).mono ?_; rintro e w2 ⟨rfl, hb2⟩; have L0 := Lib.hid ((Blk.new w1 77 #[.pointer (some ⟨B, 0, none⟩), .int .i64 1, .int .i64 0, .int .i64 0]).below hb2 (by simp)); have hf5 := fun o => L0.out.frozen o; have hc5 := fun o => L0.out.cell o; have hz5 := L0.out.lt; have hB2 := hB1.trans ((((Below.refl _ w1).alloc (Nat.le_refl _) _).trans (hb2.mono (by simp))).mono hz); have hcA := fun (o : Nat) => hb2.cell (p := ⟨w.heap.size + 1, o, none⟩) (by simp; omega); have hzA := hb2.size))
  refine wp_at (fun wE hE => ?_)
  have l0 : Blk wE w1.heap.size 77 #[.pointer (some ⟨B, 0, none⟩), .int .i64 0, .int .i64 1, .int .i64 0] := by
    rw [hE]; exact (((L0.out.set 0 _).set 1 _).set 2 _).set 3 _
  have b0 : Blk wE B 64 (m.add 0 ((0 : Nat) : Int) 0).cells := by
    rw [show m.add 0 ((0 : Nat) : Int) 0 = m from HM.out.add0, hE]; exact ((((HB.out.below hB2 hlt).other (by omega) _ _).other (by omega) _ _).other (by omega) _ _).other (by omega) _ _
  have c0 : Chg (fun b => b = B) w wE := by
    rw [hE]; exact ((((Chg.of_below hB2).setCell (.inr (by simp; omega)) _).setCell (.inr (by simp; omega)) _).setCell (.inr (by simp; omega)) _).setCell (.inr (by simp; omega)) _
  clear hE
  have B0 := Lib.hid b0
  have L1 := Lib.hid l0
  have HST := Lib.hid HM.out.step1
  have C0 := Lib.hid c0
  clear b0 l0 c0 L0 hf5 hc5 hcA
  go_loopw [22] (fun v22 wr => ∃ i : Nat, i ≤ c ∧ v22 = .int .i64 (i : Int) ∧ Blk wr B 64 (m.add 0 (i : Int) 0).cells ∧ Blk wr w1.heap.size 77 #[.pointer (some ⟨B, 0, none⟩), .int .i64 0, .int .i64 1, .int .i64 0] ∧ Chg (fun b => b = B) w wr) (fun v22 _ => c - (intOf v22).toNat)
  case atStart => exact ⟨0, by omega, rfl, B0.out, L1.out, C0.out⟩
  case round =>
    obtain ⟨i, hi, rfl, hb, hl, hch⟩ := hrel
    clear B0 L1 C0
    by_cases hlc : i < c
    · have k0 := hl.cell 0
      have k1 := hl.cell 1
      have k2 := hl.cell 2
      have k3 := hl.cell 3
      have HBi := Lib.hid hb
      have HLi := Lib.hid hl
      clear hb hl
      go_wp2_with (go_at_call 47; refine (visit_any _ _ _ _ _ 64 _ HBi.out).mono ?_; rintro e w2 ⟨rfl, h2, c2⟩; have H2 := Lib.hid h2; clear h2)
      go_roundw
      case rel => exact ⟨i + 1, by omega, by go_num, by rw [← HST.out i]; exact H2.out, (c2.block _ HLi.out.lt (by omega)).trans HLi.out, hch.trans c2⟩
      case measure => simp [intOf]; omega
    · obtain rfl : i = c := by omega
      have HBi := Lib.hid hb
      clear hb hl
      go_wp2
      go_ret
      exact ⟨rfl, HBi.out, hch⟩
set_option maxRecDepth 100000 in
set_option maxHeartbeats 800000 in
theorem do_3 (m : MeterS) (n : Int) (B : Nat) (w : World) (hb : Blk w B 64 m.cells) :
    Calls Tryd.prog 43 #[.pointer (some ⟨B, 0, none⟩), .agg #[.int .i64 3, .int .i64 n]] w fun e w' => e = .returned (.int .i64 0) ∧ Blk w' B 64 { m with l0 := 0, l1 := 0, l2 := 0 : MeterS }.cells ∧ Chg (fun b => b = B) w w' := by
  have hlt := hb.lt
  have HB := Lib.hid hb
  clear hb
  go_enter Tryd.func43, Tryd.ntmps43
  go_wp2_with (go_at_call 95; refine (meterReset_any _ _ 64 _ ((HB.out.alloc _).alloc _)).mono ?_; rintro e w1 ⟨rfl, h1, c1⟩; have H1 := Lib.hid h1; clear h1)
  go_ret
  exact ⟨rfl, H1.out, (Chg.of_below (by go_grown)).trans c1⟩
set_option maxRecDepth 100000 in
set_option maxHeartbeats 800000 in
theorem do_4 (m : MeterS) (n : Int) (B : Nat) (w : World) (hb : Blk w B 64 m.cells) :
    Calls Tryd.prog 43 #[.pointer (some ⟨B, 0, none⟩), .agg #[.int .i64 4, .int .i64 n]] w fun e w' => e = .returned (.int .i64 0) ∧ Blk w' B 64 { m with limited := decide (0 ≤ n), limit := n : MeterS }.cells ∧ Chg (fun b => b = B) w w' := by
  have hlt := hb.lt
  have HB := Lib.hid hb
  clear hb
  go_enter Tryd.func43, Tryd.ntmps43
  go_wp2_with (go_at_call 48; refine (meterLimit_any _ _ _ 64 _ ((HB.out.alloc _).alloc _)).mono ?_; rintro e w1 ⟨rfl, h1, c1⟩; have H1 := Lib.hid h1; clear h1)
  go_ret
  exact ⟨rfl, H1.out, (Chg.of_below (by go_grown)).trans c1⟩
set_option maxRecDepth 100000 in
set_option maxHeartbeats 800000 in
theorem do_none (m : MeterS) (k n : Int) (hk : k < 0 ∨ 4 < k) (B : Nat) (w : World) (hb : Blk w B 64 m.cells) :
    Calls Tryd.prog 43 #[.pointer (some ⟨B, 0, none⟩), .agg #[.int .i64 k, .int .i64 n]] w fun e w' => e = .returned (.int .i64 0) ∧ Blk w' B 64 m.cells ∧ Chg (fun b => b = B) w w' := by
  have hlt := hb.lt
  have HB := Lib.hid hb
  have e0 : (k == 0) = false := by simp; omega
  have e1 : (k == 1) = false := by simp; omega
  have e2 : (k == 2) = false := by simp; omega
  have e3 : (k == 3) = false := by simp; omega
  have e4 : (k == 4) = false := by simp; omega
  clear hb hk
  go_enter Tryd.func43, Tryd.ntmps43
  go_wp2
  go_ret
  exact ⟨rfl, (HB.out.alloc _).alloc _, Chg.of_below (by go_grown)⟩
set_option maxHeartbeats 1600000 in
theorem unit_over (m : MeterS) (n : Int) (h : 1 ≤ n) (hm : m.limited = true) (h0 : 0 ≤ m.limit) (h2 : m.limit ≤ 9223372036854775807) (h3 : 0 ≤ m.l2) (hn : m.limit - m.l2 < n) (B : Nat) (T : TypeId) (E : Nat → Addr) (w : World) (hb : Blk w B T m.cells) (he : EC w E [11]) (h4 : m.l2 ≤ 1099511627776) :
    Calls Tryd.prog 112 #[.pointer (some ⟨B, 0, none⟩), .int .i64 n] w fun e w' => e = .panicked [{ v := raisedV (errAt E 11), recovered := false }] ∧ Below w.heap.size w w' := by
  have hlt := hb.lt
  have hce : w.cell? ⟨14, 0, none⟩ = some (errAt E 11) := he 11 (by decide)
  obtain ⟨hc, hf⟩ := meter_cells hb
  rw [hm] at hc
  clear hb he
  have hw : IntKind.i64.wrap (m.limit - m.l2) = m.limit - m.l2 := IntWalk.i64_in _ (by omega)
  have hd : decide (m.limit - m.l2 < n) = true := by simp; omega
  go_enter Tryd.func112, Tryd.ntmps112
  go_wp2
  refine wp_region_seq (fun _ => False) #[⟨0, 0, 64, 1, 0⟩, ⟨1, 1, 128, 64, 0⟩, ⟨2, 3, 256, 128, 0⟩, ⟨4, 7, 512, 256, 1⟩, ⟨8, 15, 1024, 512, 0⟩, ⟨16, 31, 2048, 1026, 0⟩, ⟨16, 31, 4096, 1025, 0⟩, ⟨80, 95, 8192, 5120, 0⟩, ⟨144, 223, 16384, 9216, 0⟩, ⟨272, 479, 32768, 17408, 1⟩, ⟨16, 31, 65536, 1025, 0⟩, ⟨1040, 1055, 131072, 66560, 0⟩, ⟨2064, 3103, 262144, 132096, 0⟩, ⟨4112, 7199, 524288, 263168, 0⟩, ⟨8208, 15391, 1048576, 525312, 1⟩, ⟨16912, 32735, 2097152, 1082368, 0⟩, ⟨32816, 65535, 4194304, 2100224, 0⟩, ⟨65552, 131071, 8388608, 4195328, 0⟩] 16904 [(0, 0), (1, 0), (2, 0), (3, 1), (4, 0), (5, 0), (6, 0), (7, 0), (8, 0), (9, 1), (10, 0), (11, 0), (12, 0), (13, 0), (14, 1), (15, 0), (16, 0), (17, 0)] (by kernel_rfl) (by kernel_rfl) (by kernel_rfl) (by kernel_rfl) (by kernel_rfl) (by kernel_rfl) (fun c a d v w h => by cases d <;> exact h) ?_
  refine seq_calc (by simp only [List.getElem?_toArray, List.getElem?_cons_succ, List.getElem?_cons_zero]; rfl) (by rfl) (fun u => by go_simp <;> with_reducible rfl) ?_
  try simp only [Act.put, List.setIfInBounds_toArray, List.set_cons_zero, List.set_cons_succ]
  refine seq_calc (by simp only [List.getElem?_toArray, List.getElem?_cons_succ, List.getElem?_cons_zero]; rfl) (by rfl) (fun u => by go_simp <;> with_reducible rfl) ?_
  try simp only [Act.put, List.setIfInBounds_toArray, List.set_cons_zero, List.set_cons_succ]
  refine seq_calc (by simp only [List.getElem?_toArray, List.getElem?_cons_succ, List.getElem?_cons_zero]; rfl) (by rfl) (fun u => by go_simp <;> with_reducible rfl) ?_
  try simp only [Act.put, List.setIfInBounds_toArray, List.set_cons_zero, List.set_cons_succ]
  refine seq_load1 (by simp only [List.getElem?_toArray, List.getElem?_cons_succ, List.getElem?_cons_zero]; rfl) (by rfl) rfl rfl Tryd.underlying4 rfl (by go_simp <;> with_reducible rfl) (by first | exact id | assumption | (simp; done) | (simp; omega)) ?_
  try simp only [Act.put, List.setIfInBounds_toArray, List.set_cons_zero, List.set_cons_succ]
  refine seq_calc (by simp only [List.getElem?_toArray, List.getElem?_cons_succ, List.getElem?_cons_zero]; rfl) (by rfl) (fun u => by go_simp <;> with_reducible rfl) ?_
  try simp only [Act.put, List.setIfInBounds_toArray, List.set_cons_zero, List.set_cons_succ]
  first
    | (refine seq_skip (by simp only [List.getElem?_toArray, List.getElem?_cons_succ, List.getElem?_cons_zero]; rfl) (by rfl) ?_)
    | (refine seq_calc (by simp only [List.getElem?_toArray, List.getElem?_cons_succ, List.getElem?_cons_zero]; rfl) (by rfl) (fun u => by go_simp <;> with_reducible rfl) ?_)
  try simp only [Act.put, List.setIfInBounds_toArray, List.set_cons_zero, List.set_cons_succ]
  first
    | (refine seq_skip (by simp only [List.getElem?_toArray, List.getElem?_cons_succ, List.getElem?_cons_zero]; rfl) (by rfl) ?_)
    | (refine seq_calc (by simp only [List.getElem?_toArray, List.getElem?_cons_succ, List.getElem?_cons_zero]; rfl) (by rfl) (fun u => by go_simp <;> with_reducible rfl) ?_)
  try simp only [Act.put, List.setIfInBounds_toArray, List.set_cons_zero, List.set_cons_succ]
  first
    | (refine seq_skip (by simp only [List.getElem?_toArray, List.getElem?_cons_succ, List.getElem?_cons_zero]; rfl) (by rfl) ?_)
    | (refine seq_calc (by simp only [List.getElem?_toArray, List.getElem?_cons_succ, List.getElem?_cons_zero]; rfl) (by rfl) (fun u => by go_simp <;> with_reducible rfl) ?_)
  try simp only [Act.put, List.setIfInBounds_toArray, List.set_cons_zero, List.set_cons_succ]
  first
    | (refine seq_skip (by simp only [List.getElem?_toArray, List.getElem?_cons_succ, List.getElem?_cons_zero]; rfl) (by rfl) ?_)
    | (refine seq_calc (by simp only [List.getElem?_toArray, List.getElem?_cons_succ, List.getElem?_cons_zero]; rfl) (by rfl) (fun u => by go_simp <;> with_reducible rfl) ?_)
  try simp only [Act.put, List.setIfInBounds_toArray, List.set_cons_zero, List.set_cons_succ]
  first
    | (refine seq_skip (by simp only [List.getElem?_toArray, List.getElem?_cons_succ, List.getElem?_cons_zero]; rfl) (by rfl) ?_)
    | (refine seq_load1 (by simp only [List.getElem?_toArray, List.getElem?_cons_succ, List.getElem?_cons_zero]; rfl) (by rfl) rfl rfl Tryd.underlying3 rfl (by go_simp <;> with_reducible rfl) (by first | exact id | assumption | (simp; done) | (simp; omega)) ?_)
  try simp only [Act.put, List.setIfInBounds_toArray, List.set_cons_zero, List.set_cons_succ]
  first
    | (refine seq_skip (by simp only [List.getElem?_toArray, List.getElem?_cons_succ, List.getElem?_cons_zero]; rfl) (by rfl) ?_)
    | (refine seq_calc (by simp only [List.getElem?_toArray, List.getElem?_cons_succ, List.getElem?_cons_zero]; rfl) (by rfl) (fun u => by go_simp <;> with_reducible rfl) ?_)
  try simp only [Act.put, List.setIfInBounds_toArray, List.set_cons_zero, List.set_cons_succ]
  first
    | (refine seq_skip (by simp only [List.getElem?_toArray, List.getElem?_cons_succ, List.getElem?_cons_zero]; rfl) (by rfl) ?_)
    | (refine seq_calc (by simp only [List.getElem?_toArray, List.getElem?_cons_succ, List.getElem?_cons_zero]; rfl) (by rfl) (fun u => by go_simp <;> with_reducible rfl) ?_)
  try simp only [Act.put, List.setIfInBounds_toArray, List.set_cons_zero, List.set_cons_succ]
  first
    | (refine seq_skip (by simp only [List.getElem?_toArray, List.getElem?_cons_succ, List.getElem?_cons_zero]; rfl) (by rfl) ?_)
    | (refine seq_calc (by simp only [List.getElem?_toArray, List.getElem?_cons_succ, List.getElem?_cons_zero]; rfl) (by rfl) (fun u => by go_simp <;> with_reducible rfl) ?_)
  try simp only [Act.put, List.setIfInBounds_toArray, List.set_cons_zero, List.set_cons_succ]
  first
    | (refine seq_skip (by simp only [List.getElem?_toArray, List.getElem?_cons_succ, List.getElem?_cons_zero]; rfl) (by rfl) ?_)
    | (refine seq_calc (by simp only [List.getElem?_toArray, List.getElem?_cons_succ, List.getElem?_cons_zero]; rfl) (by rfl) (fun u => by go_simp <;> with_reducible rfl) ?_)
  try simp only [Act.put, List.setIfInBounds_toArray, List.set_cons_zero, List.set_cons_succ]
  first
    | (refine seq_skip (by simp only [List.getElem?_toArray, List.getElem?_cons_succ, List.getElem?_cons_zero]; rfl) (by rfl) ?_)
    | (refine seq_load1 (by simp only [List.getElem?_toArray, List.getElem?_cons_succ, List.getElem?_cons_zero]; rfl) (by rfl) rfl rfl Tryd.underlying3 rfl (by go_simp <;> with_reducible rfl) (by first | exact id | assumption | (simp; done) | (simp; omega)) ?_)
  try simp only [Act.put, List.setIfInBounds_toArray, List.set_cons_zero, List.set_cons_succ]
  first
    | (refine seq_skip (by simp only [List.getElem?_toArray, List.getElem?_cons_succ, List.getElem?_cons_zero]; rfl) (by rfl) ?_)
    | (refine seq_calc (by simp only [List.getElem?_toArray, List.getElem?_cons_succ, List.getElem?_cons_zero]; rfl) (by rfl) (fun u => by go_simp <;> with_reducible rfl) ?_)
  try simp only [Act.put, List.setIfInBounds_toArray, List.set_cons_zero, List.set_cons_succ]
  first
    | (refine seq_skip (by simp only [List.getElem?_toArray, List.getElem?_cons_succ, List.getElem?_cons_zero]; rfl) (by rfl) ?_)
    | (refine seq_calc (by simp only [List.getElem?_toArray, List.getElem?_cons_succ, List.getElem?_cons_zero]; rfl) (by rfl) (fun u => by go_simp <;> with_reducible rfl) ?_)
  try simp only [Act.put, List.setIfInBounds_toArray, List.set_cons_zero, List.set_cons_succ]
  refine seq_calc (by simp only [List.getElem?_toArray, List.getElem?_cons_succ, List.getElem?_cons_zero]; rfl) (by rfl) (fun u => by go_simp <;> with_reducible rfl) ?_
  try simp only [Act.put, List.setIfInBounds_toArray, List.set_cons_zero, List.set_cons_succ]
  refine seq_nil ?_
  go_wp2_with (go_at_call 154; refine (raise_err E 11 _).mono ?_; rintro e w' ⟨rfl, rfl⟩)
  exact ⟨rfl, rfl, by go_grown⟩
theorem do1_ent : Enters 115 := fun args w => enters_of Tryd.func115 (by kernel_rfl) rfl args w
/-- what Unit does: nothing, a count, or a panic -/
theorem unit_fate (m : MeterS) (hm : MOK m) (n : Int) (B : Nat) (E : Nat → Addr) (w : World) (hb : Blk w B 64 m.cells) (he : EC w E [11]) :
    Fate 112 #[.pointer (some ⟨B, 0, none⟩), .int .i64 n] w E (doBad m 2 n) (fun w' => Blk w' B 64 (doS m 2 n).cells ∧ Chg (fun b => b = B) w w') := by
  have e2 : doS m 2 n = if n < 1 ∨ (m.limited = true ∧ m.limit - m.l2 < n) then m else m.add 0 0 n := by
    unfold doS; rw [if_neg (by decide), if_neg (by decide), if_pos rfl]
  by_cases h1 : n < 1
  · rw [show doBad m 2 n = 0 from if_neg (by omega), e2.trans (if_pos (.inl h1))]
    exact .inl ⟨rfl, (unit_none _ n h1 w).mono (by rintro e w' ⟨rfl, rfl⟩; exact ⟨rfl, hb, Chg.refl _ _⟩)⟩
  · by_cases hl : m.limited = true
    · have hlim := hm.lim hl
      by_cases ho : m.limit - m.l2 < n
      · rw [show doBad m 2 n = 11 from if_pos ⟨rfl, by omega, hl, ho⟩, e2.trans (if_pos (.inr ⟨hl, ho⟩))]
        exact .inr (.inl ⟨by decide, by decide, (unit_over m n (by omega) hl hlim.1 hlim.2 hm.l2.1 ho B _ E w hb he hm.l2.2).mono (by rintro e w' ⟨rfl, h⟩; exact ⟨rfl, hb.below h hb.lt, Chg.of_below h⟩)⟩)
      · rw [show doBad m 2 n = 0 from if_neg (fun h => ho h.2.2.2), e2.trans (if_neg (by rintro (h | ⟨_, h⟩); exact h1 h; exact ho h))]
        exact .inl ⟨rfl, unit_within m n (by omega) hl hlim.1 hlim.2 hm.l2.1 (by omega) B _ w hb⟩
    · rw [show doBad m 2 n = 0 from if_neg (fun h => hl h.2.2.1), e2.trans (if_neg (by rintro (h | ⟨h, _⟩); exact h1 h; exact hl h))]
      exact .inl ⟨rfl, unit_free m n (by omega) (by simpa using hl) B _ w hb⟩
set_option maxHeartbeats 800000 in
theorem do1_fate (m : MeterS) (hm : MOK m) (n : Int) (B P Q : Nat) (E : Nat → Addr) (w : World) (hb : Blk w B 64 m.cells) (he : EC w E [11]) (hp : Blk w P 60 #[.pointer (some ⟨B, 0, none⟩)]) (hq : Blk w Q 71 #[.int .i64 2, .int .i64 n]) :
    Fate 115 #[.pointer (some ⟨P, 0, none⟩), .pointer (some ⟨Q, 0, none⟩)] w E (doBad m 2 n) (fun w' => Blk w' B 64 (doS m 2 n).cells ∧ Chg (fun b => b = B) w w') := by
  have c0 := hp.cell 0
  have c1 := hq.cell 1
  rcases unit_fate m hm n B E w hb he with ⟨h0, hF⟩ | ⟨h0, h1, hF⟩ | ⟨h0, hF⟩
  · refine .inl ⟨h0, ?_⟩
    replace hF := Lib.hid hF
    clear hp hq hb he h0
    generalize doS m 2 n = m' at *
    go_enter Tryd.func115, Tryd.ntmps115
    go_wp2_with (go_at_call 112; refine hF.out.mono ?_; rintro e w1 ⟨rfl, h1, c1⟩; have H1 := Lib.hid h1; clear h1)
    ((try simp only [Exit.inBlock, Exit.then]); first | refine bodyPost_end (results_none rfl _ _ _) rfl ?_ | refine bodyPost_ret (results_none rfl _ _ _) rfl ?_)
    exact ⟨rfl, H1.out, c1⟩
  · refine .inr (.inl ⟨h0, h1, ?_⟩)
    replace hF := Lib.hid hF
    clear hp hq hb he h0 h1
    generalize doS m 2 n = m' at *
    generalize doBad m 2 n = q at *
    go_enter Tryd.func115, Tryd.ntmps115
    go_wp2_with (go_at_call 112; refine hF.out.mono ?_; rintro e w1 ⟨rfl, h1, c1⟩; have H1 := Lib.hid h1; clear h1)
    exact ⟨rfl, rfl, H1.out, c1⟩
  · unfold doBad at h0; split at h0 <;> omega
theorem doBad_le (m : MeterS) (k n : Int) : doBad m k n ≤ 16 := by unfold doBad; split <;> decide
set_option maxRecDepth 100000 in
set_option maxHeartbeats 1600000 in
theorem do_2 (m : MeterS) (hm : MOK m) (n : Int) (B : Nat) (E : Nat → Addr) (w0 w : World) (hb : Blk w B 64 m.cells) (hE : ErrsAre w0 E) (hB : w0.heap.size ≤ B) (h0 : Below w0.heap.size w0 w) :
    Calls Tryd.prog 43 #[.pointer (some ⟨B, 0, none⟩), .agg #[.int .i64 2, .int .i64 n]] w fun e w' => e = .returned (.int .i64 (doBad m 2 n : Int)) ∧ Blk w' B 64 (doS m 2 n).cells ∧ Chg (fun b => b = B) w w' := by
  have hlt := hb.lt
  have hz := h0.size
  obtain ⟨W, hW⟩ : ∃ W, W = (w.alloc (.cells #[.pointer (some ⟨B, 0, none⟩)] 60)).alloc (.cells #[.int .i64 2, .int .i64 n] 71) := ⟨_, rfl⟩
  have hWb : Below w.heap.size w W := by rw [hW]; go_grown
  have hWz : W.heap.size = w.heap.size + 2 := by rw [hW]; simp
  have hb1 : Blk W B 64 m.cells := hb.below hWb hlt
  have hp : Blk W w.heap.size 60 #[.pointer (some ⟨B, 0, none⟩)] := by rw [hW]; exact (Blk.new _ _ _).alloc _
  have hq : Blk W (w.heap.size + 1) 71 #[.int .i64 2, .int .i64 n] := by rw [hW]; exact Blk.new_at (by simp)
  have hE0 : Below w0.heap.size w0 (W.alloc (.cells #[.nilIface] 25)) := (h0.trans (hWb.mono hz)).alloc (by omega) _
  have hE1 : ErrsAre (W.alloc (.cells #[.nilIface] 25)) E := hE.below hE0
  have CF := catch_fate 115 #[.pointer (some ⟨w.heap.size, 0, none⟩), .pointer (some ⟨w.heap.size + 1, 0, none⟩)] E (doBad m 2 n)
    (fun w2 => Blk w2 B 64 (doS m 2 n).cells ∧ Chg (fun b => b = B) (W.alloc (.cells #[.nilIface] 25)) w2) W do1_ent
    (do1_fate m hm n B _ _ E _ (hb1.alloc _) (hE1.ec.sub (by decide)) (hp.alloc _) (hq.alloc _))
    (fun w2 ⟨h1, h2⟩ => ⟨(h2.block _ (by simp) (by omega)).trans (Blk.new _ _ _), (hE.below (hE0.trans (h2.below (n := w0.heap.size) (by simp; omega) (fun k hk e => by omega)))).c10⟩)
  have CF2 : Calls Tryd.prog 114 #[.func (.func 115) #[] #[.pointer (some ⟨w.heap.size, 0, none⟩), .pointer (some ⟨w.heap.size + 1, 0, none⟩)]] W fun e w3 =>
      e = .returned (errN E (doBad m 2 n)) ∧ ErrsAre w3 E ∧ Blk w3 B 64 (doS m 2 n).cells ∧ Chg (fun b => b = B) w w3 := by
    refine CF.mono ?_
    rintro e w3 ⟨rfl, w2, ⟨h2, c2⟩, hb3⟩
    have c1 : Chg (fun b => b = B) w (W.alloc (.cells #[.nilIface] 25)) := (Chg.of_below hWb).alloc _
    have c3 : Chg (fun b => b = B) w w3 := (c1.trans c2).trans' (Y := fun b => W.heap.size ≤ b) ⟨hb3.os, hb3.tape, hb3.output, hb3.size, fun k hk hn => hb3.block k (by omega)⟩ (fun k hk hy => by omega)
    exact ⟨rfl, hE.below (h0.trans (c3.below hz (fun k hk e => by omega))), h2.below hb3 (by omega), c3⟩
  have HCF := Lib.hid CF2
  rw [hW] at HCF
  have hk := doBad_le m 2 n
  generalize doS m 2 n = m' at *
  generalize doBad m 2 n = q at *
  clear CF CF2 hb1 hp hq hE1 hE0 hb hm hW hWb hWz
  go_enter Tryd.func43, Tryd.ntmps43
  go_wp2_with (first
    | (go_at_call 114; refine HCF.out.mono ?_; rintro e w3 ⟨rfl, hE3, h2, c3⟩; have HE3 := Lib.hid hE3; have H2 := Lib.hid h2; clear h2 hE3)
    | (go_at_call 20; refine (num_any E q hk _ HE3.out).mono ?_; rintro e w4 ⟨rfl, hb4⟩))
  go_ret
  exact ⟨rfl, H2.out.below hb4 H2.out.lt, c3.thenBelow hb4⟩
theorem do_any (m : MeterS) (hm : MOK m) (k n : Int) (B : Nat) (E : Nat → Addr) (w0 w : World) (hb : Blk w B 64 m.cells) (hE : ErrsAre w0 E) (hB : w0.heap.size ≤ B) (h0 : Below w0.heap.size w0 w) :
    Calls Tryd.prog 43 #[.pointer (some ⟨B, 0, none⟩), .agg #[.int .i64 k, .int .i64 n]] w fun e w' => e = .returned (.int .i64 (doBad m k n : Int)) ∧ Blk w' B 64 (doS m k n).cells ∧ Chg (fun b => b = B) w w' := by
  by_cases k2 : k = 2
  · subst k2; exact do_2 m hm n B E w0 w hb hE hB h0
  have hbad : doBad m k n = 0 := if_neg (fun h => k2 h.1)
  rw [hbad]
  by_cases k0 : k = 0
  · subst k0; rw [show doS m 0 n = m.add (cntZ n) 0 0 from if_pos rfl]; exact do_0 m hm n B w hb
  by_cases k1 : k = 1
  · subst k1; rw [show doS m 1 n = m.add 0 (cntZ n) 0 by unfold doS; rw [if_neg (by decide), if_pos rfl]]; exact do_1 m hm n B w hb
  by_cases k3 : k = 3
  · subst k3; rw [show doS m 3 n = { m with l0 := 0, l1 := 0, l2 := 0 } by unfold doS; rw [if_neg (by decide), if_neg (by decide), if_neg (by decide), if_pos rfl]]; exact do_3 m n B w hb
  by_cases k4 : k = 4
  · subst k4; rw [show doS m 4 n = { m with limited := decide (0 ≤ n), limit := n } by unfold doS; rw [if_neg (by decide), if_neg (by decide), if_neg (by decide), if_neg (by decide), if_pos rfl]]; exact do_4 m n B w hb
  rw [show doS m k n = m by unfold doS; rw [if_neg k0, if_neg k1, if_neg k2, if_neg k3, if_neg k4]]
  exact do_none m k n (by omega) B w hb
end Go.Proofs.YtplimhllfbdocaaDoor
