/- Texts joined: Split Trap Evac EvacStep. No condition but those that stand within. -/
import Derived.IntWalk
import Derived.Defers
import Derived.Recover
import Derived.WalkLawsBesides
import Derived.Test.YtolhmibejhldkaaGreatDoorPkSwar
import Derived.Test.YtolhmibejhldkaaGreatDoorPkMeter
import Derived.Test.YtolhmibejhldkaaGreatDoorPkErrs
import Derived.Test.YtolhmibejhldkaaGreatDoorPkGroup
import Derived.Test.YtolhmibejhldkaaGreatDoorPkTab
import Derived.Test.YtolhmibejhldkaaGreatDoorPkTab2
import Derived.Test.YtolhmibejhldkaaGreatDoorPkTab3
import Derived.Test.YtolhmibejhldkaaGreatDoorPkTab4
import Derived.Test.YtolhmibejhldkaaGreatDoorPkTake
import Derived.Test.YtolhmibejhldkaaGreatDoorPkTabM
import Derived.Test.YtolhmibejhldkaaGreatDoorPkBuild
set_option linter.unusedVariables false
set_option linter.unusedSimpArgs false
namespace Go.Proofs.YtolhmibejhldkaaGreatDoor
open Go.RowKit Go.Proofs
section
variable {P : Program} {w : World}
end
theorem deep_any (d : Int) (w : World) : Calls Tryz.prog 90 #[.int .i64 d] w fun e w' => e = .returned (.bool (decide (0 ≤ d ∧ d ≤ 16))) ∧ w = w' := by
  by_cases h0 : 0 ≤ d
  · by_cases h1 : d ≤ 16
    · rw [decide_eq_true (show 0 ≤ d ∧ d ≤ 16 from ⟨h0, h1⟩)]
      have e1 : decide (d ≥ 0) = true := by simpa using h0
      have e2 : decide (d ≤ 16) = true := by simpa using h1
      go_enter Tryz.func90, Tryz.ntmps90
      go_wp2
      go_ret
      exact ⟨rfl, rfl⟩
    · rw [decide_eq_false (show ¬ (0 ≤ d ∧ d ≤ 16) from fun h => h1 h.2)]
      have e1 : decide (d ≥ 0) = true := by simpa using h0
      have e2 : decide (d ≤ 16) = false := by simpa using h1
      go_enter Tryz.func90, Tryz.ntmps90
      go_wp2
      go_ret
      exact ⟨rfl, rfl⟩
  · rw [decide_eq_false (show ¬ (0 ≤ d ∧ d ≤ 16) from fun h => h0 h.1)]
    have e1 : decide (d ≥ 0) = false := by simp; omega
    go_enter Tryz.func90, Tryz.ntmps90
    go_wp2
    go_ret
    exact ⟨rfl, rfl⟩
def topN (h d : Nat) : Nat := h / 2 ^ (64 - d)
theorem topN_lt {h d : Nat} (hh : h < 18446744073709551616) (hd : d ≤ 64) : topN h d < 2 ^ d := by
  unfold topN
  rw [Nat.div_lt_iff_lt_mul (Nat.two_pow_pos _), ← Nat.pow_add, show d + (64 - d) = 64 by omega]
  exact hh
theorem pow_le16 {d : Nat} (hd : d ≤ 16) : 2 ^ d ≤ 65536 := Nat.pow_le_pow_right (by decide) hd
theorem top_ok (h d : Nat) (hh : h < 18446744073709551616) (hd : d ≤ 16) (w : World) :
    Calls Tryz.prog 38 #[.int .u64 (h : Int), .int .i64 (d : Int)] w fun e w' => e = .returned (.tuple #[.int .i64 ((topN h d : Nat) : Int), .nilIface]) ∧ w = w' := by
  have hdp := deep_any (d : Int)
  rw [decide_eq_true (show (0 : Int) ≤ (d : Int) ∧ (d : Int) ≤ 16 by omega)] at hdp
  have hsub : ((64 : Int) - (d : Int)) = ((64 - d : Nat) : Int) := by omega
  have ht : topN h d < 65536 + 1 := by have := topN_lt (d := d) hh (by omega); have := pow_le16 hd; omega
  have hq : (h : Int) / 2 ^ (64 - d) = ((topN h d : Nat) : Int) := by unfold topN; simp
  generalize topN h d = t at *
  go_enter Tryz.func38, Tryz.ntmps38
  go_wp2_with (go_at_call 90; refine (hdp _).mono ?_; rintro e w' ⟨rfl, rfl⟩)
  go_ret2
  exact ⟨rfl, rfl⟩
def Pre (p d : Int) : Prop := (0 ≤ d ∧ d ≤ 16) ∧ 0 ≤ p ∧ p < ((2 ^ d.toNat : Nat) : Int)
instance (p d : Int) : Decidable (Pre p d) := by unfold Pre; infer_instance
theorem pow_wrap (m : Nat) (hm : m ≤ 16) : wrap64 ((2 : Int) ^ m) = ((2 ^ m : Nat) : Int) := by
  have := pow_le16 hm
  rw [show ((2 : Int) ^ m) = ((2 ^ m : Nat) : Int) by simp]
  generalize 2 ^ m = y at *
  exact IntWalk.wrap64_in _ (by omega)
theorem prefixed_any (p d : Int) (w : World) : Calls Tryz.prog 39 #[.int .i64 p, .int .i64 d] w fun e w' => e = .returned (.bool (decide (Pre p d))) ∧ w = w' := by
  have hdp := deep_any d
  by_cases h0 : 0 ≤ d ∧ d ≤ 16
  · obtain ⟨m, rfl⟩ : ∃ m : Nat, d = (m : Int) := ⟨d.toNat, by omega⟩
    have hm : m ≤ 16 := by omega
    rw [decide_eq_true h0] at hdp
    have hs := pow_wrap m hm
    by_cases h1 : 0 ≤ p
    · have e1 : decide (p ≥ 0) = true := by simpa using h1
      by_cases h2 : p < ((2 ^ m : Nat) : Int)
      · rw [decide_eq_true (show Pre p (m : Int) from ⟨h0, h1, by simpa using h2⟩)]
        have e2 : decide (p < ((2 ^ m : Nat) : Int)) = true := decide_eq_true h2
        generalize 2 ^ m = y at *
        clear h0 h2
        go_enter Tryz.func39, Tryz.ntmps39
        go_wp2_with (go_at_call 90; refine (hdp _).mono ?_; rintro e w' ⟨rfl, rfl⟩)
        go_ret
        exact ⟨rfl, rfl⟩
      · rw [decide_eq_false (show ¬ Pre p (m : Int) from fun h => h2 (by simpa using h.2.2))]
        have e2 : decide (p < ((2 ^ m : Nat) : Int)) = false := decide_eq_false h2
        generalize 2 ^ m = y at *
        clear h0 h2
        go_enter Tryz.func39, Tryz.ntmps39
        go_wp2_with (go_at_call 90; refine (hdp _).mono ?_; rintro e w' ⟨rfl, rfl⟩)
        go_ret
        exact ⟨rfl, rfl⟩
    · rw [decide_eq_false (show ¬ Pre p (m : Int) from fun h => h1 h.2.1)]
      have e1 : decide (p ≥ 0) = false := by simp; omega
      clear h0 hs
      go_enter Tryz.func39, Tryz.ntmps39
      go_wp2_with (go_at_call 90; refine (hdp _).mono ?_; rintro e w' ⟨rfl, rfl⟩)
      go_ret
      exact ⟨rfl, rfl⟩
  · rw [decide_eq_false (show ¬ Pre p d from fun h => h0 h.1)]
    rw [decide_eq_false h0] at hdp
    clear h0
    go_enter Tryz.func39, Tryz.ntmps39
    go_wp2_with (go_at_call 90; refine (hdp _).mono ?_; rintro e w' ⟨rfl, rfl⟩)
    go_ret
    exact ⟨rfl, rfl⟩
def lowN (p d : Nat) : Nat := p * 2 ^ (64 - d)
theorem lowN_lt {p d : Nat} (hp : p < 2 ^ d) (hd : d ≤ 64) : lowN p d < 18446744073709551616 := by
  unfold lowN
  have h1 : p * 2 ^ (64 - d) < 2 ^ d * 2 ^ (64 - d) := Nat.mul_lt_mul_of_pos_right hp (Nat.two_pow_pos _)
  rwa [← Nat.pow_add, show d + (64 - d) = 64 by omega] at h1
theorem low_ok (p d : Nat) (hd : d ≤ 16) (hp : p < 2 ^ d) (w : World) :
    Calls Tryz.prog 36 #[.int .i64 (p : Int), .int .i64 (d : Int)] w fun e w' => e = .returned (.tuple #[.int .u64 ((lowN p d : Nat) : Int), .nilIface]) ∧ w = w' := by
  have hpp := prefixed_any (p : Int) (d : Int)
  rw [decide_eq_true (show Pre (p : Int) (d : Int) from ⟨by omega, by omega, by simp; exact_mod_cast hp⟩)] at hpp
  have hsub : ((64 : Int) - (d : Int)) = ((64 - d : Nat) : Int) := by omega
  have hl := lowN_lt hp (by omega)
  have hpl : p < 65536 + 1 := by have := pow_le16 hd; omega
  have hq : IntKind.u64.wrap ((p : Int) * 2 ^ (64 - d)) = ((lowN p d : Nat) : Int) := by
    rw [show ((p : Int) * 2 ^ (64 - d)) = ((lowN p d : Nat) : Int) by unfold lowN; simp]
    exact IntWalk.u64_in _ (by omega)
  generalize lowN p d = t at *
  clear hp
  go_enter Tryz.func36, Tryz.ntmps36
  go_wp2_with (go_at_call 39; refine (hpp _).mono ?_; rintro e w' ⟨rfl, rfl⟩)
  go_ret2
  exact ⟨rfl, rfl⟩
end Go.Proofs.YtolhmibejhldkaaGreatDoor

namespace Go.Proofs.YtolhmibejhldkaaGreatDoor
open Go.RowKit Go.Proofs
theorem raise_nil (w : World) : Calls Tryz.prog 180 #[.nilIface] w fun e w' => e = .returned (.tuple #[]) ∧ w = w' := by
  go_enter Tryz.func180, Tryz.ntmps180
  go_wp2
  go_end0
  exact ⟨rfl, rfl⟩
theorem need_yes (w : World) : Calls Tryz.prog 155 #[.bool true] w fun e w' => e = .returned (.tuple #[]) ∧ w = w' := by
  go_enter Tryz.func155, Tryz.ntmps155
  go_wp2
  go_end0
  exact ⟨rfl, rfl⟩
end Go.Proofs.YtolhmibejhldkaaGreatDoor

namespace Go.Proofs.YtolhmibejhldkaaGreatDoor
open Go.RowKit Go.Proofs
attribute [local go_sem] neq_nilG eql_nilG
def bitN (h d : Nat) : Nat := h / 2 ^ (63 - d) % 2
theorem bitN_lt (h d : Nat) : bitN h d < 2 := Nat.mod_lt _ (by decide)
theorem splitBit_ok (h d : Nat) (hh : h < 18446744073709551616) (hd : d ≤ 15) (w : World) :
    Calls Tryz.prog 172 #[.int .u64 (h : Int), .int .i64 (d : Int)] w fun e w' => e = .returned (.tuple #[.int .i64 ((bitN h d : Nat) : Int), .nilIface]) ∧ w = w' := by
  have hdp := deep_any (d : Int)
  rw [decide_eq_true (show (0 : Int) ≤ (d : Int) ∧ (d : Int) ≤ 16 by omega)] at hdp
  have hsub : ((63 : Int) - (d : Int)) = ((63 - d : Nat) : Int) := by omega
  obtain ⟨q, hq0⟩ : ∃ q, q = h / 2 ^ (63 - d) := ⟨_, rfl⟩
  have hq : (h : Int) / 2 ^ (63 - d) = (q : Int) := by rw [hq0]; simp
  have hb : bitN h d = q % 2 := by unfold bitN; rw [hq0]
  rw [hb]
  have hqb : q < 18446744073709551616 := by rw [hq0]; exact Nat.lt_of_le_of_lt (Nat.div_le_self _ _) hh
  have hand : bits .and .u64 (q : Int) 1 = ((q % 2 : Nat) : Int) := by
    have := bits_and_u64_nat q 1 hqb (by decide)
    rw [Nat.and_one_is_mod] at this
    exact this
  have hq2 : q % 2 < 2 := Nat.mod_lt _ (by decide)
  generalize q % 2 = b at *
  clear hq0 hb
  go_enter Tryz.func172, Tryz.ntmps172
  go_wp2_with (go_at_call 90; refine (hdp _).mono ?_; rintro e w' ⟨rfl, rfl⟩)
  go_ret2
  exact ⟨rfl, rfl⟩
theorem mustI_ok (v : Int) (w : World) : Calls Tryz.prog 171 #[.int .i64 v, .nilIface] w fun e w' => e = .returned (.int .i64 v) ∧ w = w' := by
  go_enter Tryz.func171, Tryz.ntmps171
  go_wp2_with (go_at_call 180; refine (raise_nil _).mono ?_; rintro e w' ⟨rfl, rfl⟩)
  go_ret
  exact ⟨rfl, rfl⟩
theorem mustE_ok (a : Option Addr) (n cap : Nat) (w : World) : Calls Tryz.prog 151 #[.slice a n cap, .nilIface] w fun e w' => e = .returned (.slice a n cap) ∧ w = w' := by
  go_enter Tryz.func151, Tryz.ntmps151
  go_wp2_with (go_at_call 180; refine (raise_nil _).mono ?_; rintro e w' ⟨rfl, rfl⟩)
  go_ret
  exact ⟨rfl, rfl⟩
theorem eql_nilP (b : Addr) (w : World) : (binOp .eql 85 (.pointer none) (.pointer (some b))).run Tryz.prog w = .ok (.bool false) w := by kernel_rfl
theorem eql_nilS (a : Addr) (k cap : Nat) (w : World) : (binOp .eql 111 (.slice (some a) k cap) (.slice none 0 0)).run Tryz.prog w = .ok (.bool false) w := by kernel_rfl
attribute [local go_sem] eql_nilP eql_nilS
def PtrRow (w : World) (a : Option Addr) (k : Nat) (F : Nat → Option Addr) : Prop := k ≠ 0 → ∃ G off, a = some ⟨G, off, none⟩ ∧ G < w.heap.size ∧ ∀ i, i < k → w.cell? ⟨G, off + i, none⟩ = some (.pointer (F i))
set_option maxRecDepth 100000 in
theorem index_any (a : Option Addr) (k cap : Nat) (hk : k < 1000) (F : Nat → Option Addr) (w : World) (h : PtrRow w a k F) :
    Calls Tryz.prog 191 #[.slice a k cap, .pointer none] w fun e w' => ∃ z : Int, e = .returned (.int .i64 z) ∧ (decide (z ≥ 0) = true ↔ ∃ i, i < k ∧ F i = none) ∧ w = w' := by
  have HP := Lib.hid h
  clear h
  go_enter Tryz.func191, Tryz.ntmps191
  go_wp2
  go_loopw [8] (fun v8 wr => ∃ j : Nat, j ≤ k ∧ v8 = .int .i64 (j : Int) ∧ w = wr ∧ ∀ i, i < j → F i ≠ none) (fun v8 _ => k - (intOf v8).toNat)
  case atStart => exact ⟨0, Nat.zero_le _, rfl, rfl, fun i hi => by omega⟩
  case round =>
    obtain ⟨j, hj, rfl, rfl, hb⟩ := hrel
    have HB := Lib.hid hb
    clear hb
    by_cases hlt : j < k
    · have hltI : (j : Int) < (k : Int) := by omega
      obtain ⟨G, off, rfl, hz, hc⟩ := HP.out (by omega)
      have c := hc j hlt
      clear hc
      cases hF : F j with
      | none =>
        rw [hF] at c
        have HF := Lib.hid hF
        clear hF
        go_wp2
        go_ret
        exact ⟨(j : Int), rfl, ⟨fun _ => ⟨j, hlt, HF.out⟩, fun _ => by simp⟩, rfl⟩
      | some b =>
        rw [hF] at c
        have HF := Lib.hid hF
        clear hF
        go_wp2
        go_roundw
        case rel => exact ⟨j + 1, by omega, by go_num, by first | rfl | trivial, fun i hi => by
          by_cases e : i = j
          · subst e; rw [HF.out]; simp
          · exact HB.out i (by omega)⟩
        case measure => simp [intOf]; omega
    · obtain rfl : j = k := by omega
      go_wp2
      go_ret
      exact ⟨-1, rfl, ⟨fun h => by simp at h, fun ⟨i, hi, e⟩ => absurd e (HB.out i hi)⟩, rfl⟩
theorem contains_any (a : Option Addr) (k cap : Nat) (hk : k < 1000) (F : Nat → Option Addr) (b : Bool) (hb : b = true ↔ ∃ i, i < k ∧ F i = none) (w : World) (h : PtrRow w a k F) :
    Calls Tryz.prog 182 #[.slice a k cap, .pointer none] w fun e w' => e = .returned (.bool b) ∧ w = w' := by
  have IX := Lib.hid (index_any a k cap hk F w h)
  have HB := Lib.hid hb
  clear hb h
  go_enter Tryz.func182, Tryz.ntmps182
  go_wp2_with (go_at_call 191; refine IX.out.mono ?_; rintro e w' ⟨z, rfl, hz, rfl⟩; have HZ := Lib.hid (show decide (z ≥ 0) = b by rw [Bool.eq_iff_iff, hz, HB.out]); have hzz := HZ.out; clear hz)
  go_ret
  exact ⟨rfl, rfl⟩
theorem infoPT : (Tryz.prog.info? 85).map (fun i => (i.zero, i.size, i.bytes)) = some (some (.pointer none), 1, 8) := by kernel_rfl
theorem ptrs_own {w : World} {base k : Nat} {v : Value} {F : Nat → Option Addr} {e : TypeId} (h : w.ownsRow base e 1 v k ((List.range k).map (fun i => Value.pointer (F i)))) :
    ∃ a cap, v = .slice a k cap ∧ PtrRow w a k F ∧ (k ≠ 0 → ∃ G, a = some ⟨G, 0, none⟩ ∧ base ≤ G) := by
  rcases h.2 with ⟨rfl, rfl⟩ | ⟨g, cap, cur, rfl, hb, hg, h1, h2, h3, h4⟩
  · exact ⟨none, 0, rfl, fun h => absurd rfl h, fun h => absurd rfl h⟩
  · refine ⟨_, cap, rfl, fun hk => ⟨g, 0, rfl, (Array.getElem?_eq_some_iff.1 hg).1, fun i hi => ?_⟩, fun _ => ⟨g, rfl, hb⟩⟩
    rw [Nat.zero_add]
    have h5 := h.cells (g := g) rfl i
    have h6 : (⟨g, 0, none⟩ : Addr).add i = ⟨g, i, none⟩ := by
      simp only [Addr.add]; split
      · rename_i e; rw [e]
      · simp
    rw [h6] at h5
    exact h5 _ (by simp [hi])
theorem add_at (G off j : Nat) : (⟨G, off, none⟩ : Addr).add j = ⟨G, off + j, none⟩ := by
  simp only [Addr.add]; split
  · rename_i e; rw [e]; simp
  · simp
theorem ptr_news {w : World} {G off k : Nat} {F : Nat → Option Addr} (hc : ∀ i, i < k → w.cell? ⟨G, off + i, none⟩ = some (.pointer (F i))) : ∀ j u, ((List.range k).map (fun i => Value.pointer (F i)))[j]? = some u → w.cell? ((⟨G, off, none⟩ : Addr).add j) = some u := fun j u hu => by
  have hj : j < k := by
    have := (List.getElem?_eq_some_iff.1 hu).1
    simpa using this
  rw [add_at, hc j hj, ← hu]
  simp [hj]
set_option maxRecDepth 100000 in
theorem clone_any (a : Option Addr) (k cap : Nat) (h0 : k ≠ 0) (hk : k < 1000) (F : Nat → Option Addr) (w : World) (h : PtrRow w a k F) :
    Calls Tryz.prog 183 #[.slice a k cap] w fun e w' => ∃ v, e = .returned v ∧ w'.ownsRow w.heap.size 85 1 v k ((List.range k).map (fun i => Value.pointer (F i))) ∧ Below w.heap.size w w' := by
  obtain ⟨i0, hi, hz0, hz1, hz2⟩ := info_parts infoPT
  obtain ⟨G, off, rfl, hz, hc⟩ := h h0
  have HC := Lib.hid hc
  clear h hc
  go_enter Tryz.func183, Tryz.ntmps183
  go_wp2_with (at_builtin; (refine wpList_append_own _ rfl _ _ 111 rfl w.heap.size 85 i0 (.pointer none) 1 8 Tryz.underlying111 hi hz0 hz1 hz2 rfl (by decide) _ _ _ rfl (ownsRow_empty (Blk.new w _ #[])) ⟨G, off, none⟩ k cap ((List.range k).map (fun i => Value.pointer (F i))) rfl (by simp) (ptr_news (w := w.alloc (.cells #[] 85)) (fun i hi => (((Below.refl w.heap.size w).alloc (Nat.le_refl _) (.cells #[] 85)).cell (p := ⟨G, off + i, none⟩) hz).trans (HC.out i hi))) (by simp [Value.oneCell']) (by unfold maxLen; omega) (by omega) (by simp) ?_; intro v' w4 hown4 hgrow4 _; have hb4 := Lib.hid (((Below.refl w.heap.size w).alloc (Nat.le_refl _) (.cells #[] 85)).grown hgrow4 (by simp) (fun k ek => ((ownsRow_empty (Blk.new w 85 #[])).lt k ek).1)); clear hgrow4; replace hown4 := Lib.hid hown4))
  go_ret
  exact ⟨_, rfl, by have := hown4.out; simpa using this, hb4.out⟩
structure EW (w : World) (V O G cap k : Nat) (TB : Nat → Nat) (d next : Nat) : Prop where
  b : Blk w V 216 #[.pointer (some ⟨O, 0, none⟩), .slice (some ⟨G, 0, none⟩) k cap, .int .i64 (d : Int), .int .i64 (next : Int)]
  l : ∀ i, i < k → w.cell? ⟨G, i, none⟩ = some (.pointer (some ⟨TB i, 0, none⟩))
  lt : G < w.heap.size
  hk : k = 1 ∨ (k = 2 ∧ d ≤ 15)
theorem EW.later {w w' : World} {V O G cap k : Nat} {TB : Nat → Nat} {d next : Nat} (h : EW w V O G cap k TB d next) (hb : Below w.heap.size w w') : EW w' V O G cap k TB d next :=
  ⟨h.b.below hb h.b.lt, fun i hi => (hb.cell (p := ⟨G, i, none⟩) h.lt).trans (h.l i hi), Nat.lt_of_lt_of_le h.lt hb.size, h.hk⟩
theorem EW.chg {X : Nat → Prop} {w w' : World} {V O G cap k : Nat} {TB : Nat → Nat} {d next : Nat} (h : EW w V O G cap k TB d next) (hc : Chg X w w') (h1 : ¬ X V) (h2 : ¬ X G) : EW w' V O G cap k TB d next :=
  ⟨h.b.chg hc h1, fun i hi => (hc.cell (p := ⟨G, i, none⟩) h.lt h2).trans (h.l i hi), Nat.lt_of_lt_of_le h.lt hc.size, h.hk⟩
theorem ecells {w : World} {V O G cap k : Nat} {TB : Nat → Nat} {d next : Nat} (h : EW w V O G cap k TB d next) : w.cell? ⟨V, 0, none⟩ = some (.pointer (some ⟨O, 0, none⟩)) ∧ w.cell? ⟨V, 1, none⟩ = some (.slice (some ⟨G, 0, none⟩) k cap) ∧ w.cell? ⟨V, 2, none⟩ = some (.int .i64 (d : Int)) ∧ w.cell? ⟨V, 3, none⟩ = some (.int .i64 (next : Int)) ∧ V < w.heap.size ∧ (∀ j, w.frozen? ⟨V, j, none⟩ = false) :=
  ⟨h.b.cell 0, h.b.cell 1, h.b.cell 2, h.b.cell 3, h.b.lt, fun j => h.b.frozen j⟩
def tIx (k d h : Nat) : Nat := if k = 1 then 0 else bitN h d
theorem tIx_lt {k d h : Nat} (hk : k = 1 ∨ (k = 2 ∧ d ≤ 15)) : tIx k d h < k := by
  unfold tIx
  split
  · omega
  · have := bitN_lt h d; omega
set_option maxRecDepth 100000 in
theorem etarget_any (V O G cap k : Nat) (TB : Nat → Nat) (d next h : Nat) (hh : h < 18446744073709551616) (w : World) (he : EW w V O G cap k TB d next) :
    Calls Tryz.prog 137 #[.pointer (some ⟨V, 0, none⟩), .int .u64 (h : Int)] w fun e w' => e = .returned (.pointer (some ⟨TB (tIx k d h), 0, none⟩)) ∧ Below w.heap.size w w' := by
  obtain ⟨c0, c1, c2, c3, hl, hf⟩ := ecells he
  have hz := he.lt
  rcases he.hk with rfl | ⟨rfl, hd⟩
  · have l0 := he.l 0 (by decide)
    have e1 : tIx 1 d h = 0 := rfl
    rw [e1]
    clear he c0 c2 c3 hf
    go_enter Tryz.func137, Tryz.ntmps137
    go_wp2
    go_ret
    exact ⟨rfl, Below.refl _ _⟩
  · have hb := bitN_lt h d
    have e1 : tIx 2 d h = bitN h d := rfl
    have l := he.l (bitN h d) hb
    have BT := Lib.hid (fun w' => splitBit_ok h d hh hd w')
    rw [e1]
    generalize bitN h d = b at *
    have hb2 : (b : Int) < 2 := by omega
    have hb3 : (b : Int) < ((2 : Nat) : Int) := by omega
    clear he c0 c3 hf e1
    go_enter Tryz.func137, Tryz.ntmps137
    go_wp2
    refine wp_region_seq (fun _ => False) #[⟨0, 0, 131072, 1, 0⟩, ⟨1, 1, 262144, 131072, 0⟩, ⟨2, 3, 524288, 262144, 0⟩, ⟨4, 7, 1048576, 524288, 1⟩, ⟨0, 0, 2097152, 2, 0⟩, ⟨0, 0, 4194304, 1, 0⟩, ⟨32, 32, 8388608, 4194304, 0⟩, ⟨64, 96, 16777216, 8388608, 0⟩, ⟨128, 224, 33554432, 16777216, 1⟩, ⟨272, 496, 67108864, 35651584, 2⟩, ⟨512, 1008, 134217728, 67108864, 0⟩, ⟨512, 1008, 268435456, 67108864, 0⟩, ⟨3584, 4080, 536870912, 402653184, 2⟩, ⟨4104, 8191, 1073741824, 537919488, 0⟩, ⟨8192, 16383, 2147483648, 1073741824, 1⟩, ⟨32767, 32767, 16, 2147483648, 0⟩] 16648 [(0, 0), (1, 0), (2, 0), (3, 1), (4, 0), (5, 0), (6, 0), (7, 0), (8, 1), (9, 2), (10, 0), (11, 0), (12, 2), (13, 0), (14, 1), (15, 0)] (by kernel_rfl) (by kernel_rfl) (by kernel_rfl) (by kernel_rfl) (by kernel_rfl) (by kernel_rfl) (fun c a d v w h => by cases d <;> exact h) ?_
    refine zqC ?_; refine zqC ?_; refine zqC ?_
    refine zq1 Tryz.underlying111 ?_
    try refine zqP ?_; refine zqC ?_; refine zqC ?_; refine zqC ?_; refine zqC ?_
    refine zq1 Tryz.underlying3 ?_
    try refine zqP ?_
    refine zqD fun K hK => ?_; go_wp2_with (first | (go_at_call 172; refine (BT.out _).mono ?_; rintro e w' ⟨rfl, rfl⟩) | (go_at_call 171; refine (mustI_ok _ _).mono ?_; rintro e w' ⟨rfl, rfl⟩)); refine hkA hK (h := ?_); clear hK K
    try refine zqP ?_; refine zqC ?_; refine zqC ?_
    refine zqD fun K hK => ?_; go_wp2_with (first | (go_at_call 172; refine (BT.out _).mono ?_; rintro e w' ⟨rfl, rfl⟩) | (go_at_call 171; refine (mustI_ok _ _).mono ?_; rintro e w' ⟨rfl, rfl⟩)); refine hkA hK (h := ?_); clear hK K
    try refine zqP ?_; refine zqC ?_
    refine zq1 Tryz.underlying85 ?_
    try refine zqP ?_; refine zqC ?_
    refine seq_nil ?_
    go_wp2
    go_ret
    exact ⟨rfl, (Below.refl _ _).drew⟩
set_option maxRecDepth 100000 in
theorem eleft_any (V O Q G cap k : Nat) (TB : Nat → Nat) (d next n : Nat) (hn : n ≤ 64) (hx : next ≤ n) (v1 v2 : Value) (w : World) (he : EW w V O G cap k TB d next) (ht : Blk w O 143 #[.slice (some ⟨Q, 0, none⟩) n n, v1, v2]) :
    Calls Tryz.prog 111 #[.pointer (some ⟨V, 0, none⟩)] w fun e w' => e = .returned (.int .i64 ((n - next : Nat) : Int)) ∧ Below w.heap.size w w' := by
  obtain ⟨c0, c1, c2, c3, hl, hf⟩ := ecells he
  have GR := Lib.hid (tgroups_any O Q n v1 v2 w.drew (Blk.drew ht))
  have e1 : IntKind.i64.wrap ((n : Int) - (next : Int)) = ((n - next : Nat) : Int) := by rw [IntKind.wrap_i64]; omega
  clear he ht c1 c2 hf
  go_enter Tryz.func111, Tryz.ntmps111
  go_wp2
  refine wp_region_seq (fun _ => False) #[⟨0, 0, 8, 1, 0⟩, ⟨1, 1, 16, 8, 0⟩, ⟨2, 3, 32, 16, 0⟩, ⟨4, 7, 64, 32, 1⟩, ⟨8, 15, 128, 64, 2⟩, ⟨0, 0, 256, 1, 0⟩, ⟨32, 32, 512, 256, 0⟩, ⟨64, 96, 1024, 512, 0⟩, ⟨128, 224, 2048, 1024, 1⟩, ⟨272, 511, 4096, 2176, 0⟩, ⟨1023, 1023, 4, 4096, 0⟩] 264 [(0, 0), (1, 0), (2, 0), (3, 1), (5, 0), (6, 0), (7, 0), (8, 1), (4, 2), (9, 0), (10, 0)] (by kernel_rfl) (by kernel_rfl) (by kernel_rfl) (by kernel_rfl) (by kernel_rfl) (by kernel_rfl) (fun c a d v w h => by cases d <;> exact h) ?_
  refine zqC ?_; refine zqC ?_; refine zqC ?_
  refine zq1 Tryz.underlying85 ?_
  try refine zqP ?_; refine zqC ?_; refine zqC ?_; refine zqC ?_
  refine zq1 Tryz.underlying3 ?_
  try refine zqP ?_
  refine zqD fun K hK => ?_; go_wp2_with (go_at_call 49; refine GR.out.mono ?_; rintro e w' ⟨rfl, rfl⟩); refine hkA hK (h := ?_); clear hK K
  try refine zqP ?_; refine zqC ?_; refine zqC ?_
  refine seq_nil ?_
  go_wp2
  go_ret
  exact ⟨rfl, (Below.refl _ _).drew⟩
set_option maxRecDepth 100000 in
theorem evnew_ok (O d : Nat) (a : Option Addr) (k cap : Nat) (TB : Nat → Nat) (hk : k = 1 ∨ (k = 2 ∧ d ≤ 15)) (w : World) (h : PtrRow w a k (fun i => some ⟨TB i, 0, none⟩)) :
    Calls Tryz.prog 160 #[.pointer (some ⟨O, 0, none⟩), .int .i64 (d : Int), .slice a k cap] w fun e w' => ∃ V G cap', e = .returned (.tuple #[.pointer (some ⟨V, 0, none⟩), .nilIface]) ∧ w.heap.size ≤ V ∧ w.heap.size ≤ G ∧ EW w' V O G cap' k TB d 0 ∧ V ≠ G ∧ Below w.heap.size w w' := by
  have CO := Lib.hid (contains_any a k cap (by omega) _ false ⟨fun e => (by cases e), fun ⟨i, hi, e⟩ => (by cases e)⟩ w h)
  have CL := Lib.hid (clone_any a k cap (by omega) (by omega) _ w h)
  have HK := Lib.hid hk
  clear h
  rcases hk with rfl | ⟨rfl, hd⟩
  · have d0 : True := trivial
    go_enter Tryz.func160, Tryz.ntmps160
    go_wp2_with (first
      | (go_at_call 182; refine CO.out.mono ?_; rintro e w' ⟨rfl, rfl⟩)
      | (go_at_call 183; refine CL.out.mono ?_; rintro e w1 ⟨v, rfl, hr1, hb1⟩; have hz1 := hb1.size; obtain ⟨a', cap', rfl, hP, hG⟩ := ptrs_own hr1; obtain ⟨G, rfl, hGb⟩ := hG (by decide); have HP := Lib.hid hP; clear hr1 hP hG))
    go_ret2
    obtain ⟨G', off', e, hGz, hGc⟩ := HP.out (by decide)
    cases e
    simp only [Nat.zero_add] at hGc
    exact ⟨w1.heap.size, G, cap', rfl, hz1, hGb, ⟨Blk.new _ _ _, fun i hi => (((Below.refl w1.heap.size w1).alloc (Nat.le_refl _) _).cell (p := ⟨G, i, none⟩) hGz).trans (hGc i hi), by simp; omega, by first | exact .inl rfl | exact .inr ⟨rfl, hd⟩⟩, by omega, hb1.alloc hz1 _⟩
  · have hd2 : (d : Int) ≤ 15 := by omega
    go_enter Tryz.func160, Tryz.ntmps160
    go_wp2_with (first
      | (go_at_call 182; refine CO.out.mono ?_; rintro e w' ⟨rfl, rfl⟩)
      | (go_at_call 183; refine CL.out.mono ?_; rintro e w1 ⟨v, rfl, hr1, hb1⟩; have hz1 := hb1.size; obtain ⟨a', cap', rfl, hP, hG⟩ := ptrs_own hr1; obtain ⟨G, rfl, hGb⟩ := hG (by decide); have HP := Lib.hid hP; clear hr1 hP hG))
    go_ret2
    obtain ⟨G', off', e, hGz, hGc⟩ := HP.out (by decide)
    cases e
    simp only [Nat.zero_add] at hGc
    exact ⟨w1.heap.size, G, cap', rfl, hz1, hGb, ⟨Blk.new _ _ _, fun i hi => (((Below.refl w1.heap.size w1).alloc (Nat.le_refl _) _).cell (p := ⟨G, i, none⟩) hGz).trans (hGc i hi), by simp; omega, by first | exact .inl rfl | exact .inr ⟨rfl, hd⟩⟩, by omega, hb1.alloc hz1 _⟩
end Go.Proofs.YtolhmibejhldkaaGreatDoor

namespace Go.Proofs.YtolhmibejhldkaaGreatDoor
open Go.RowKit Go.Proofs
attribute [local go_sem] neq_nilG eql_nilG
def evS (k d : Nat) (s : (Nat → TabS) × Nat) (e : EntS) : (Nat → TabS) × Nat :=
  (upd s.1 (tIx k d e.hash.toNat) ((s.1 (tIx k d e.hash.toNat)).putT e.key e.val e.hash.toNat), s.2 + (s.1 (tIx k d e.hash.toNat)).looks e.key e.hash.toNat)
def evF (k d : Nat) (l : List EntS) (s : (Nat → TabS) × Nat) : (Nat → TabS) × Nat := l.foldl (evS k d) s
theorem evF_snoc (k d : Nat) (l : List EntS) (e : EntS) (s : (Nat → TabS) × Nat) : evF k d (l ++ [e]) s = evS k d (evF k d l s) e := by unfold evF; rw [List.foldl_append]; rfl
theorem evF_take {k d j : Nat} {l : List EntS} (hj : j < l.length) (s : (Nat → TabS) × Nat) : evF k d (l.take (j + 1)) s = evS k d (evF k d (l.take j) s) l[j] := by
  rw [← evF_snoc, List.take_append_getElem hj]
def EvOk (k d : Nat) (l : List EntS) (U : Nat → TabS) : Prop := ∀ j (h : j < l.length), ((evF k d (l.take j) (U, 0)).1 (tIx k d l[j].hash.toNat)).putB l[j].key l[j].hash.toNat = true
theorem putN_new {T : TabS} {key : Int} {h : Nat} (hb : T.putB key h = true) : T.putN key h = 0 := by
  unfold TabS.putB at hb
  simp only [Bool.and_eq_true] at hb
  unfold TabS.putN; rw [if_pos (.inr hb.2)]
theorem addN_add (mt : MeterS) (x y z : Int) (p q : Nat) : addN (addN mt x y z p) x y z q = addN mt x y z (p + q) := by
  induction q with
  | zero => rfl
  | succ q ih => show (addN (addN mt x y z p) x y z q).add x y z = _; rw [ih]; rfl
theorem addN_limited (mt : MeterS) (x y z : Int) : ∀ p, (addN mt x y z p).limited = mt.limited
  | 0 => rfl
  | p + 1 => addN_limited mt x y z p
structure ESep (V O Q G M k : Nat) (TB R : Nat → Nat) (n0 : Nat) : Prop where
  o : n0 ≤ V ∧ n0 ≤ O ∧ n0 ≤ Q ∧ n0 ≤ G ∧ n0 ≤ M
  v : V ≠ O ∧ V ≠ Q ∧ V ≠ G ∧ V ≠ M
  g : G ≠ O ∧ G ≠ Q ∧ G ≠ M
  m : M ≠ O ∧ M ≠ Q
  tv : ∀ i, i < k → TB i ≠ V ∧ TB i ≠ G ∧ TB i ≠ M ∧ TB i ≠ O ∧ TB i ≠ Q
  rv : ∀ i, i < k → R i ≠ V ∧ R i ≠ G ∧ R i ≠ M ∧ R i ≠ O ∧ R i ≠ Q
  tt : ∀ i j, i < k → j < k → i ≠ j → TB i ≠ TB j ∧ TB i ≠ R j ∧ R i ≠ TB j ∧ R i ≠ R j
structure EV (w : World) (V O Q G cap k : Nat) (TB R : Nat → Nat) (d next : Nat) (T : TabS) (U : Nat → TabS) (M : Nat) (mt : MeterS) (E : Nat → Addr) (w0 : World) : Prop where
  e : EW w V O G cap k TB d next
  t : TN w O Q T E w0
  u : ∀ i, i < k → TN w (TB i) (R i) (U i) E w0
  m : Blk w M 37 mt.cells
  s : ESep V O Q G M k TB R w0.heap.size
section
variable {w w' w0 : World} {V O Q G cap k : Nat} {TB R : Nat → Nat} {d next : Nat} {T : TabS} {U : Nat → TabS} {M : Nat} {mt : MeterS} {E : Nat → Addr}
theorem EV.later (h : EV w V O Q G cap k TB R d next T U M mt E w0) (hb : Below w.heap.size w w') : EV w' V O Q G cap k TB R d next T U M mt E w0 :=
  ⟨h.e.later hb, h.t.later hb, fun i hi => (h.u i hi).later hb, h.m.below hb h.m.lt, h.s⟩
theorem EV.alloc (h : EV w V O Q G cap k TB R d next T U M mt E w0) (o : Obj) : EV (w.alloc o) V O Q G cap k TB R d next T U M mt E w0 := h.later ((Below.refl _ _).alloc (Nat.le_refl _) o)
theorem EV.drew (h : EV w V O Q G cap k TB R d next T U M mt E w0) : EV w.drew V O Q G cap k TB R d next T U M mt E w0 := h.later (Below.refl _ _).drew
theorem EV.chg {X : Nat → Prop} (h : EV w V O Q G cap k TB R d next T U M mt E w0) (hc : Chg X w w') (hX : ∀ b, X b → w0.heap.size ≤ b) (h1 : ¬ X V ∧ ¬ X O ∧ ¬ X Q ∧ ¬ X G ∧ ¬ X M) (h2 : ∀ i, i < k → ¬ X (TB i) ∧ ¬ X (R i)) : EV w' V O Q G cap k TB R d next T U M mt E w0 :=
  ⟨h.e.chg hc h1.1 h1.2.2.2.1, TMW.chg h.t hc hX h1.2.1 h1.2.2.1 (fun b e => by cases e), fun i hi => TMW.chg (h.u i hi) hc hX (h2 i hi).1 (h2 i hi).2 (fun b e => by cases e), h.m.chg hc h1.2.2.2.2, h.s⟩
theorem EV.put (h : EV w V O Q G cap k TB R d next T U M mt E w0) {i : Nat} (hi : i < k) (key v : Int) (hs : Nat) (hh : hs < 18446744073709551616) (x y z : Int) :
    Calls Tryz.prog 154 #[.pointer (some ⟨TB i, 0, none⟩), .agg #[.pointer (some ⟨M, 0, none⟩), .int .i64 x, .int .i64 y, .int .i64 z], .agg #[.int .u64 key, .int .u64 v, .int .u64 (hs : Int)]] w fun e w' =>
      e = .returned (.tuple #[.bool ((U i).putB key hs), errN E ((U i).putN key hs)]) ∧ EV w' V O Q G cap k TB R d next T (upd U i ((U i).putT key v hs)) M (addN mt x y z ((U i).looks key hs)) E w0 ∧ Chg (fun b => b = M ∨ b = TB i ∨ b = R i) w w' := by
  have ho := h.s.o
  have tv := h.s.tv i hi
  have rv := h.s.rv i hi
  have hv := h.s.v
  have hg := h.s.g
  have hm := h.s.m
  have hTB := (h.u i hi).hB
  have hR := (h.u i hi).hQ
  refine (TN.putM (h.u i hi) h.m (fun e => tv.2.2.1 e.symm) (fun e => rv.2.2.1 e.symm) ho.2.2.2.2 key v hs hh x y z).mono ?_
  rintro e w' ⟨rfl, h1, h2, h3⟩
  refine ⟨rfl, ⟨h.e.chg h3 (by rintro (e | e | e); exact hv.2.2.2 e; exact tv.1 e.symm; exact rv.1 e.symm) (by rintro (e | e | e); exact hg.2.2 e; exact tv.2.1 e.symm; exact rv.2.1 e.symm), TN.chg3 h.t h3 ho.2.2.2.2 hTB hR ⟨Ne.symm hm.1, Ne.symm tv.2.2.2.1, Ne.symm rv.2.2.2.1⟩ ⟨Ne.symm hm.2, Ne.symm tv.2.2.2.2, Ne.symm rv.2.2.2.2⟩, fun j hj => ?_, h2, h.s⟩, h3⟩
  by_cases e : j = i
  · subst e; rw [upd_same]; exact h1
  · rw [upd_other _ _ e]
    have tt := h.s.tt j i hj hi e
    have tvj := h.s.tv j hj
    have rvj := h.s.rv j hj
    exact TN.chg3 (h.u j hj) h3 ho.2.2.2.2 hTB hR ⟨tvj.2.2.1, tt.1, tt.2.1⟩ ⟨rvj.2.2.1, tt.2.2.1, tt.2.2.2⟩
theorem EV.take (h : EV w V O Q G cap k TB R d next T U M mt E w0) (hn : next < T.n) (x y z : Int) :
    Calls Tryz.prog 152 #[.pointer (some ⟨O, 0, none⟩), .agg #[.pointer (some ⟨M, 0, none⟩), .int .i64 x, .int .i64 y, .int .i64 z], .int .i64 (next : Int)] w fun e w' =>
      ∃ v, e = .returned (.tuple #[v, .nilIface]) ∧ w'.ownsRow w.heap.size 46 3 v (entsL (T.M next) (T.S next)).length (entV (entsL (T.M next) (T.S next))) ∧ EV w' V O Q G cap k TB R d next (T.takeT next) U M (mt.add x y z) E w0 ∧ Chg (fun b => b = M ∨ b = O ∨ b = Q) w w' := by
  have ho := h.s.o
  have hv := h.s.v
  have hg := h.s.g
  have hm := h.s.m
  refine ((TMW.meter h.t h.m hm.1 hm.2 ho.2.2.2.2).take next hn _ (LensAt.m M) x y z).mono ?_
  rintro e w' ⟨v, rfl, h1, h2, h3⟩
  have h4 : Chg (fun b => b = M ∨ b = O ∨ b = Q) w w' := h3.mono (fun b _ e => by
    rcases e with e | e
    · exact .inl (Option.some.inj e).symm
    · exact .inr e)
  refine ⟨v, rfl, h1, ⟨h.e.chg h4 (by rintro (e | e | e) <;> omega) (by rintro (e | e | e) <;> omega), h2.unmeter, fun j hj => ?_, h2.m M rfl, h.s⟩, h4⟩
  have tvj := h.s.tv j hj
  have rvj := h.s.rv j hj
  exact TN.chg3 (h.u j hj) h4 ho.2.2.2.2 ho.2.1 ho.2.2.1 ⟨tvj.2.2.1, tvj.2.2.2.1, tvj.2.2.2.2⟩ ⟨rvj.2.2.1, rvj.2.2.2.1, rvj.2.2.2.2⟩
theorem EV.unit (h : EV w V O Q G cap k TB R d next T U M mt E w0) (hl : mt.limited = false) :
    Calls Tryz.prog 150 #[.pointer (some ⟨M, 0, none⟩), .int .i64 1] w fun e w' => e = .returned (.tuple #[]) ∧ EV w' V O Q G cap k TB R d next T U M (mt.add 0 0 1) E w0 ∧ Chg (fun b => b = M) w w' := by
  have ho := h.s.o
  have hv := h.s.v
  have hg := h.s.g
  have hm := h.s.m
  refine (unit_free mt 1 (by decide) hl M 37 w h.m).mono ?_
  rintro e w' ⟨rfl, h1, h2⟩
  exact ⟨rfl, ⟨h.e.chg h2 (by omega) (by omega), TN.chg1 h.t h2 ho.2.2.2.2 (by omega) (by omega), fun j hj => TN.chg1 (h.u j hj) h2 ho.2.2.2.2 (h.s.tv j hj).2.2.1 (h.s.rv j hj).2.2.1, h1, h.s⟩, h2⟩
theorem ents_hash {m : Nat} {s : Nat → EntS} (hg : GGood m s) {e : EntS} (he : e ∈ entsL m s) : e.hash = ((e.hash.toNat : Nat) : Int) ∧ e.hash.toNat < 18446744073709551616 := by
  unfold entsL lanesL at he
  simp only [List.mem_map, List.mem_filter, List.mem_range] at he
  obtain ⟨i, ⟨hi, -⟩, rfl⟩ := he
  obtain ⟨-, h, e1, e2, -⟩ := hg.2 i hi
  rw [e1]; exact ⟨by simp, by simpa using e2⟩
set_option maxRecDepth 100000 in
theorem estep_no (h : EV w V O Q G cap k TB R d next T U M mt E w0) (hn : next = T.n) (p : Option Addr) :
    Calls Tryz.prog 107 #[.pointer (some ⟨V, 0, none⟩), .pointer p] w fun e w' => e = .returned (.bool false) ∧ EV w' V O Q G cap k TB R d next T U M mt E w0 ∧ Below w.heap.size w w' := by
  have hb := h.t.good.bounds
  have LF := Lib.hid (eleft_any V O Q G cap k TB d next T.n hb.1 (by omega) _ _ w h.e h.t.t.head)
  rw [show T.n - next = 0 by omega] at LF
  have HV := Lib.hid h
  clear h hn hb
  go_enter Tryz.func107, Tryz.ntmps107
  go_wp2_with (go_at_call 111; refine LF.out.mono ?_; rintro e w1 ⟨rfl, hb1⟩)
  go_ret
  exact ⟨rfl, HV.out.later hb1, hb1⟩
structure ESt (wr : World) (V O Q G cap k : Nat) (TB R : Nat → Nat) (d next : Nat) (T' : TabS) (l : List EntS) (s : (Nat → TabS) × Nat) (M : Nat) (mt : MeterS) (E : Nat → Addr) (base : Nat) (vl : Value) (w0 w : World) : Prop where
  e : EV wr V O Q G cap k TB R d next T' s.1 M (addN mt 0 1 0 s.2) E w0
  r : wr.ownsRow base 46 3 vl l.length (entV l)
  c : Chg (fun b => b = M ∨ b = O ∨ b = Q ∨ b = V ∨ ∃ i, i < k ∧ (b = TB i ∨ b = R i)) w wr
theorem ESt.later {wr w' w : World} {T' : TabS} {l : List EntS} {s : (Nat → TabS) × Nat} {base : Nat} {vl : Value} (h : ESt wr V O Q G cap k TB R d next T' l s M mt E base vl w0 w) (hb : Below wr.heap.size wr w') : ESt w' V O Q G cap k TB R d next T' l s M mt E base vl w0 w :=
  ⟨h.e.later hb, ownsRow_later h.r hb, h.c.thenBelow hb⟩
theorem ESt.drew {wr w : World} {T' : TabS} {l : List EntS} {s : (Nat → TabS) × Nat} {base : Nat} {vl : Value} (h : ESt wr V O Q G cap k TB R d next T' l s M mt E base vl w0 w) : ESt wr.drew V O Q G cap k TB R d next T' l s M mt E base vl w0 w := h.later (Below.refl _ _).drew
set_option maxRecDepth 100000 in
set_option maxHeartbeats 8000000 in
theorem estep_ok (h : EV w V O Q G cap k TB R d next T U M mt E w0) (hn : next < T.n) (hl : mt.limited = false) (hok : EvOk k d (entsL (T.M next) (T.S next)) U) :
    Calls Tryz.prog 107 #[.pointer (some ⟨V, 0, none⟩), .pointer (some ⟨M, 0, none⟩)] w fun e w' =>
      e = .returned (.bool true) ∧ EV w' V O Q G cap k TB R d (next + 1) (T.takeT next) (evF k d (entsL (T.M next) (T.S next)) (U, 0)).1 M (addN (mt.add 0 0 1) 0 1 0 (1 + (evF k d (entsL (T.M next) (T.S next)) (U, 0)).2)) E w0 ∧
      Chg (fun b => b = M ∨ b = O ∨ b = Q ∨ b = V ∨ ∃ i, i < k ∧ (b = TB i ∨ b = R i)) w w' := by
  have hb := h.t.good.bounds
  have LF := Lib.hid (eleft_any V O Q G cap k TB d next T.n hb.1 (by omega) _ _ w h.e h.t.t.head)
  have e0 : (((T.n - next : Nat) : Int) == 0) = false := by simp; omega
  have HH := Lib.hid (fun e => ents_hash (e := e) (h.t.good.good next hn))
  have hl8 := entsL_len (T.M next) (T.S next)
  have hki := h.e.hk
  have UN := Lib.hid (fun (w' : World) (h : EV w' V O Q G cap k TB R d next T U M mt E w0) => h.unit hl)
  have TK := Lib.hid (fun (w' : World) (h : EV w' V O Q G cap k TB R d next T U M (mt.add 0 0 1) E w0) => h.take hn 0 1 0)
  have WK := Lib.hid (fun (w' : World) => working_any (some ⟨M, 0, none⟩) w')
  have zM := h.m.lt
  have HV := Lib.hid h
  obtain ⟨c0, c1, c2, c3, zV, hf⟩ := ecells h.e
  obtain ⟨hVO, hVQ, hVG, hVM⟩ := h.s.v
  have HOK := Lib.hid hok
  have hn64 : next < 64 := by omega
  obtain ⟨l, hll⟩ : ∃ l, l = entsL (T.M next) (T.S next) := ⟨_, rfl⟩
  rw [← hll] at TK HOK hl8 HH ⊢
  clear h hok hll hn c0 c1 c2 c3 hf
  go_enter Tryz.func107, Tryz.ntmps107
  go_wp2_with (first
    | (go_at_call 111; refine LF.out.mono ?_; rintro e w1 ⟨rfl, hb1⟩; have V1 := Lib.hid (HV.out.later hb1); have hz1 := hb1.size; clear HV LF)
    | (go_at_call 150; (with_reducible refine (UN.out _ V1.out).mono ?_); rintro e w2 ⟨rfl, hv2, hc2⟩; have V2 := Lib.hid hv2; have hz2 := hc2.size; have C2 := Lib.hid (show Chg (fun b => b = M ∨ b = O ∨ b = Q ∨ b = V ∨ ∃ i, i < k ∧ (b = TB i ∨ b = R i)) w w2 from (Chg.of_below hb1).trans (hc2.mono (fun _ _ e => .inl e))); obtain ⟨d0, d1, d2, d3, zV2, df⟩ := ecells V2.out.e; clear hv2 V1))
  refine wp_region_seq (fun b => b = M ∨ b = O ∨ b = Q) #[⟨0, 0, 16384, 1, 0⟩, ⟨1, 1, 32768, 16384, 0⟩, ⟨2, 3, 65536, 32768, 0⟩, ⟨4, 7, 131072, 65536, 1⟩, ⟨0, 0, 262144, 2, 0⟩, ⟨16, 16, 524288, 262144, 2⟩, ⟨0, 0, 1048576, 1, 0⟩, ⟨64, 64, 2097152, 1048576, 0⟩, ⟨128, 192, 4194304, 2097152, 0⟩, ⟨256, 448, 8388608, 4194304, 1⟩, ⟨552, 1023, 16777216, 9043968, 3⟩, ⟨1024, 2047, 33554432, 16777216, 0⟩, ⟨1024, 2047, 67108864, 16777216, 0⟩, ⟨7168, 8191, 134217728, 100663296, 3⟩, ⟨8192, 16383, 268435456, 134217728, 0⟩, ⟨0, 0, 536870912, 0, 0⟩] 520 [(0, 0), (1, 0), (2, 0), (3, 1), (4, 0), (6, 0), (7, 0), (8, 0), (9, 1), (15, 0), (5, 2), (10, 3), (11, 0), (12, 0), (13, 3), (14, 0)] (by kernel_rfl) (by kernel_rfl) (by kernel_rfl) (by kernel_rfl) (by kernel_rfl) (by kernel_rfl) (fun c a d v w h => by cases d <;> exact h) ?_
  refine zqC ?_; refine zqC ?_; refine zqC ?_
  refine zq1 Tryz.underlying85 ?_
  try refine zqP ?_; refine zqC ?_; refine zqC ?_; refine zqC ?_; refine zqC ?_
  refine zq1 Tryz.underlying3 ?_
  try refine zqP ?_; refine zqC ?_
  refine zqD fun K hK => ?_; go_wp2_with (first | (go_at_call 153; (with_reducible refine (WK.out _).mono ?_); rintro e w3 ⟨rfl, hb3⟩; have V3 := Lib.hid (V2.out.drew.later hb3); obtain ⟨d30, d31, d32, d33, zV3, df3⟩ := ecells V3.out.e) | (go_at_call 152; (with_reducible refine (TK.out _ V3.out).mono ?_); rintro e w4 ⟨vl, rfl, hr4, hv4, hc4⟩; obtain ⟨av, capv, rfl⟩ := ownsRow_slice hr4; have V4 := Lib.hid hv4; have R4 := Lib.hid hr4; have C4 := Lib.hid hc4; clear hv4 hr4) | (go_at_call 151; (with_reducible refine (mustE_ok _ _ _ _).mono ?_); rintro e w5 ⟨rfl, rfl⟩)); refine hkA hK (h := ?_); clear hK K
  try refine zqP ?_
  refine zqE fun K hK => ?_; go_wp2_with (first | (go_at_call 153; (with_reducible refine (WK.out _).mono ?_); rintro e w3 ⟨rfl, hb3⟩; have V3 := Lib.hid (V2.out.drew.later hb3); obtain ⟨d30, d31, d32, d33, zV3, df3⟩ := ecells V3.out.e) | (go_at_call 152; (with_reducible refine (TK.out _ V3.out).mono ?_); rintro e w4 ⟨vl, rfl, hr4, hv4, hc4⟩; obtain ⟨av, capv, rfl⟩ := ownsRow_slice hr4; have V4 := Lib.hid hv4; have R4 := Lib.hid hr4; have C4 := Lib.hid hc4; clear hv4 hr4) | (go_at_call 151; (with_reducible refine (mustE_ok _ _ _ _).mono ?_); rintro e w5 ⟨rfl, rfl⟩)); refine hK.out _ _ ?_; clear hK K
  try refine zqP ?_; refine zqC ?_; refine zqC ?_
  refine zqE fun K hK => ?_; go_wp2_with (first | (go_at_call 153; (with_reducible refine (WK.out _).mono ?_); rintro e w3 ⟨rfl, hb3⟩; have V3 := Lib.hid (V2.out.drew.later hb3); obtain ⟨d30, d31, d32, d33, zV3, df3⟩ := ecells V3.out.e) | (go_at_call 152; (with_reducible refine (TK.out _ V3.out).mono ?_); rintro e w4 ⟨vl, rfl, hr4, hv4, hc4⟩; obtain ⟨av, capv, rfl⟩ := ownsRow_slice hr4; have V4 := Lib.hid hv4; have R4 := Lib.hid hr4; have C4 := Lib.hid hc4; clear hv4 hr4) | (go_at_call 151; (with_reducible refine (mustE_ok _ _ _ _).mono ?_); rintro e w5 ⟨rfl, rfl⟩)); refine hK.out _ _ ?_; clear hK K
  try refine zqP ?_; refine zqC ?_
  refine seq_nil ?_
  go_wp2
  refine wp_at (fun wL hwL => ?_)
  obtain ⟨m1, hm1⟩ : ∃ m1, m1 = (mt.add 0 0 1).add 0 1 0 := ⟨_, rfl⟩
  obtain ⟨b0, hb0⟩ : ∃ b0, b0 = w3.heap.size := ⟨_, rfl⟩
  have hMb : M < b0 := by have := V3.out.m.lt; omega
  have hXb : ∀ i, i < k → TB i < b0 ∧ R i < b0 := fun i hi => by have h1 := (V3.out.u i hi).ltB; have h2 := (V3.out.u i hi).ltQ; omega
  have hwb : w.heap.size ≤ b0 := by rw [hb0]; have := hb3.size; simp at this; omega
  have D0 := Lib.hid (show ESt wL V O Q G cap k TB R d next (T.takeT next) l (evF k d (l.take 0) (U, 0)) M m1 E b0 (.slice av l.length capv) w0 w by
    rw [hwL, hm1, hb0]
    refine ⟨V4.out, R4.out, ((C2.out.drew.thenBelow hb3).trans (C4.out.mono (fun _ _ e => ?_)))⟩
    rcases e with e | e | e
    · exact .inl e
    · exact .inr (.inl e)
    · exact .inr (.inr (.inl e)))
  have HM1 := Lib.hid hm1
  have HXB := Lib.hid hXb
  replace hwL := Lib.hid hwL
  clear V2 V3 V4 R4 C4 C2 hb3 hb0 hm1 hXb d0 d1 d2 d3 d30 d31 d32 d33 df df3 zV2 zV3 TK UN
  go_loopw [29] (fun v29 wr => ∃ j : Nat, j ≤ l.length ∧ v29 = .int .i64 (j : Int) ∧ ESt wr V O Q G cap k TB R d next (T.takeT next) l (evF k d (l.take j) (U, 0)) M m1 E b0 (.slice av l.length capv) w0 w) (fun v29 _ => l.length - (intOf v29).toNat)
  case atStart => exact ⟨0, Nat.zero_le _, rfl, D0.out⟩
  case round =>
    clear D0
    obtain ⟨j, hj, rfl, hS⟩ := hrel
    have KS := Lib.hid hS
    clear hS
    by_cases hlt : j < l.length
    · have hltI : (j : Int) < (l.length : Int) := by omega
      have HT := Lib.hid (evF_take (k := k) (d := d) hlt (U, 0))
      have hpb := HOK.out j hlt
      obtain ⟨av', capv', e, -, hrow⟩ := ents_own KS.out.r
      cases e
      obtain ⟨b, rfl, hbb, hbz, hcl⟩ := hrow (fun e => by rw [e] at hlt; exact absurd hlt (by simp))
      obtain ⟨g0, g1, g2⟩ := hcl j hlt
      obtain ⟨hh1, hh2⟩ := HH.out l[j] (List.getElem_mem hlt)
      unfold evS at HT
      obtain ⟨s, hs⟩ : ∃ s, s = evF k d (l.take j) (U, 0) := ⟨_, rfl⟩
      rw [← hs] at HT hpb KS
      rw [hh1] at g2
      generalize l[j].hash.toNat = hs' at *
      generalize l[j].key = ky at *
      generalize l[j].val = vv at *
      have hi := tIx_lt (h := hs') hki
      have TG := Lib.hid (fun (w' : World) (h : EW w' V O G cap k TB d next) => etarget_any V O G cap k TB d next hs' hh2 w' h)
      generalize tIx k d hs' = i at *
      have PU := Lib.hid (fun (w' : World) (h : EV w' V O Q G cap k TB R d next (T.takeT next) s.1 M (addN m1 0 1 0 s.2) E w0) => h.put hi ky vv hs' hh2 0 1 0)
      rw [hpb, putN_new hpb, errN_0, addN_add] at PU
      clear hcl hrow hh1 hs hpb
      go_upto_region 7 with (fail)
      refine wp_at (fun w5 hw5 => ?_)
      have S5 := Lib.hid (show ESt w5 V O Q G cap k TB R d next (T.takeT next) l s M m1 E b0 (.slice (some ⟨b, 0, none⟩) l.length capv) w0 w by rw [hw5]; exact KS.out.later (by go_grown))
      have P5 := Lib.hid (show Blk w5 wr.heap.size 46 #[.int .u64 ky, .int .u64 vv, .int .u64 (hs' : Int)] by rw [hw5]; exact Blk.new _ _ _)
      obtain ⟨p0, p1, p2⟩ := cells3 P5.out
      have zP := P5.out.lt
      have zM5 := S5.out.e.m.lt
      have zT5 := (S5.out.e.u i hi).ltB
      have zR5 := (S5.out.e.u i hi).ltQ
      obtain ⟨zTb, zRb⟩ := HXB.out i hi
      have hzwr : b0 ≤ wr.heap.size := by omega
      replace hw5 := Lib.hid hw5
      clear KS g0 g1 g2 hbz
      refine wp_region_seq (fun b => b = M ∨ b = TB i ∨ b = R i) #[⟨0, 0, 17179869184, 1, 0⟩, ⟨0, 0, 34359738368, 64, 0⟩, ⟨2, 2, 68719476736, 34359738368, 1⟩, ⟨5, 7, 137438953472, 85899345920, 2⟩, ⟨0, 0, 274877906944, 2, 0⟩, ⟨24, 31, 549755813888, 274877906944, 2⟩, ⟨0, 0, 1099511627776, 64, 1⟩, ⟨104, 127, 2199023255552, 1786706395136, 3⟩, ⟨128, 255, 8589934592, 2199023255552, 0⟩, ⟨256, 511, 4398046511104, 8589934592, 0⟩, ⟨256, 511, 8796093022208, 8589934592, 0⟩, ⟨1023, 1023, 128, 4398046511104, 0⟩, ⟨4095, 4095, 256, 8796093022208, 0⟩] 68 [(0, 0), (1, 0), (2, 1), (4, 0), (6, 1), (3, 2), (5, 2), (7, 3), (8, 0), (9, 0), (10, 0), (11, 0), (12, 0)] (by kernel_rfl) (by kernel_rfl) (by kernel_rfl) (by kernel_rfl) (by kernel_rfl) (by kernel_rfl) (fun c a d v w h => by cases d <;> exact h) ?_
      refine zqC ?_; refine zqC ?_
      refine zq1 Tryz.underlying38 ?_
      try refine zqP ?_; refine zqC ?_
      refine zqL [_, _, _] Tryz.underlying46 ?_
      try refine zqP ?_
      refine zqD fun K hK => ?_; go_wp2_with (first | (go_at_call 137; (with_reducible refine (TG.out _ S5.out.drew.e.e).mono ?_); rintro e w6 ⟨rfl, hb6⟩; have S6 := Lib.hid (S5.out.drew.later hb6)) | (go_at_call 153; (with_reducible refine (WK.out _).mono ?_); rintro e w7 ⟨rfl, hb7⟩; have S7 := Lib.hid (S6.out.later hb7)) | (go_at_call 154; (with_reducible refine (PU.out _ S7.out.e).mono ?_); rintro e w8 ⟨rfl, hv8, hc8⟩; have V8 := Lib.hid hv8; have R8 := Lib.hid (ownsRow_chg S7.out.r hc8 (by rintro b' hb' (e | e | e) <;> omega)); have C8 := Lib.hid (S7.out.c.trans (hc8.mono (fun _ _ e => show _ = M ∨ _ = O ∨ _ = Q ∨ _ = V ∨ ∃ i, i < k ∧ (_ = TB i ∨ _ = R i) by rcases e with e | e | e; exact .inl e; exact .inr (.inr (.inr (.inr ⟨i, hi, .inl e⟩))); exact .inr (.inr (.inr (.inr ⟨i, hi, .inr e⟩)))))); clear hv8)); refine hkA hK (h := ?_); clear hK K
      try refine zqP ?_
      refine zqD fun K hK => ?_; go_wp2_with (first | (go_at_call 137; (with_reducible refine (TG.out _ S5.out.drew.e.e).mono ?_); rintro e w6 ⟨rfl, hb6⟩; have S6 := Lib.hid (S5.out.drew.later hb6)) | (go_at_call 153; (with_reducible refine (WK.out _).mono ?_); rintro e w7 ⟨rfl, hb7⟩; have S7 := Lib.hid (S6.out.later hb7)) | (go_at_call 154; (with_reducible refine (PU.out _ S7.out.e).mono ?_); rintro e w8 ⟨rfl, hv8, hc8⟩; have V8 := Lib.hid hv8; have R8 := Lib.hid (ownsRow_chg S7.out.r hc8 (by rintro b' hb' (e | e | e) <;> omega)); have C8 := Lib.hid (S7.out.c.trans (hc8.mono (fun _ _ e => show _ = M ∨ _ = O ∨ _ = Q ∨ _ = V ∨ ∃ i, i < k ∧ (_ = TB i ∨ _ = R i) by rcases e with e | e | e; exact .inl e; exact .inr (.inr (.inr (.inr ⟨i, hi, .inl e⟩))); exact .inr (.inr (.inr (.inr ⟨i, hi, .inr e⟩)))))); clear hv8)); refine hkA hK (h := ?_); clear hK K
      try refine zqP ?_
      refine zqE fun K hK => ?_; go_wp2_with (first | (go_at_call 137; (with_reducible refine (TG.out _ S5.out.drew.e.e).mono ?_); rintro e w6 ⟨rfl, hb6⟩; have S6 := Lib.hid (S5.out.drew.later hb6)) | (go_at_call 153; (with_reducible refine (WK.out _).mono ?_); rintro e w7 ⟨rfl, hb7⟩; have S7 := Lib.hid (S6.out.later hb7)) | (go_at_call 154; (with_reducible refine (PU.out _ S7.out.e).mono ?_); rintro e w8 ⟨rfl, hv8, hc8⟩; have V8 := Lib.hid hv8; have R8 := Lib.hid (ownsRow_chg S7.out.r hc8 (by rintro b' hb' (e | e | e) <;> omega)); have C8 := Lib.hid (S7.out.c.trans (hc8.mono (fun _ _ e => show _ = M ∨ _ = O ∨ _ = Q ∨ _ = V ∨ ∃ i, i < k ∧ (_ = TB i ∨ _ = R i) by rcases e with e | e | e; exact .inl e; exact .inr (.inr (.inr (.inr ⟨i, hi, .inl e⟩))); exact .inr (.inr (.inr (.inr ⟨i, hi, .inr e⟩)))))); clear hv8)); refine hK.out _ _ ?_; clear hK K
      try refine zqP ?_; refine zqC ?_; refine zqC ?_; refine zqC ?_; refine zqC ?_; refine zqC ?_
      refine seq_nil ?_
      go_wp2_with (go_at_call 155; (with_reducible refine (need_yes _).mono ?_); rintro e w9 ⟨rfl, rfl⟩)
      go_roundw
      case rel => exact ⟨j + 1, by omega, by go_num, by rw [HT.out]; exact ⟨V8.out, R8.out, C8.out⟩⟩
      case measure => simp [intOf]; omega
    · obtain rfl : j = l.length := by omega
      obtain ⟨d0, d1, d2, d3, zV2, df⟩ := ecells KS.out.e.e
      have hnb : (T.takeT next).n = T.n := takeT_n T next
      have e1 : IntKind.i64.wrap ((next : Int) + 1) = ((next + 1 : Nat) : Int) := by rw [IntKind.wrap_i64]; omega
      go_wp2
      go_ret
      have hC : Chg (fun b => b = V) wr (wr.setCell ⟨V, 3, none⟩ (.int .i64 ((next + 1 : Nat) : Int))) := (Chg.refl _ _).set1 _ _
      have hsp := KS.out.e.s
      rw [List.take_length] at KS
      refine ⟨rfl, ⟨⟨KS.out.e.e.b.set 3 _, fun i hi => (hC.cell (p := ⟨G, i, none⟩) KS.out.e.e.lt (fun e => hVG e.symm)).trans (KS.out.e.e.l i hi), Nat.lt_of_lt_of_le KS.out.e.e.lt hC.size, hki⟩,
        TMW.chg KS.out.e.t hC (by rintro b rfl; exact hsp.o.1) (fun e => hVO e.symm) (fun e => hVQ e.symm) (fun b e => by cases e), fun i hi => TMW.chg (KS.out.e.u i hi) hC (by rintro b rfl; exact hsp.o.1) (hsp.tv i hi).1 (hsp.rv i hi).1 (fun b e => by cases e), ?_, hsp⟩, KS.out.c.trans (hC.mono (fun _ _ e => .inr (.inr (.inr (.inl e)))))⟩
      have := KS.out.e.m.chg hC (fun e => hVM e.symm)
      rw [HM1.out, show (mt.add 0 0 1).add 0 1 0 = addN (mt.add 0 0 1) 0 1 0 1 from rfl, addN_add] at this
      exact this
end
end Go.Proofs.YtolhmibejhldkaaGreatDoor
