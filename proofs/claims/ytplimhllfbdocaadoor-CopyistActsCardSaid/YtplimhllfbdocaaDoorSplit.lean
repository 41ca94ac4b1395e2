/- Package split: Top, Low, Within. Condition: the errors' cells. -/
import Derived.Test.YtplimhllfbdocaaDoorErrCells
import Derived.Test.YtplimhllfbdocaaDoorSeq
import Derived.IntWalk
namespace Go.Proofs.YtplimhllfbdocaaDoor
set_option linter.unusedVariables false
set_option linter.unusedSimpArgs false
open Go.RowKit Go.Proofs

section
variable {P : Program} {w : World}
theorem shl_i64 (a d : Nat) (yk : IntKind) (hd : d ≤ 64) (hb : a * 2 ^ d ≤ 9223372036854775807) : (Op.shift .shl .i64 (a : Int) yk (d : Int)).run P w = .ok (.int .i64 ((a * 2 ^ d : Nat) : Int)) w := by
  have h1 : ¬ ((d : Int) < 0) := by omega
  have h2 : min (d : Int).toNat IntKind.i64.bits = d := by simp [IntKind.bits]; omega
  have h3 : IntKind.i64.wrap ((a : Int) * 2 ^ d) = ((a * 2 ^ d : Nat) : Int) := by
    rw [show ((a : Int) * 2 ^ d) = ((a * 2 ^ d : Nat) : Int) by simp]
    exact IntWalk.i64_in _ (by omega)
  unfold Op.shift
  rw [if_neg h1]
  simp only [h2, h3]
  rfl
theorem shl_u64 (a d : Nat) (yk : IntKind) (hd : d ≤ 64) (hb : a * 2 ^ d ≤ 18446744073709551615) : (Op.shift .shl .u64 (a : Int) yk (d : Int)).run P w = .ok (.int .u64 ((a * 2 ^ d : Nat) : Int)) w := by
  have h1 : ¬ ((d : Int) < 0) := by omega
  have h2 : min (d : Int).toNat IntKind.u64.bits = d := by simp [IntKind.bits]; omega
  have h3 : IntKind.u64.wrap ((a : Int) * 2 ^ d) = ((a * 2 ^ d : Nat) : Int) := by
    rw [show ((a : Int) * 2 ^ d) = ((a * 2 ^ d : Nat) : Int) by simp]
    exact IntWalk.u64_in _ (by omega)
  unfold Op.shift
  rw [if_neg h1]
  simp only [h2, h3]
  rfl
theorem shr_any (k : IntKind) (h d : Nat) (yk : IntKind) (hd : d ≤ k.bits) : (Op.shift .shr k (h : Int) yk (d : Int)).run P w = .ok (.int k ((h / 2 ^ d : Nat) : Int)) w := by
  have h1 : ¬ ((d : Int) < 0) := by omega
  have h2 : min (d : Int).toNat k.bits = d := by simp; omega
  have h3 : (h : Int).fdiv (2 ^ d) = ((h / 2 ^ d : Nat) : Int) := by
    rw [show ((2 : Int) ^ d) = ((2 ^ d : Nat) : Int) by simp]
    rw [Int.fdiv_eq_ediv_of_nonneg _ (Int.natCast_nonneg _)]
    simp
  unfold Op.shift
  rw [if_neg h1]
  simp only [h2, h3]
  rfl
end
theorem deep_any (d : Int) (w : World) : Calls Tryd.prog 161 #[.int .i64 d] w fun e w' => e = .returned (.bool (decide (0 ≤ d ∧ d ≤ 16))) ∧ w = w' := by
  by_cases h0 : 0 ≤ d
  · by_cases h1 : d ≤ 16
    · rw [decide_eq_true (show 0 ≤ d ∧ d ≤ 16 from ⟨h0, h1⟩)]
      have e1 : decide (d ≥ 0) = true := by simpa using h0
      have e2 : decide (d ≤ 16) = true := by simpa using h1
      go_enter Tryd.func161, Tryd.ntmps161
      go_wp2
      go_ret
      exact ⟨rfl, rfl⟩
    · rw [decide_eq_false (show ¬ (0 ≤ d ∧ d ≤ 16) from fun h => h1 h.2)]
      have e1 : decide (d ≥ 0) = true := by simpa using h0
      have e2 : decide (d ≤ 16) = false := by simpa using h1
      go_enter Tryd.func161, Tryd.ntmps161
      go_wp2
      go_ret
      exact ⟨rfl, rfl⟩
  · rw [decide_eq_false (show ¬ (0 ≤ d ∧ d ≤ 16) from fun h => h0 h.1)]
    have e1 : decide (d ≥ 0) = false := by simp; omega
    go_enter Tryd.func161, Tryd.ntmps161
    go_wp2
    go_ret
    exact ⟨rfl, rfl⟩
/-- a hash's top of a depth -/
def topN (h d : Nat) : Nat := h / 2 ^ (64 - d)
theorem topN_lt {h d : Nat} (hh : h < 18446744073709551616) (hd : d ≤ 64) : topN h d < 2 ^ d := by
  unfold topN
  rw [Nat.div_lt_iff_lt_mul (Nat.two_pow_pos _), ← Nat.pow_add, show d + (64 - d) = 64 by omega]
  exact hh
theorem pow_le16 {d : Nat} (hd : d ≤ 16) : 2 ^ d ≤ 65536 := Nat.pow_le_pow_right (by decide) hd
theorem top_ok (h d : Nat) (hh : h < 18446744073709551616) (hd : d ≤ 16) (w : World) :
    Calls Tryd.prog 126 #[.int .u64 (h : Int), .int .i64 (d : Int)] w fun e w' => e = .returned (.tuple #[.int .i64 ((topN h d : Nat) : Int), .nilIface]) ∧ w = w' := by
  have hdp := deep_any (d : Int)
  rw [decide_eq_true (show (0 : Int) ≤ (d : Int) ∧ (d : Int) ≤ 16 by omega)] at hdp
  have hsub : ((64 : Int) - (d : Int)) = ((64 - d : Nat) : Int) := by omega
  have ht : topN h d < 65536 + 1 := by have := topN_lt (d := d) hh (by omega); have := pow_le16 hd; omega
  have hq : (h : Int) / 2 ^ (64 - d) = ((topN h d : Nat) : Int) := by unfold topN; simp
  generalize topN h d = t at *
  go_enter Tryd.func126, Tryd.ntmps126
  go_wp2_with (go_at_call 161; refine (hdp _).mono ?_; rintro e w' ⟨rfl, rfl⟩)
  go_ret2
  exact ⟨rfl, rfl⟩
theorem top_bad (v : Value) (d : Int) (hd : ¬ (0 ≤ d ∧ d ≤ 16)) (E : Nat → Addr) (w : World) (he : EC w E [1]) :
    Calls Tryd.prog 126 #[v, .int .i64 d] w fun e w' => e = .returned (.tuple #[.int .i64 0, errAt E 1]) ∧ w.drew = w' := by
  have hdp := deep_any d
  rw [decide_eq_false hd] at hdp
  have hc : w.cell? ⟨3, 0, none⟩ = some (errAt E 1) := he 1 (by decide)
  clear he hd
  go_enter Tryd.func126, Tryd.ntmps126
  go_wp2_with (go_at_call 161; refine (hdp _).mono ?_; rintro e w' ⟨rfl, rfl⟩)
  refine wp_region_seq (fun _ => False) #[⟨0, 0, 512, 0, 1⟩, ⟨0, 0, 16, 0, 0⟩, ⟨3, 3, 32, 512, 0⟩] 1 [(0, 1), (1, 0), (2, 0)] (by kernel_rfl) (by kernel_rfl) (by kernel_rfl) (by kernel_rfl) (by kernel_rfl) (by kernel_rfl) (fun c a d v w h => by cases d <;> exact h) ?_
  refine seq_load1 (by simp only [List.getElem?_toArray, List.getElem?_cons_succ, List.getElem?_cons_zero]; rfl) (by rfl) rfl rfl Tryd.underlying25 rfl (by go_simp <;> with_reducible rfl) (by first | exact id | assumption | (simp; done) | (simp; omega)) ?_
  try simp only [Act.put, List.setIfInBounds_toArray, List.set_cons_zero, List.set_cons_succ]
  refine seq_calc (by simp only [List.getElem?_toArray, List.getElem?_cons_succ, List.getElem?_cons_zero]; rfl) (by rfl) (fun u => by go_simp <;> with_reducible rfl) ?_
  try simp only [Act.put, List.setIfInBounds_toArray, List.set_cons_zero, List.set_cons_succ]
  refine seq_calc (by simp only [List.getElem?_toArray, List.getElem?_cons_succ, List.getElem?_cons_zero]; rfl) (by rfl) (fun u => by go_simp <;> with_reducible rfl) ?_
  try simp only [Act.put, List.setIfInBounds_toArray, List.set_cons_zero, List.set_cons_succ]
  refine seq_nil ?_
  go_wp2
  go_ret2
  exact ⟨rfl, rfl⟩
/-- there is such a prefix -/
def Pre (p d : Int) : Prop := (0 ≤ d ∧ d ≤ 16) ∧ 0 ≤ p ∧ p < ((2 ^ d.toNat : Nat) : Int)
instance (p d : Int) : Decidable (Pre p d) := by unfold Pre; infer_instance
theorem pow_wrap (m : Nat) (hm : m ≤ 16) : wrap64 ((2 : Int) ^ m) = ((2 ^ m : Nat) : Int) := by
  have := pow_le16 hm
  rw [show ((2 : Int) ^ m) = ((2 ^ m : Nat) : Int) by simp]
  generalize 2 ^ m = y at *
  exact IntWalk.wrap64_in _ (by omega)
theorem prefixed_any (p d : Int) (w : World) : Calls Tryd.prog 176 #[.int .i64 p, .int .i64 d] w fun e w' => e = .returned (.bool (decide (Pre p d))) ∧ w = w' := by
  have hdp := deep_any d
  by_cases h0 : 0 ≤ d ∧ d ≤ 16
  · obtain ⟨m, rfl⟩ : ∃ m : Nat, d = (m : Int) := ⟨d.toNat, by omega⟩
    have hm : m ≤ 16 := by omega
    rw [decide_eq_true h0] at hdp
    have hs := pow_wrap m hm
    by_cases h1 : 0 ≤ p
    · have e1 : decide (p ≥ 0) = true := by simpa using h1
      by_cases h2 : p < ((2 ^ m : Nat) : Int)
      · rw [decide_eq_true (show Pre p (m : Int) from ⟨h0, h1, by simpa using h2⟩)]
        have e2 : decide (p < ((2 ^ m : Nat) : Int)) = true := decide_eq_true h2
        generalize 2 ^ m = y at *
        clear h0 h2
        go_enter Tryd.func176, Tryd.ntmps176
        go_wp2_with (go_at_call 161; refine (hdp _).mono ?_; rintro e w' ⟨rfl, rfl⟩)
        go_ret
        exact ⟨rfl, rfl⟩
      · rw [decide_eq_false (show ¬ Pre p (m : Int) from fun h => h2 (by simpa using h.2.2))]
        have e2 : decide (p < ((2 ^ m : Nat) : Int)) = false := decide_eq_false h2
        generalize 2 ^ m = y at *
        clear h0 h2
        go_enter Tryd.func176, Tryd.ntmps176
        go_wp2_with (go_at_call 161; refine (hdp _).mono ?_; rintro e w' ⟨rfl, rfl⟩)
        go_ret
        exact ⟨rfl, rfl⟩
    · rw [decide_eq_false (show ¬ Pre p (m : Int) from fun h => h1 h.2.1)]
      have e1 : decide (p ≥ 0) = false := by simp; omega
      clear h0 hs
      go_enter Tryd.func176, Tryd.ntmps176
      go_wp2_with (go_at_call 161; refine (hdp _).mono ?_; rintro e w' ⟨rfl, rfl⟩)
      go_ret
      exact ⟨rfl, rfl⟩
  · rw [decide_eq_false (show ¬ Pre p d from fun h => h0 h.1)]
    rw [decide_eq_false h0] at hdp
    clear h0
    go_enter Tryd.func176, Tryd.ntmps176
    go_wp2_with (go_at_call 161; refine (hdp _).mono ?_; rintro e w' ⟨rfl, rfl⟩)
    go_ret
    exact ⟨rfl, rfl⟩
/-- the least hash of a prefix -/
def lowN (p d : Nat) : Nat := p * 2 ^ (64 - d)
theorem lowN_lt {p d : Nat} (hp : p < 2 ^ d) (hd : d ≤ 64) : lowN p d < 18446744073709551616 := by
  unfold lowN
  have h1 : p * 2 ^ (64 - d) < 2 ^ d * 2 ^ (64 - d) := Nat.mul_lt_mul_of_pos_right hp (Nat.two_pow_pos _)
  rwa [← Nat.pow_add, show d + (64 - d) = 64 by omega] at h1
theorem low_ok (p d : Nat) (hd : d ≤ 16) (hp : p < 2 ^ d) (w : World) :
    Calls Tryd.prog 159 #[.int .i64 (p : Int), .int .i64 (d : Int)] w fun e w' => e = .returned (.tuple #[.int .u64 ((lowN p d : Nat) : Int), .nilIface]) ∧ w = w' := by
  have hpp := prefixed_any (p : Int) (d : Int)
  rw [decide_eq_true (show Pre (p : Int) (d : Int) from ⟨by omega, by omega, by simp; exact_mod_cast hp⟩)] at hpp
  have hsub : ((64 : Int) - (d : Int)) = ((64 - d : Nat) : Int) := by omega
  have hl := lowN_lt hp (by omega)
  have hpl : p < 65536 + 1 := by have := pow_le16 hd; omega
  have hq : IntKind.u64.wrap ((p : Int) * 2 ^ (64 - d)) = ((lowN p d : Nat) : Int) := by
    rw [show ((p : Int) * 2 ^ (64 - d)) = ((lowN p d : Nat) : Int) by unfold lowN; simp]
    exact IntWalk.u64_in _ (by omega)
  generalize lowN p d = t at *
  clear hp
  go_enter Tryd.func159, Tryd.ntmps159
  go_wp2_with (go_at_call 176; refine (hpp _).mono ?_; rintro e w' ⟨rfl, rfl⟩)
  go_ret2
  exact ⟨rfl, rfl⟩
theorem low_bad (p d : Int) (hd : ¬ Pre p d) (E : Nat → Addr) (w : World) (he : EC w E [1]) :
    Calls Tryd.prog 159 #[.int .i64 p, .int .i64 d] w fun e w' => e = .returned (.tuple #[.int .u64 0, errAt E 1]) ∧ w.drew = w' := by
  have hdp := prefixed_any p d
  rw [decide_eq_false hd] at hdp
  have hc : w.cell? ⟨3, 0, none⟩ = some (errAt E 1) := he 1 (by decide)
  clear he hd
  go_enter Tryd.func159, Tryd.ntmps159
  go_wp2_with (go_at_call 176; refine (hdp _).mono ?_; rintro e w' ⟨rfl, rfl⟩)
  refine wp_region_seq (fun _ => False) #[⟨0, 0, 1024, 0, 1⟩, ⟨0, 0, 16, 0, 0⟩, ⟨3, 3, 32, 1024, 0⟩] 1 [(0, 1), (1, 0), (2, 0)] (by kernel_rfl) (by kernel_rfl) (by kernel_rfl) (by kernel_rfl) (by kernel_rfl) (by kernel_rfl) (fun c a d v w h => by cases d <;> exact h) ?_
  refine seq_load1 (by simp only [List.getElem?_toArray, List.getElem?_cons_succ, List.getElem?_cons_zero]; rfl) (by rfl) rfl rfl Tryd.underlying25 rfl (by go_simp <;> with_reducible rfl) (by first | exact id | assumption | (simp; done) | (simp; omega)) ?_
  try simp only [Act.put, List.setIfInBounds_toArray, List.set_cons_zero, List.set_cons_succ]
  refine seq_calc (by simp only [List.getElem?_toArray, List.getElem?_cons_succ, List.getElem?_cons_zero]; rfl) (by rfl) (fun u => by go_simp <;> with_reducible rfl) ?_
  try simp only [Act.put, List.setIfInBounds_toArray, List.set_cons_zero, List.set_cons_succ]
  refine seq_calc (by simp only [List.getElem?_toArray, List.getElem?_cons_succ, List.getElem?_cons_zero]; rfl) (by rfl) (fun u => by go_simp <;> with_reducible rfl) ?_
  try simp only [Act.put, List.setIfInBounds_toArray, List.set_cons_zero, List.set_cons_succ]
  refine seq_nil ?_
  go_wp2
  go_ret2
  exact ⟨rfl, rfl⟩
end Go.Proofs.YtplimhllfbdocaaDoor
