/- The directory and the document's: what each answers to all numbers. Condition: the errors' cells. -/
import Derived.Test.YtplimhllfbdocaaDoorRef16
import Derived.Test.YtplimhllfbdocaaDoorDirHalves
import Derived.Test.YtplimhllfbdocaaDoorRows2
import Derived.Deep.DeepCutAuto
import Derived.Deep.CutBlock
namespace Go.Proofs.YtplimhllfbdocaaDoor
set_option linter.unusedVariables false
set_option linter.unusedSimpArgs false
open Go.RowKit Go.Proofs

/-- there is such a span -/
def SpanOk (d : Nat) (p k : Int) : Prop := k ≤ (d : Int) ∧ Pre p k
instance (d : Nat) (p k : Int) : Decidable (SpanOk d p k) := by unfold SpanOk; infer_instance
def wide (d : Nat) (k : Int) : Nat := 2 ^ (d - k.toNat)
def spF (d : Nat) (p k : Int) : Nat := if SpanOk d p k then p.toNat * wide d k else 0
def spT (d : Nat) (p k : Int) : Nat := if SpanOk d p k then p.toNat * wide d k + wide d k else 0
def spE (d : Nat) (p k : Int) : Nat := if SpanOk d p k then 0 else 1
theorem SpanOk.nat {d : Nat} {p k : Int} (h : SpanOk d p k) : ∃ m q : Nat, k = (m : Int) ∧ p = (q : Int) ∧ m ≤ d ∧ q < 2 ^ m := by
  obtain ⟨h0, ⟨k0, k1⟩, p0, p1⟩ := h
  obtain ⟨m, rfl⟩ : ∃ m : Nat, k = (m : Int) := ⟨k.toNat, by omega⟩
  obtain ⟨q, rfl⟩ : ∃ q : Nat, p = (q : Int) := ⟨p.toNat, by omega⟩
  exact ⟨m, q, rfl, rfl, by omega, by simpa using Int.ofNat_lt.1 p1⟩
theorem spE_le (d : Nat) (p k : Int) : spE d p k ≤ 16 := by unfold spE; split <;> decide
theorem dspan_any (B R d : Nat) (p k : Int) (es : List Int) (E : Nat → Addr) (w : World) (hD : DW w B R d es) (he : EC w E [1]) :
    Calls Tryd.prog 123 #[.pointer (some ⟨B, 0, none⟩), .int .i64 p, .int .i64 k] w fun e w' => e = .returned (.tuple #[.int .i64 ((spF d p k : Nat) : Int), .int .i64 ((spT d p k : Nat) : Int), errN E (spE d p k)]) ∧ Below w.heap.size w w' := by
  unfold spF spT spE
  by_cases h : SpanOk d p k
  · rw [if_pos h, if_pos h, if_pos h]
    obtain ⟨m, q, rfl, rfl, h1, h2⟩ := h.nat
    refine (dspan_ok B R d q m es h1 h2 w hD).mono ?_
    rintro e w' ⟨h, rfl⟩
    exact ⟨h, (Below.refl _ _).drew⟩
  · rw [if_neg h, if_neg h, if_neg h]
    refine (dspan_bad B R d p k es ?_ E w hD he).mono ?_
    · by_cases c : (d : Int) < k
      · exact .inl c
      · exact .inr fun g => h ⟨by omega, g⟩
    · rintro e w' ⟨h, rfl⟩
      exact ⟨h, (Below.refl _ _).drew⟩
theorem rdspan_any (M Z d : Nat) (p k : Int) (es : List Int) (w : World) (hD : RD w M Z d es) :
    Calls Tryd.prog 128 #[.pointer (some ⟨M, 0, none⟩), .int .i64 p, .int .i64 k] w fun e w' => e = .returned (.tuple #[.int .i64 ((spF d p k : Nat) : Int), .int .i64 ((spT d p k : Nat) : Int), .int .i64 ((spE d p k : Nat) : Int)]) ∧ Below w.heap.size w w' := by
  unfold spF spT spE
  by_cases h : SpanOk d p k
  · rw [if_pos h, if_pos h, if_pos h]
    obtain ⟨m, q, rfl, rfl, h1, h2⟩ := h.nat
    exact rdspan_ok M Z d q m es h1 h2 w hD
  · rw [if_neg h, if_neg h, if_neg h]
    refine rdspan_bad M Z d p k es ?_ w hD
    by_cases c : (d : Int) < k
    · exact .inl c
    · exact .inr fun g => h ⟨by omega, g⟩
/-- what Set answers and leaves -/
def SetOk (d : Nat) (p k x : Int) : Prop := SpanOk d p k ∧ 0 ≤ x
instance (d : Nat) (p k x : Int) : Decidable (SetOk d p k x) := by unfold SetOk; infer_instance
def setC (d : Nat) (p k x : Int) : Nat := if SetOk d p k x then wide d k else 0
def setErr (d : Nat) (p k x : Int) : Nat := if SetOk d p k x then 0 else 1
def setE (d : Nat) (es : List Int) (p k x : Int) : List Int := if SetOk d p k x then setsL es (p.toNat * wide d k) (wide d k) x else es
theorem setErr_le (d : Nat) (p k x : Int) : setErr d p k x ≤ 16 := by unfold setErr; split <;> decide
theorem setE_len (d : Nat) (es : List Int) (p k x : Int) : (setE d es p k x).length = es.length := by unfold setE; split; exact setsL_len _ _ _ _; rfl
theorem set_not {d : Nat} {p k x : Int} (h : ¬ SetOk d p k x) : (d : Int) < k ∨ ¬ Pre p k ∨ x < 0 := by
  by_cases c : (d : Int) < k
  · exact .inl c
  by_cases g : Pre p k
  · refine .inr (.inr ?_)
    refine Decidable.byContradiction fun q => h ⟨⟨by omega, g⟩, by omega⟩
  · exact .inr (.inl g)
theorem dset_any (B R d : Nat) (es : List Int) (p k x : Int) (E : Nat → Addr) (w : World) (hD : DW w B R d es) (he : EC w E [1]) :
    Calls Tryd.prog 122 #[.pointer (some ⟨B, 0, none⟩), .int .i64 p, .int .i64 k, .int .i64 x] w fun e w' => e = .returned (.tuple #[.int .i64 ((setC d p k x : Nat) : Int), errN E (setErr d p k x)]) ∧ DW w' B R d (setE d es p k x) ∧ Chg (fun b => b = R) w w' := by
  unfold setC setErr setE
  by_cases h : SetOk d p k x
  · rw [if_pos h, if_pos h, if_pos h]
    obtain ⟨m, q, rfl, rfl, h1, h2⟩ := h.1.nat
    exact dset_ok B R d q m es x h1 h2 h.2 w hD
  · rw [if_neg h, if_neg h, if_neg h]
    refine (dset_bad B R d es p k x (set_not h) E w hD he).mono ?_
    rintro e w' ⟨h, hb⟩
    exact ⟨h, hD.below hb, Chg.of_below hb⟩
theorem rdset_any (M Z d : Nat) (es : List Int) (p k x : Int) (w : World) (hD : RD w M Z d es) :
    Calls Tryd.prog 127 #[.pointer (some ⟨M, 0, none⟩), .int .i64 p, .int .i64 k, .int .i64 x] w fun e w' => e = .returned (.tuple #[.int .i64 ((setC d p k x : Nat) : Int), .int .i64 ((setErr d p k x : Nat) : Int)]) ∧ RD w' M Z d (setE d es p k x) ∧ Chg (fun b => b = Z) w w' := by
  unfold setC setErr setE
  by_cases h : SetOk d p k x
  · rw [if_pos h, if_pos h, if_pos h]
    obtain ⟨m, q, rfl, rfl, h1, h2⟩ := h.1.nat
    exact rdset_ok M Z d q m es x h1 h2 h.2 w hD
  · rw [if_neg h, if_neg h, if_neg h]
    refine (rdset_bad M Z d es p k x (set_not h) w hD).mono ?_
    rintro e w' ⟨h, hb⟩
    exact ⟨h, hD.below hb, Chg.of_below hb⟩
theorem dat_below (B R d h : Nat) (es : List Int) (hh : h < 18446744073709551616) (w : World) (hD : DW w B R d es) :
    Calls Tryd.prog 56 #[.pointer (some ⟨B, 0, none⟩), .int .u64 (h : Int)] w fun e w' => e = .returned (.int .i64 (atD es d h)) ∧ Below w.heap.size w w' :=
  (dat_any B R d h es hh w hD).mono fun e w' ⟨h1, h2⟩ => ⟨h1, h2 ▸ (Below.refl _ _).drew⟩
/-- Put's error -/
def putErr (n : Nat) (i x : Int) : Nat := if 0 ≤ i ∧ i < (n : Int) ∧ 0 ≤ x then 0 else 1
theorem RowsAt.cell4 {w : World} {v : Value} {n nf : Nat} {kd : IntKind} {f : Nat → Nat → Int} (h0 : 0 < nf) (h : RowsAt w v n nf kd f) : ∃ a cap, v = .slice a n cap ∧ (n ≠ 0 → ∃ b off, a = some ⟨b, off, none⟩ ∧ b < w.heap.size ∧ ∀ w', Below w.heap.size w w' → ∀ i, i < n → ∀ j, j < nf → w'.cell? ⟨b, off + (i * nf + j), none⟩ = some (.int kd (f i j))) := by
  obtain ⟨⟨a, cap, rfl, hx⟩, hwf, hm⟩ := h
  refine ⟨a, cap, rfl, fun hn => ?_⟩
  obtain ⟨b, off, rfl, hc⟩ := hx hn
  exact ⟨b, off, rfl, World.block_lt_of_cell? _ _ (hc 0 (by omega) 0 (by omega)), fun w' hb i hi j hj => (hb.cell (World.block_lt_of_cell? _ _ (hc i hi j hj))).trans (hc i hi j hj)⟩
theorem gives_blk {w : World} {base n cap : Nat} {T : TypeId} {a : Option Addr} {xs : List Value} (h : w.ownsRow base T 1 (.slice a n cap) n xs) (hn : n ≠ 0) : ∃ g cur, a = some ⟨g, 0, none⟩ ∧ base ≤ g ∧ Blk w g T cur ∧ n ≤ cur.size := by
  have hl : xs.length = n := by have := h.1; simpa using this
  rcases h.2 with ⟨h1, h2⟩ | ⟨g, cap, cur, h1, hb, hg, _, _, h4, h5⟩
  · subst h2; exact absurd rfl hn
  · simp only [Value.slice.injEq] at h1
    refine ⟨g, cur, h1.1, hb, hg, ?_⟩
    have := congrArg List.length h5
    rw [List.length_take] at this
    simp at this
    omega
end Go.Proofs.YtplimhllfbdocaaDoor
