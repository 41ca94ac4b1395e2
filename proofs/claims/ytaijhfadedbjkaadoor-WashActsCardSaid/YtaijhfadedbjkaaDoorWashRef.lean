/- The document's wash, and the chapter's example. No condition. -/
import Derived.Test.YtaijhfadedbjkaaDoorWash
namespace Go.Proofs.YtaijhfadedbjkaaDoor
set_option linter.unusedVariables false
set_option linter.unusedSimpArgs false
open Go.RowKit Go.Proofs

/-- the model's cells -/
def refC (L G : Int) : Array Value := #[.int .i64 L, .int .i64 G]
theorem ref_cells {w : World} {B : Nat} {T : TypeId} {L G : Int} (h : Blk w B T (refC L G)) :
    w.cell? ⟨B, 0, none⟩ = some (.int .i64 L) ∧ w.cell? ⟨B, 1, none⟩ = some (.int .i64 G) ∧ w.frozen? ⟨B, 0, none⟩ = false ∧ w.frozen? ⟨B, 1, none⟩ = false := ⟨h.cell 0, h.cell 1, h.frozen 0, h.frozen 1⟩

set_option maxHeartbeats 1600000 in
theorem refAdd_any (B : Nat) (T : TypeId) (L G n : Int) (h0 : 0 ≤ L) (h1 : L ≤ 1099511627776) (w : World) (h : Blk w B T (refC L G)) :
    Calls Tryd.prog 6 #[.pointer (some ⟨B, 0, none⟩), .int .i64 n] w fun e w' => e = .returned (.int .i64 (depZ L n)) ∧ Blk w' B T (refC (L + depZ L n) G) ∧ Chg (fun b => b = B) w w' := by
  have hc := ref_cells h
  have H := Lib.hid h
  clear h
  by_cases c1 : n < 1
  · have hd : depZ L n = 0 := by unfold depZ mnZ mxZ; omega
    replace hd := Lib.hid hd
    go_enter Tryd.func6, Tryd.ntmps6
    go_wp2
    go_ret
    exact ⟨by rw [hd.out]; rfl, by rw [hd.out, Int.add_zero]; exact H.out, Chg.refl _ _⟩
  · by_cases c2 : 1099511627776 - L < n
    · have hd : depZ L n = 1099511627776 - L := by unfold depZ mnZ mxZ; omega
      replace hd := Lib.hid hd
      go_enter Tryd.func6, Tryd.ntmps6
      go_wp2
      go_ret
      exact ⟨by rw [hd.out]; rfl, by rw [hd.out]; exact H.out.set 0 _, (Chg.refl _ _).set1 _ _⟩
    · have hd : depZ L n = n := by unfold depZ mnZ mxZ; omega
      have c3 : n ≤ 1099511627776 := by omega
      replace hd := Lib.hid hd
      go_enter Tryd.func6, Tryd.ntmps6
      go_wp2
      go_ret
      exact ⟨by rw [hd.out]; rfl, by rw [hd.out]; exact H.out.set 0 _, (Chg.refl _ _).set1 _ _⟩
set_option maxHeartbeats 1600000 in
theorem refSpend_any (B : Nat) (T : TypeId) (L G n : Int) (h0 : 0 ≤ L) (h1 : L ≤ 1099511627776) (h2 : 0 ≤ G) (h3 : G ≤ 1000000) (w : World) (h : Blk w B T (refC L G)) :
    Calls Tryd.prog 8 #[.pointer (some ⟨B, 0, none⟩), .int .i64 n] w fun e w' => e = .returned (.int .i64 (spentZ L n)) ∧ Blk w' B T (refC (L - spentZ L n) (G + spentZ L n)) ∧ Chg (fun b => b = B) w w' := by
  have hc := ref_cells h
  have H := Lib.hid h
  clear h
  by_cases c1 : n < 1
  · have hd : spentZ L n = 0 := by unfold spentZ mnZ mxZ; omega
    replace hd := Lib.hid hd
    go_enter Tryd.func8, Tryd.ntmps8
    go_wp2
    go_ret
    exact ⟨by rw [hd.out]; rfl, by rw [hd.out, Int.add_zero, Int.sub_zero]; exact H.out, Chg.refl _ _⟩
  · by_cases c2 : L < n
    · have hd : spentZ L n = L := by unfold spentZ mnZ mxZ; omega
      replace hd := Lib.hid hd
      go_enter Tryd.func8, Tryd.ntmps8
      go_wp2
      go_ret
      exact ⟨by rw [hd.out]; rfl, by rw [hd.out, show L - L = 0 by omega]; exact (H.out.set 0 _).set 1 _, ((Chg.refl _ _).set1 _ _).set1 _ _⟩
    · have hd : spentZ L n = n := by unfold spentZ mnZ mxZ; omega
      replace hd := Lib.hid hd
      go_enter Tryd.func8, Tryd.ntmps8
      go_wp2
      go_ret
      exact ⟨by rw [hd.out]; rfl, by rw [hd.out]; exact (H.out.set 0 _).set 1 _, ((Chg.refl _ _).set1 _ _).set1 _ _⟩

theorem field_units (a b c : Value) (w : World) : (Instr.field 35 (.agg #[a, b, c]) 2).run Tryd.prog w = .ok c w := by kernel_rfl

set_option maxRecDepth 100000 in
set_option maxHeartbeats 1600000 in
theorem alive22_any (w : World) :
    Calls Tryd.prog 4 #[] w fun e w' => e = .returned (.bool true) ∧ Below w.heap.size w w' := by
  have hfu := field_units
  have d1 := Lib.hid (show depZ 0 5 = 5 by decide)
  have d2 := Lib.hid (show spentZ 5 3 = 3 by decide)
  go_enter Tryd.func4, Tryd.ntmps4
  go_wp2_with (first
    | (go_at_call 5; refine (washAdd_any w.heap.size _ 0 0 5 _ _ (by decide) (by decide) _ ((Blk.new w _ _).alloc _)).mono ?_; rw [d1.out]; rintro e w1 ⟨rfl, m1, h1⟩; have n1 : Blk w1 (w.heap.size + 1) 37 (mtrS 0).cells := Blk.chg (Blk.new_at (by simp)) h1 (by omega); have hb1 : Below w.heap.size w w1 := Below.trans (by go_grown) (h1.below (by simp <;> omega) (fun k hk e => by omega)); replace m1 := Lib.hid m1; replace n1 := Lib.hid n1)
    | (go_at_call 7; refine (washSpend_any w.heap.size (w.heap.size + 1) _ _ 5 0 3 _ _ (by omega) (by decide) (by decide) (by decide) (by decide) (by decide) _ ⟨m1.out, n1.out⟩).mono ?_; rw [d2.out]; rintro e w2 ⟨rfl, ⟨m2, n2⟩, h2⟩; have hb2 : Below w.heap.size w w2 := hb1.trans (h2.below hb1.size (fun k hk e => by omega)); replace m2 := Lib.hid m2; replace n2 := Lib.hid n2)
    | (go_at_call 10; refine (left_any _ _ _ _ _ _ _ m2.out).mono ?_; rintro e w' ⟨rfl, rfl⟩)
    | (go_at_call 12; refine (all_any _ _ _ _ n2.out).mono ?_; rintro e w3 ⟨rfl, hb3⟩))
  go_ret
  exact ⟨by rfl, hb2.trans (hb3.mono hb2.size)⟩
end Go.Proofs.YtaijhfadedbjkaaDoor
