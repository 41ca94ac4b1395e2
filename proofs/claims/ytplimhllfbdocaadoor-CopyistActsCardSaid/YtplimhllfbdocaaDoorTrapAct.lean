/- What amblerlaw05's act comes to, kind by kind. Condition: the errors. -/
import Derived.Test.YtplimhllfbdocaaDoorTrap
import Derived.Deep.DeepMakePanics
namespace Go.Proofs.YtplimhllfbdocaaDoor
set_option linter.unusedVariables false
set_option linter.unusedSimpArgs false
open Go.RowKit Go.Proofs

set_option maxRecDepth 100000







/-- what comes of a call: it comes back (0), raises error k, or panics in another way (10) -/
def Fate (g : Nat) (args : Array Value) (w : World) (E : Nat → Addr) (k : Nat) (Q : World → Prop) : Prop :=
  (k = 0 ∧ Calls Tryd.prog g args w fun e w' => e = .returned (.tuple #[]) ∧ Q w') ∨
  (1 ≤ k ∧ k ≤ 16 ∧ Calls Tryd.prog g args w fun e w' => e = .panicked [{ v := raisedV (errAt E k), recovered := false }] ∧ Q w') ∨
  (k = 10 ∧ Calls Tryd.prog g args w fun e w' => Broke e ∧ Q w')
/-- kind k at n -/
def ofK (k : Nat) (n : Int) : Nat := if k = 0 ∨ k = 2 then 0 else if k = 1 then (if n < 1 ∨ 16 < n then 0 else n.toNat) else 10
theorem need_no (E : Nat → Addr) (w : World) (h : w.cell? ⟨13, 0, none⟩ = some (errAt E 10)) : Calls Tryd.prog 160 #[.bool false] w fun e w' => e = .panicked [{ v := raisedV (errAt E 10), recovered := false }] ∧ w = w' := by
  go_enter Tryd.func160, Tryd.ntmps160
  go_wp2_with (go_at_call 154; refine (raise_err E 10 _).mono ?_; rintro e w' ⟨rfl, rfl⟩)
  exact ⟨rfl, rfl, rfl⟩
theorem ofK_le (k : Nat) (n : Int) : ofK k n ≤ 16 := by
  unfold ofK; split
  · omega
  split
  · split <;> omega
  · omega
set_option maxHeartbeats 800000 in
/-- Catch answers what comes of the function -/
theorem catch_fate (g : Nat) (lb : Array Value) (E : Nat → Addr) (k : Nat) (Q : World → Prop) (w : World) (eg : Enters g) (hF : Fate g lb (w.alloc (.cells #[.nilIface] 25)) E k Q)
    (hQ : ∀ w2, Q w2 → Blk w2 w.heap.size 25 #[.nilIface] ∧ w2.cell? ⟨13, 0, none⟩ = some (errAt E 10)) :
    Calls Tryd.prog 114 #[.func (.func g) #[] lb] w fun e w' => e = .returned (errN E k) ∧ ∃ w2, Q w2 ∧ Below w.heap.size w2 w' := by
  rcases hF with ⟨rfl, hF⟩ | ⟨h1, h2, hF⟩ | ⟨rfl, hF⟩
  · refine (catch_ok g lb Q w eg hF fun w2 h => (hQ w2 h).1).mono ?_
    rintro e w' ⟨rfl, w2, hq, rfl⟩
    exact ⟨rfl, w2, hq, Below.setCell (p := ⟨w.heap.size, 0, none⟩) (Below.refl w.heap.size _) (Nat.le_refl _) _⟩
  · refine (catch_raised g lb _ _ Q w eg hF fun w2 h => (hQ w2 h).1).mono ?_
    rintro e w' ⟨rfl, w2, hq, rfl⟩
    have hb := (hQ w2 hq).1.lt
    exact ⟨by unfold errN; rw [if_neg (by omega)]; rfl, w2, hq, (Below.setCell (p := ⟨w.heap.size, 0, none⟩) (Below.refl w.heap.size _) (Nat.le_refl _) _).alloc (by simp [World.setCell]; omega) _⟩
  · refine (catch_broken g lb E Q w eg hF hQ).mono ?_
    rintro e w' ⟨rfl, w2, hq, rfl⟩
    exact ⟨rfl, w2, hq, Below.setCell (p := ⟨w.heap.size, 0, none⟩) (Below.refl w.heap.size _) (Nat.le_refl _) _⟩
end Go.Proofs.YtplimhllfbdocaaDoor
