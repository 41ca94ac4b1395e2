/- Texts joined: TabM. No condition but those that stand within. -/
import Derived.Test.YtolhmibejhldkaaGreatDoorPkSwar
import Derived.Test.YtolhmibejhldkaaGreatDoorPkMeter
import Derived.Test.YtolhmibejhldkaaGreatDoorPkErrs
import Derived.Test.YtolhmibejhldkaaGreatDoorPkGroup
import Derived.Test.YtolhmibejhldkaaGreatDoorPkTab
import Derived.Test.YtolhmibejhldkaaGreatDoorPkTab2
import Derived.Test.YtolhmibejhldkaaGreatDoorPkTab3
import Derived.Test.YtolhmibejhldkaaGreatDoorPkTab4
import Derived.Test.YtolhmibejhldkaaGreatDoorPkTake
set_option linter.unusedVariables false
set_option linter.unusedSimpArgs false
namespace Go.Proofs.YtolhmibejhldkaaGreatDoor
open Go.RowKit Go.Proofs
section
variable {w w' w0 : World} {B Q C R M : Nat} {T T' : TabS} {mt : MeterS} {E : Nat → Addr}
theorem TN.chg3 (h : TN w C R T E w0) (hc : Chg (fun b => b = M ∨ b = B ∨ b = Q) w w') (hM : w0.heap.size ≤ M) (hB : w0.heap.size ≤ B) (hQ : w0.heap.size ≤ Q) (h1 : C ≠ M ∧ C ≠ B ∧ C ≠ Q) (h2 : R ≠ M ∧ R ≠ B ∧ R ≠ Q) : TN w' C R T E w0 :=
  TMW.chg h hc (by rintro b (rfl | rfl | rfl) <;> assumption) (by rintro (e | e | e) <;> omega) (by rintro (e | e | e) <;> omega) (fun b e => by cases e)
theorem TN.chg1 (h : TN w C R T E w0) (hc : Chg (fun b => b = M) w w') (hM : w0.heap.size ≤ M) (h1 : C ≠ M) (h2 : R ≠ M) : TN w' C R T E w0 :=
  TMW.chg h hc (by rintro b rfl; assumption) h1 h2 (fun b e => by cases e)
theorem TN.putM (hS : TN w B Q T E w0) (hM : Blk w M 37 mt.cells) (h1 : M ≠ B) (h2 : M ≠ Q) (h3 : w0.heap.size ≤ M) (key v : Int) (h : Nat) (hh : h < 18446744073709551616) (x y z : Int) :
    Calls Tryz.prog 154 #[.pointer (some ⟨B, 0, none⟩), .agg #[.pointer (some ⟨M, 0, none⟩), .int .i64 x, .int .i64 y, .int .i64 z], .agg #[.int .u64 key, .int .u64 v, .int .u64 (h : Int)]] w fun e w' =>
      e = .returned (.tuple #[.bool (T.putB key h), errN E (T.putN key h)]) ∧ TN w' B Q (T.putT key v h) E w0 ∧ Blk w' M 37 (addN mt x y z (T.looks key h)).cells ∧ Chg (fun b => b = M ∨ b = B ∨ b = Q) w w' := by
  refine (TMW.put (hS.meter hM h1 h2 h3) key v h hh _ (LensAt.m M) x y z).mono ?_
  rintro e w' ⟨rfl, h4, h5⟩
  exact ⟨rfl, h4.unmeter, h4.m M rfl, h5.mono (fun i _ e => by
    rcases e with e | e
    · exact .inl (Option.some.inj e).symm
    · exact .inr e)⟩
end
end Go.Proofs.YtolhmibejhldkaaGreatDoor
