/- Texts joined: SoundNew. No condition but those that stand within. -/
import Derived.Lib.Strings
import Derived.Lib.Slices
import Derived.Lib.Bytealg
import Derived.Carry
import Derived.Laws.AppendOwnNone
import Derived.Test.YtcnkgiapidlbkaaGreatDoorPkSwar
import Derived.Test.YtcnkgiapidlbkaaGreatDoorPkMeter
import Derived.Test.YtcnkgiapidlbkaaGreatDoorPkErrs
import Derived.Test.YtcnkgiapidlbkaaGreatDoorPkGroup
import Derived.Test.YtcnkgiapidlbkaaGreatDoorPkTab
import Derived.Test.YtcnkgiapidlbkaaGreatDoorPkTab2
import Derived.Test.YtcnkgiapidlbkaaGreatDoorPkTab3
import Derived.Test.YtcnkgiapidlbkaaGreatDoorPkTab4
import Derived.Test.YtcnkgiapidlbkaaGreatDoorPkTake
import Derived.Test.YtcnkgiapidlbkaaGreatDoorPkTabM
import Derived.Test.YtcnkgiapidlbkaaGreatDoorPkBuild
import Derived.Test.YtcnkgiapidlbkaaGreatDoorPkEvac
set_option linter.unusedVariables false
set_option linter.unusedSimpArgs false
namespace Go.Proofs.YtcnkgiapidlbkaaGreatDoor
open Go.RowKit Go.Proofs
attribute [local go_sem] neq_nilG eql_nilG
set_option maxRecDepth 100000 in
theorem count_one (s : ByteArray) (c : UInt8) (w : World) :
    Calls Tryz.prog 127 #[.string s, .string ⟨#[c]⟩] w fun e w' => e = .returned (.int .i64 (Lib.countByte s.data.toList c)) ∧ w = w' := by
  go_enter Tryz.func127, Tryz.ntmps127
  go_wp2
  rw [run_callFunc_extern Tryz.func161 (by kernel_rfl) (by kernel_rfl) (by kernel_rfl) (e := Extern.BytealgCount.count) (by kernel_rfl), Lib.run_countString]
  simp only [Result.andThen]
  rw [Oper.upon_value]
  go_wp2
  go_ret
  exact ⟨rfl, rfl⟩
theorem infoET : (Tryz.prog.info? 41).map (fun i => (i.zero, i.size, i.bytes)) = some (some (.agg #[.int .u64 0, .int .u64 0, .int .u64 0]), 3, 24) := by kernel_rfl
section
variable {w w' w0 : World} {B Q : Nat} {n : Nat} {E : Nat → Addr}
def shp (f d e o l s : Int) : Array Value := #[.int .i64 f, .int .i64 d, .int .i64 e, .int .i64 o, .int .i64 l, .int .i64 s]
theorem shp_cells {w : World} {S : Nat} {T : TypeId} {f d e o l s : Int} (h : Blk w S T (shp f d e o l s)) : w.cell? ⟨S, 0, none⟩ = some (.int .i64 f) ∧ w.cell? ⟨S, 1, none⟩ = some (.int .i64 d) ∧ w.cell? ⟨S, 2, none⟩ = some (.int .i64 e) ∧ w.cell? ⟨S, 3, none⟩ = some (.int .i64 o) ∧ w.cell? ⟨S, 4, none⟩ = some (.int .i64 l) ∧ w.cell? ⟨S, 5, none⟩ = some (.int .i64 s) ∧ S < w.heap.size ∧ (∀ j, w.frozen? ⟨S, j, none⟩ = false) :=
  ⟨h.cell 0, h.cell 1, h.cell 2, h.cell 3, h.cell 4, h.cell 5, h.lt, fun j => h.frozen j⟩
theorem shp_int (a b c d e f : Int) (j : Nat) (s : ByteArray) : (shp a b c d e f)[j]? ≠ some (.string s) := by
  intro h
  unfold shp at h
  rcases j with _ | _ | _ | _ | _ | _ | j <;> simp at h
end
end Go.Proofs.YtcnkgiapidlbkaaGreatDoor
