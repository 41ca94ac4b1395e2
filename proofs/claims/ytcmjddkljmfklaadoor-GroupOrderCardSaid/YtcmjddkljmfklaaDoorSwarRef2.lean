/- The document's masks: Equal, High, Mask, List. No condition. -/
import Derived.Test.YtcmjddkljmfklaaDoorSwarRef
import Derived.Test.YtcmjddkljmfklaaDoorSwarIter
import Derived.LoopTactic
import Derived.Deep.Cut
import Derived.Maps.AppendAt
namespace Go.Proofs.YtcmjddkljmfklaaDoor
set_option linter.unusedVariables false
set_option linter.unusedSimpArgs false
open Go.RowKit Go.Proofs

/-- eight bools as cells -/
def boolL (f : Nat → Bool) : List Value := [.bool (f 0), .bool (f 1), .bool (f 2), .bool (f 3), .bool (f 4), .bool (f 5), .bool (f 6), .bool (f 7)]
theorem boolL_congr {f g : Nat → Bool} (h : ∀ i, i < 8 → f i = g i) : boolL f = boolL g := by
  simp only [boolL, h 0 (by omega), h 1 (by omega), h 2 (by omega), h 3 (by omega), h 4 (by omega), h 5 (by omega), h 6 (by omega), h 7 (by omega)]

theorem boolL_get (f : Nat → Bool) (k : Nat) (hk : k < 8) : (boolL f).toArray[k]? = some (.bool (f k)) := by
  rcases lt8 hk with rfl | rfl | rfl | rfl | rfl | rfl | rfl | rfl <;> rfl
theorem boolL_set (f : Nat → Bool) (i : Nat) (b : Bool) (hi : i < 8) : (boolL f).toArray.setIfInBounds i (.bool b) = (boolL (fun k => if k = i then b else f k)).toArray := by
  rcases lt8 hi with rfl | rfl | rfl | rfl | rfl | rfl | rfl | rfl <;> simp [boolL]
theorem byteL_get (l : Nat → Nat) (i : Nat) (hi : i < 8) : (byteL l).toArray[i]? = some (.int .u8 (l i : Int)) := by
  rcases lt8 hi with rfl | rfl | rfl | rfl | rfl | rfl | rfl | rfl <;> rfl
theorem byteL_set (l : Nat → Nat) (i b : Nat) (hi : i < 8) : (byteL l).toArray.setIfInBounds i (.int .u8 (b : Int)) = (byteL (fun k => if k = i then b else l k)).toArray := by
  rcases lt8 hi with rfl | rfl | rfl | rfl | rfl | rfl | rfl | rfl <;> simp [byteL]
theorem boolL_one (f : Nat → Bool) : ∀ v ∈ (boolL f).toArray.toList, v.oneCell' = true := by
  intro v hv
  simp only [boolL, List.mem_cons, List.not_mem_nil, or_false] at hv
  rcases hv with rfl | rfl | rfl | rfl | rfl | rfl | rfl | rfl <;> rfl
theorem byteL_one (f : Nat → Nat) : ∀ v ∈ (byteL f).toArray.toList, v.oneCell' = true := by
  intro v hv
  simp only [byteL, List.mem_cons, List.not_mem_nil, or_false] at hv
  rcases hv with rfl | rfl | rfl | rfl | rfl | rfl | rfl | rfl <;> rfl
theorem ix_byte (l : Nat → Nat) (k : Nat) (hk : k < 8) (w : World) : (Instr.index 166 (.agg (byteL l).toArray) (.int .i64 (k : Int))).run Tryd.prog w = .ok (.int .u8 (l k : Int)) w :=
  run_index_one Tryd.underlying166 Tryd.underlying5 rfl (Tryd.sizeOf5 w) hk (byteL_get l k hk)

theorem upto_set (f : Nat → Bool) (k : Nat) : (fun j => if j = k then f k else (decide (j < k) && f j)) = fun j => decide (j < k + 1) && f j := by
  funext j
  by_cases h : j = k
  · subst h; simp
  · by_cases h2 : j < k
    · simp [h, h2, show j < k + 1 by omega]
    · simp [h, h2, show ¬ j < k + 1 by omega]
theorem upto_all (f : Nat → Bool) : boolL (fun j => decide (j < 8) && f j) = boolL f := boolL_congr fun i hi => by simp [hi]
theorem upto_none (f : Nat → Bool) : boolL (fun _ => false) = boolL (fun j => decide (j < 0) && f j) := boolL_congr fun i hi => by simp

theorem infoInt1 : (Tryd.prog.info? 3).map (fun i => (i.zero, i.size, i.bytes)) = some (some (.int .i64 0), 1, 8) := by kernel_rfl
/-- the lanes that are in, below k -/
def lanesTo (f : Nat → Bool) (k : Nat) : List Int := ((List.range k).filter f).map fun n : Nat => (n : Int)
theorem lanesTo_succ (f : Nat → Bool) (k : Nat) : lanesTo f (k + 1) = lanesTo f k ++ if f k then [(k : Int)] else [] := by
  unfold lanesTo
  rw [List.range_succ, List.filter_append, List.map_append]
  congr 1
  cases h : f k <;> simp [h]
theorem lanesTo_len (f : Nat → Bool) (k : Nat) : (lanesTo f k).length ≤ k := by
  have := List.length_filter_le f (List.range k)
  simpa [lanesTo] using this
end Go.Proofs.YtcmjddkljmfklaaDoor
