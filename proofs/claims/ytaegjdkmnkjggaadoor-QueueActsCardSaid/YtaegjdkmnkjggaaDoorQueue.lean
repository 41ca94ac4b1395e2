/- The walks of package queue. Condition: the errors' cells. -/
import Derived.Test.YtaegjdkmnkjggaaDoorErrNum
import Derived.Test.YtaegjdkmnkjggaaDoorQueuePlain
import Derived.Test.YtaegjdkmnkjggaaDoorSeq
import Derived.Test.YtaegjdkmnkjggaaDoorNum
import Derived.OwnWalk
import Derived.LoopTactic
import Derived.IntWalk
import Derived.Maps.AppendAt
namespace Go.Proofs.YtaegjdkmnkjggaaDoor
set_option linter.unusedVariables false
set_option linter.unusedSimpArgs false
open Go.RowKit Go.Proofs

def QSt.cells (R : Nat) (q : QSt) : Array Value := #[.slice (some ⟨R, 0, none⟩) q.ring.length q.ring.length, .int .i64 (q.first : Int), .int .i64 (q.many : Int)]
structure QW (w : World) (B R : Nat) (q : QSt) : Prop where
  head : Blk w B 105 (q.cells R)
  ring : Blk w R 3 (q.ring.map (Value.int .i64)).toArray
  ne : B ≠ R

theorem QW.below {w w' : World} {B R : Nat} {q : QSt} (h : QW w B R q) (hb : Below w.heap.size w w') : QW w' B R q := ⟨h.head.below hb h.head.lt, h.ring.below hb h.ring.lt, h.ne⟩
theorem QW.below' {n : Nat} {w w' : World} {B R : Nat} {q : QSt} (h : QW w B R q) (hb : Below n w w') (h1 : B < n) (h2 : R < n) : QW w' B R q := ⟨h.head.below hb h1, h.ring.below hb h2, h.ne⟩
theorem QW.chg {X : Nat → Prop} {w w' : World} {B R : Nat} {q : QSt} (h : QW w B R q) (hb : Chg X w w') (h1 : ¬ X B) (h2 : ¬ X R) : QW w' B R q := ⟨h.head.chg hb h1, h.ring.chg hb h2, h.ne⟩
theorem QW.cells {w : World} {B R : Nat} {q : QSt} (h : QW w B R q) :
    (w.cell? ⟨B, 0, none⟩ = some (.slice (some ⟨R, 0, none⟩) q.ring.length q.ring.length) ∧ w.cell? ⟨B, 1, none⟩ = some (.int .i64 (q.first : Int)) ∧ w.cell? ⟨B, 2, none⟩ = some (.int .i64 (q.many : Int))) ∧
    (w.frozen? ⟨B, 0, none⟩ = false ∧ w.frozen? ⟨B, 1, none⟩ = false ∧ w.frozen? ⟨B, 2, none⟩ = false) := ⟨⟨h.head.cell 0, h.head.cell 1, h.head.cell 2⟩, h.head.frozen 0, h.head.frozen 1, h.head.frozen 2⟩
theorem QW.item {w : World} {B R : Nat} {q : QSt} (h : QW w B R q) (hq : q.Ok) (i : Nat) : w.cell? ⟨R, q.at i, none⟩ = some (.int .i64 (q.item i)) := by
  have := q.at_lt hq i
  rw [h.ring.cell]
  simp [QSt.item, List.getD_eq_getElem?_getD, List.getElem?_eq_getElem this]

set_option maxHeartbeats 1600000 in
theorem qat_any (q : QSt) (B R i : Nat) (hq : q.Ok) (hi : i ≤ 100) (w : World) (h : QW w B R q) :
    Calls Tryd.prog 72 #[.pointer (some ⟨B, 0, none⟩), .int .i64 (i : Int)] w fun e w' => e = .returned (.int .i64 ((q.at i : Nat) : Int)) ∧ w.drew = w' := by
  obtain ⟨⟨c0, c1, c2⟩, -⟩ := h.cells
  have h1 := hq.pos
  have h2 := hq.most
  have h3 := hq.first
  have he : q.at i = (q.first + i) % q.ring.length := rfl
  rw [he]
  clear he h hq
  generalize q.ring.length = n at *
  generalize q.first = f at *
  have hw : IntKind.i64.wrap ((f : Int) + (i : Int)) = (f : Int) + (i : Int) := IntWalk.i64_in _ (by omega)
  have ht : ((f : Int) + (i : Int)) % (n : Int) = (((f + i) % n : Nat) : Int) := by
    rw [← Int.natCast_add, Int.natCast_emod]
  have hm : (f + i) % n < n := Nat.mod_lt _ (by omega)
  have hw2 : IntKind.i64.wrap (((f + i) % n : Nat) : Int) = (((f + i) % n : Nat) : Int) := IntWalk.i64_in _ (by omega)
  have hn0 : ¬ n = 0 := by omega
  go_enter Tryd.func72, Tryd.ntmps72
  go_wp2
  refine wp_region_seq (fun _ => False) #[⟨0, 0, 32, 1, 0⟩, ⟨1, 1, 64, 32, 0⟩, ⟨2, 3, 128, 64, 0⟩, ⟨4, 7, 256, 128, 1⟩, ⟨0, 0, 512, 2, 0⟩, ⟨24, 31, 1024, 768, 0⟩, ⟨0, 0, 2048, 1, 0⟩, ⟨64, 64, 4096, 2048, 0⟩, ⟨128, 192, 8192, 4096, 0⟩, ⟨256, 448, 16384, 8192, 1⟩, ⟨512, 960, 32768, 16384, 0⟩, ⟨1056, 2047, 65536, 33792, 0⟩, ⟨4095, 4095, 16, 65536, 0⟩] 520 [(0, 0), (1, 0), (2, 0), (3, 1), (4, 0), (5, 0), (6, 0), (7, 0), (8, 0), (9, 1), (10, 0), (11, 0), (12, 0)] (by kernel_rfl) (by kernel_rfl) (by kernel_rfl) (by kernel_rfl) (by kernel_rfl) (by kernel_rfl) (fun c a d v w h => by cases d <;> exact h) ?_
  refine seq_calc (by simp only [List.getElem?_toArray, List.getElem?_cons_succ, List.getElem?_cons_zero]; rfl) (by rfl) (fun u => by go_simp <;> with_reducible rfl) ?_
  try simp only [Act.put, List.setIfInBounds_toArray, List.set_cons_zero, List.set_cons_succ]
  refine seq_calc (by simp only [List.getElem?_toArray, List.getElem?_cons_succ, List.getElem?_cons_zero]; rfl) (by rfl) (fun u => by go_simp <;> with_reducible rfl) ?_
  try simp only [Act.put, List.setIfInBounds_toArray, List.set_cons_zero, List.set_cons_succ]
  refine seq_calc (by simp only [List.getElem?_toArray, List.getElem?_cons_succ, List.getElem?_cons_zero]; rfl) (by rfl) (fun u => by go_simp <;> with_reducible rfl) ?_
  try simp only [Act.put, List.setIfInBounds_toArray, List.set_cons_zero, List.set_cons_succ]
  refine seq_load1 (by simp only [List.getElem?_toArray, List.getElem?_cons_succ, List.getElem?_cons_zero]; rfl) (by rfl) rfl rfl Tryd.underlying3 rfl (by go_simp <;> with_reducible rfl) (by first | exact id | assumption | (simp; done) | (simp; omega)) ?_
  try simp only [Act.put, List.setIfInBounds_toArray, List.set_cons_zero, List.set_cons_succ]
  refine seq_calc (by simp only [List.getElem?_toArray, List.getElem?_cons_succ, List.getElem?_cons_zero]; rfl) (by rfl) (fun u => by go_simp <;> with_reducible rfl) ?_
  try simp only [Act.put, List.setIfInBounds_toArray, List.set_cons_zero, List.set_cons_succ]
  refine seq_calc (by simp only [List.getElem?_toArray, List.getElem?_cons_succ, List.getElem?_cons_zero]; rfl) (by rfl) (fun u => by go_simp <;> with_reducible rfl) ?_
  try simp only [Act.put, List.setIfInBounds_toArray, List.set_cons_zero, List.set_cons_succ]
  refine seq_calc (by simp only [List.getElem?_toArray, List.getElem?_cons_succ, List.getElem?_cons_zero]; rfl) (by rfl) (fun u => by go_simp <;> with_reducible rfl) ?_
  try simp only [Act.put, List.setIfInBounds_toArray, List.set_cons_zero, List.set_cons_succ]
  refine seq_calc (by simp only [List.getElem?_toArray, List.getElem?_cons_succ, List.getElem?_cons_zero]; rfl) (by rfl) (fun u => by go_simp <;> with_reducible rfl) ?_
  try simp only [Act.put, List.setIfInBounds_toArray, List.set_cons_zero, List.set_cons_succ]
  refine seq_calc (by simp only [List.getElem?_toArray, List.getElem?_cons_succ, List.getElem?_cons_zero]; rfl) (by rfl) (fun u => by go_simp <;> with_reducible rfl) ?_
  try simp only [Act.put, List.setIfInBounds_toArray, List.set_cons_zero, List.set_cons_succ]
  refine seq_load1 (by simp only [List.getElem?_toArray, List.getElem?_cons_succ, List.getElem?_cons_zero]; rfl) (by rfl) rfl rfl Tryd.underlying22 rfl (by go_simp <;> with_reducible rfl) (by first | exact id | assumption | (simp; done) | (simp; omega)) ?_
  try simp only [Act.put, List.setIfInBounds_toArray, List.set_cons_zero, List.set_cons_succ]
  refine seq_calc (by simp only [List.getElem?_toArray, List.getElem?_cons_succ, List.getElem?_cons_zero]; rfl) (by rfl) (fun u => by go_simp <;> with_reducible rfl) ?_
  try simp only [Act.put, List.setIfInBounds_toArray, List.set_cons_zero, List.set_cons_succ]
  refine seq_calc (by simp only [List.getElem?_toArray, List.getElem?_cons_succ, List.getElem?_cons_zero]; rfl) (by rfl) (fun u => by go_simp <;> with_reducible rfl) ?_
  try simp only [Act.put, List.setIfInBounds_toArray, List.set_cons_zero, List.set_cons_succ]
  refine seq_calc (by simp only [List.getElem?_toArray, List.getElem?_cons_succ, List.getElem?_cons_zero]; rfl) (by rfl) (fun u => by go_simp <;> with_reducible rfl) ?_
  try simp only [Act.put, List.setIfInBounds_toArray, List.set_cons_zero, List.set_cons_succ]
  refine seq_nil ?_
  go_wp2
  go_ret
  exact ⟨rfl, rfl⟩

/-- a list, newly made -/
def GivesL (xs : List Int) (w : World) (e : Ending) (w' : World) : Prop := ∃ a cap, e = .returned (.slice a xs.length cap) ∧ xs.length ≤ cap ∧ (∀ p, a = some p → w.heap.size ≤ p.block) ∧ ReadsInts w' (.slice a xs.length cap) xs ∧ Below w.heap.size w w'
theorem givesL_own {w w' : World} {e : TypeId} {v : Value} {n : Nat} {xs : List Int} (h : w'.ownsRow w.heap.size e 1 v n (xs.map (Value.int .i64))) (hb : Below w.heap.size w w') : GivesL xs w (.returned v) w' := by
  have hl : xs.length = n := by have := h.1; simpa using this
  have hr := readsInts_own h
  rcases h.2 with ⟨rfl, h0⟩ | ⟨g, cap, cur, rfl, hb', _, h1, _, _, _⟩
  · subst h0
    refine ⟨none, 0, ?_, by omega, (fun p hp => by cases hp), ?_, hb⟩
    · rw [hl]
    · rw [hl]; exact hr
  · subst hl
    exact ⟨some ⟨g, 0, none⟩, cap, rfl, h1, (fun p hp => by cases hp; exact hb'), hr, hb⟩
theorem ownsRow_slice {W : World} {base : Nat} {e : TypeId} {size : Nat} {v : Value} {k : Nat} {xs : List Value} (h : W.ownsRow base e size v k xs) : ∃ a cap, v = .slice a k cap := by
  rcases h.2 with ⟨rfl, rfl⟩ | ⟨g, cap, _, rfl, _⟩
  · exact ⟨_, _, rfl⟩
  · exact ⟨_, _, rfl⟩
theorem info3q : (Tryd.prog.info? 3).map (fun i => (i.zero, i.size, i.bytes)) = some (some (.int .i64 0), 1, 8) := by kernel_rfl
theorem range_snoc {α : Type} (f : Nat → α) (k : Nat) : (List.range (k + 1)).map f = (List.range k).map f ++ [f k] := by rw [List.range_succ, List.map_append]; rfl
theorem ownsRow_own {w w' : World} {base : Nat} {e : TypeId} {v : Value} {n : Nat} {xs : List Value} (h : w.ownsRow base e 1 v n xs) (hg : Below w.heap.size w w') : w'.ownsRow base e 1 v n xs := by
  refine ⟨h.1, ?_⟩
  rcases h.2 with h' | ⟨g, cap, cur, rfl, hb, hh, hr⟩
  · exact .inl h'
  · exact .inr ⟨g, cap, cur, rfl, hb, (hg.block g (Array.getElem?_eq_some_iff.1 hh).1).trans hh, hr⟩

set_option maxRecDepth 100000 in
set_option maxHeartbeats 1600000 in
theorem qlist_any (q : QSt) (B R : Nat) (hq : q.Ok) (w : World) (h : QW w B R q) :
    Calls Tryd.prog 73 #[.pointer (some ⟨B, 0, none⟩)] w (GivesL q.list w) := by
  obtain ⟨i0, hi, hz0, hz1, hz2⟩ := info_parts info3q
  obtain ⟨⟨c0, c1, c2⟩, -⟩ := h.cells
  have h1 := hq.pos
  have h2 := hq.most
  have h4 := hq.many
  have hRB : R < w.heap.size := h.ring.lt
  have hBB : B < w.heap.size := h.head.lt
  have HQ := Lib.hid hq
  have HW := Lib.hid h
  clear h hq
  go_enter Tryd.func73, Tryd.ntmps73
  go_wp2_with (at_make; refine wpList_make_own _ rfl _ _ 22 rfl w.heap.size 3 i0 (.int .i64 0) 1 Tryd.underlying22 hi hz0 hz1 .i64 .i64 _ q.many rfl rfl (by omega) (by rw [hz2]; omega) (by unfold maxLen; omega) (Nat.le_refl _) ?_; intro w1 hown1 hgrow1; have hB1 : Below w.heap.size w w1 := (Below.refl _ _).grown hgrow1 (Nat.le_refl _) (fun k e => by cases e); clear hgrow1; obtain ⟨k1, k2⟩ := bcell hB1)
  go_loopw [3, 14] (fun v3 v14 wr => ∃ k : Nat, k ≤ q.many ∧ v14 = .int .i64 (k : Int) ∧ wr.ownsRow w.heap.size 3 1 v3 k ((List.range k).map fun i => Value.int .i64 (q.item i)) ∧ Below w.heap.size w wr) (fun _ v14 _ => q.many - (intOf v14).toNat)
  case atStart => exact ⟨0, Nat.zero_le _, rfl, hown1, hB1⟩
  case round =>
    obtain ⟨k, hk, rfl, hrow, hB⟩ := hrel
    clear hown1 hB1 k1 k2
    by_cases hlt : k < q.many
    · have hc := HW.out.below hB
      have hit := hc.item HQ.out k
      have hal := q.at_lt HQ.out k
      have hal' : ((q.at k : Nat) : Int) < (q.ring.length : Int) := by omega
      obtain ⟨⟨d0, d1, d2⟩, -⟩ := hc.cells
      have HA := Lib.hid (qat_any q B R k HQ.out (by omega))
      have HC := Lib.hid hc
      have HROW := Lib.hid hrow
      have hs := HQ.out
      have HS := Lib.hid (range_snoc (fun i => Value.int .i64 (q.item i)) k)
      have hzB := hB.size
      obtain ⟨a3, cap3, rfl⟩ := ownsRow_slice hrow
      clear hc hrow hs
      go_wp2
      refine wp_region_seq (fun _ => False) #[⟨0, 0, 131072, 8, 0⟩, ⟨0, 0, 262144, 1, 0⟩, ⟨2, 2, 524288, 262144, 0⟩, ⟨4, 6, 1048576, 524288, 0⟩, ⟨8, 14, 2097152, 1048576, 1⟩, ⟨0, 0, 4194304, 1, 0⟩, ⟨0, 0, 8388608, 16, 0⟩, ⟨96, 96, 16777216, 12582912, 2⟩, ⟨144, 254, 33554432, 18874368, 0⟩, ⟨256, 510, 67108864, 33554432, 1⟩, ⟨512, 1022, 134217728, 67108864, 3⟩, ⟨1153, 2047, 268435456, 134348800, 3⟩, ⟨4095, 4095, 8, 268435456, 0⟩] 528 [(0, 0), (1, 0), (2, 0), (3, 0), (4, 1), (5, 0), (6, 0), (7, 2), (8, 0), (9, 1), (10, 3), (11, 3), (12, 0)] (by kernel_rfl) (by kernel_rfl) (by kernel_rfl) (by kernel_rfl) (by kernel_rfl) (by kernel_rfl) (fun c a d v w h => by cases d <;> exact h) ?_
      refine seq_calc (by simp only [List.getElem?_toArray, List.getElem?_cons_succ, List.getElem?_cons_zero]; rfl) (by rfl) (fun u => by go_simp <;> with_reducible rfl) ?_
      try simp only [Act.put, List.setIfInBounds_toArray, List.set_cons_zero, List.set_cons_succ]
      refine seq_calc (by simp only [List.getElem?_toArray, List.getElem?_cons_succ, List.getElem?_cons_zero]; rfl) (by rfl) (fun u => by go_simp <;> with_reducible rfl) ?_
      try simp only [Act.put, List.setIfInBounds_toArray, List.set_cons_zero, List.set_cons_succ]
      refine seq_calc (by simp only [List.getElem?_toArray, List.getElem?_cons_succ, List.getElem?_cons_zero]; rfl) (by rfl) (fun u => by go_simp <;> with_reducible rfl) ?_
      try simp only [Act.put, List.setIfInBounds_toArray, List.set_cons_zero, List.set_cons_succ]
      refine seq_calc (by simp only [List.getElem?_toArray, List.getElem?_cons_succ, List.getElem?_cons_zero]; rfl) (by rfl) (fun u => by go_simp <;> with_reducible rfl) ?_
      try simp only [Act.put, List.setIfInBounds_toArray, List.set_cons_zero, List.set_cons_succ]
      refine seq_load1 (by simp only [List.getElem?_toArray, List.getElem?_cons_succ, List.getElem?_cons_zero]; rfl) (by rfl) rfl rfl Tryd.underlying22 rfl (by go_simp <;> with_reducible rfl) (by first | exact id | assumption | (simp; done) | (simp; omega)) ?_
      try simp only [Act.put, List.setIfInBounds_toArray, List.set_cons_zero, List.set_cons_succ]
      refine seq_calc (by simp only [List.getElem?_toArray, List.getElem?_cons_succ, List.getElem?_cons_zero]; rfl) (by rfl) (fun u => by go_simp <;> with_reducible rfl) ?_
      try simp only [Act.put, List.setIfInBounds_toArray, List.set_cons_zero, List.set_cons_succ]
      refine seq_calc (by simp only [List.getElem?_toArray, List.getElem?_cons_succ, List.getElem?_cons_zero]; rfl) (by rfl) (fun u => by go_simp <;> with_reducible rfl) ?_
      try simp only [Act.put, List.setIfInBounds_toArray, List.set_cons_zero, List.set_cons_succ]
      refine seq_do (by simp only [List.getElem?_toArray, List.getElem?_cons_succ, List.getElem?_cons_zero]; rfl) (by rfl) (fun K hK => ?_); go_wp2_with (first | (go_at_call 72; refine (HA.out _ (HC.out.below (by go_grown))).mono ?_; rintro e w' ⟨rfl, rfl⟩)); refine hK.out _ _ (by first | (with_reducible exact Chg.refl _ _) | (with_reducible assumption) | (refine Chg.of_below ?_; with_reducible assumption) | (with_reducible exact (Chg.refl _ _).alloc _) | (with_reducible exact (Chg.refl _ _).drewN _) | (with_reducible exact (Chg.refl _ _).drew) | exact ⟨rfl, rfl, rfl, Nat.le_refl _, fun _ _ _ => rfl⟩) ?_; clear hK K
      try simp only [Act.put, List.setIfInBounds_toArray, List.set_cons_zero, List.set_cons_succ]
      refine seq_calc (by simp only [List.getElem?_toArray, List.getElem?_cons_succ, List.getElem?_cons_zero]; rfl) (by rfl) (fun u => by go_simp <;> with_reducible rfl) ?_
      try simp only [Act.put, List.setIfInBounds_toArray, List.set_cons_zero, List.set_cons_succ]
      refine seq_load1 (by simp only [List.getElem?_toArray, List.getElem?_cons_succ, List.getElem?_cons_zero]; rfl) (by rfl) rfl rfl Tryd.underlying3 rfl (by go_simp <;> with_reducible rfl) (by first | exact id | assumption | (simp; done) | (simp; omega)) ?_
      try simp only [Act.put, List.setIfInBounds_toArray, List.set_cons_zero, List.set_cons_succ]
      refine seq_last (by simp only [List.getElem?_toArray, List.getElem?_cons_succ, List.getElem?_cons_zero]; rfl) (by rfl) (fun K hK => ?_); go_wp2_with (fail); refine hK.out _ _ ?_; clear hK K
      try simp only [Act.put, List.setIfInBounds_toArray, List.set_cons_zero, List.set_cons_succ]
      refine seq_last (by simp only [List.getElem?_toArray, List.getElem?_cons_succ, List.getElem?_cons_zero]; rfl) (by rfl) (fun K hK => ?_); (refine wp_append_own _ _ _ 22 rfl w.heap.size 3 i0 (.int .i64 0) 1 8 Tryd.underlying22 hi hz0 hz1 hz2 rfl (by decide) _ _ _ rfl ((ownsRow_own HROW.out (by go_grown)).alloc _) ⟨wr.heap.size, 0, none⟩ 1 1 [.int .i64 (q.item k)] rfl rfl (cell_one_new _ _ _) (by simp [Value.oneCell']) (by unfold maxLen; omega) (by omega) (by simp; omega) ?_; intro v' w2 hown2 hgrow2 _; have hB2 : Below w.heap.size w w2 := Below.grown (by go_grown) hgrow2 (by simp; omega) (fun k e => ((ownsRow_own HROW.out (by go_grown)).lt k e).1)); refine hK.out _ _ ?_; clear hK K
      try simp only [Act.put, List.setIfInBounds_toArray, List.set_cons_zero, List.set_cons_succ]
      refine seq_calc (by simp only [List.getElem?_toArray, List.getElem?_cons_succ, List.getElem?_cons_zero]; rfl) (by rfl) (fun u => by go_simp <;> with_reducible rfl) ?_
      try simp only [Act.put, List.setIfInBounds_toArray, List.set_cons_zero, List.set_cons_succ]
      refine seq_nil ?_
      go_wp2
      go_roundw
      case rel => exact ⟨k + 1, by omega, by go_num, by rw [HS.out]; exact hown2, hB2⟩
      case measure => simp [intOf]; omega
    · obtain rfl : k = q.many := by omega
      have HROW := Lib.hid hrow
      clear hrow
      go_wp2
      go_ret
      have := HROW.out
      rw [show ((List.range q.many).map fun i => Value.int .i64 (q.item i)) = q.list.map (Value.int .i64) by simp [QSt.list, Function.comp_def]] at this
      exact givesL_own this hB

end Go.Proofs.YtaegjdkmnkjggaaDoor
