/- Texts joined: QueuePlain Queue QueueActs QueueAll QueueL. No condition but those that stand within. -/
import Derived.Lib.Hide
import Derived.OwnWalk
import Derived.LoopTactic
import Derived.IntWalk
import Derived.Maps.AppendAt
import Derived.Laws.OwnMore
import Derived.Test.YtolhmibejhldkaaDoorPkSwar
import Derived.Test.YtolhmibejhldkaaDoorPkMeter
import Derived.Test.YtolhmibejhldkaaDoorPkErrs
import Derived.Test.YtolhmibejhldkaaDoorPkGroup
import Derived.Test.YtolhmibejhldkaaDoorPkTab
set_option linter.unusedVariables false
set_option linter.unusedSimpArgs false
namespace Go.Proofs.YtolhmibejhldkaaDoor
structure QSt where
  ring : List Int
  first : Nat
  many : Nat
def QSt.at (q : QSt) (i : Nat) : Nat := (q.first + i) % q.ring.length
def QSt.item (q : QSt) (i : Nat) : Int := q.ring.getD (q.at i) 0
def QSt.list (q : QSt) : List Int := (List.range q.many).map q.item
structure QSt.Ok (q : QSt) : Prop where
  pos : 1 ≤ q.ring.length
  most : q.ring.length ≤ 40
  first : q.first < q.ring.length
  many : q.many ≤ q.ring.length
theorem QSt.at_lt {q : QSt} (h : q.Ok) (i : Nat) : q.at i < q.ring.length := Nat.mod_lt _ (by have := h.pos; omega)
theorem QSt.list_length (q : QSt) : q.list.length = q.many := by simp [QSt.list]
theorem QSt.list_get (q : QSt) (i : Nat) (h : i < q.many) : q.list[i]? = some (q.item i) := by simp [QSt.list, h]
theorem mod_two {a n : Nat} (h : a < 2 * n) : a % n = if a < n then a else a - n := by
  split
  · exact Nat.mod_eq_of_lt ‹_›
  · rw [Nat.mod_eq_sub_mod (by omega), Nat.mod_eq_of_lt (by omega)]
theorem QSt.at_eq {q : QSt} (h : q.Ok) {i : Nat} (hi : i < q.ring.length) : q.at i = if q.first + i < q.ring.length then q.first + i else q.first + i - q.ring.length := mod_two (by have := h.first; omega)
theorem QSt.at_ne {q : QSt} (h : q.Ok) {i j : Nat} (hi : i < q.ring.length) (hj : j < q.ring.length) (hne : i ≠ j) : q.at i ≠ q.at j := by
  have := h.first
  rw [q.at_eq h hi, q.at_eq h hj]
  split <;> split <;> omega
theorem getD_set (l : List Int) (i j : Nat) (x : Int) (hi : i < l.length) : (l.set i x).getD j 0 = if j = i then x else l.getD j 0 := by
  simp only [List.getD_eq_getElem?_getD, List.getElem?_set]
  by_cases h : i = j
  · subst h; simp [hi]
  · rw [if_neg h, if_neg (fun e => h e.symm)]
def QSt.push (q : QSt) (id : Int) : QSt := ⟨q.ring.set (q.at q.many) id, q.first, q.many + 1⟩
theorem QSt.push_ok {q : QSt} (h : q.Ok) (hm : q.many < q.ring.length) (id : Int) : (q.push id).Ok := by
  have := h.pos; have := h.most; have := h.first
  constructor <;> simp [QSt.push] <;> omega
theorem QSt.push_list {q : QSt} (h : q.Ok) (hm : q.many < q.ring.length) (id : Int) : (q.push id).list = q.list ++ [id] := by
  have hat : ∀ j, (q.push id).at j = q.at j := fun j => by simp [QSt.at, QSt.push]
  show (List.range (q.many + 1)).map (q.push id).item = _
  rw [List.range_succ, List.map_append]
  congr 1
  · apply List.map_congr_left
    intro j hj
    have hj' : j < q.many := by simpa using hj
    show (q.ring.set (q.at q.many) id).getD ((q.push id).at j) 0 = _
    rw [hat, getD_set _ _ _ _ (q.at_lt h _), if_neg (q.at_ne h (by omega) (by omega) (by omega))]
    rfl
  · show [(q.ring.set (q.at q.many) id).getD ((q.push id).at q.many) 0] = _
    rw [hat, getD_set _ _ _ _ (q.at_lt h _), if_pos rfl]
theorem QSt.item0 {q : QSt} (h : q.Ok) : q.at 0 = q.first := Nat.mod_eq_of_lt h.first
def QSt.pop (q : QSt) : QSt := ⟨q.ring, q.at 1, q.many - 1⟩
theorem QSt.pop_list {q : QSt} (h : q.Ok) (hm : 0 < q.many) : q.list = q.item 0 :: q.pop.list := by
  have hmm := h.many
  have hit : ∀ j, j + 1 < q.ring.length → q.pop.item j = q.item (j + 1) := fun j hj => by
    have : q.pop.at j = q.at (j + 1) := by
      show ((q.first + 1) % q.ring.length + j) % q.ring.length = (q.first + (j + 1)) % q.ring.length
      rw [Nat.mod_add_mod]; congr 1; omega
    show q.ring.getD (q.pop.at j) 0 = q.ring.getD (q.at (j + 1)) 0
    rw [this]
  apply List.ext_getElem?
  intro j
  cases j with
  | zero => rw [q.list_get 0 hm]; rfl
  | succ j =>
    rw [List.getElem?_cons_succ]
    by_cases hj : j + 1 < q.many
    · rw [q.list_get _ hj, q.pop.list_get j (by show j < q.many - 1; omega), hit j (by omega)]
    · rw [List.getElem?_eq_none (by rw [q.list_length]; omega), List.getElem?_eq_none (by rw [q.pop.list_length]; show q.many - 1 ≤ j; omega)]
theorem QSt.list_nil {q : QSt} (hm : q.many = 0) : q.list = [] := by simp [QSt.list, hm]
def QSt.clear (q : QSt) : QSt := ⟨q.ring, 0, 0⟩
structure QSt.Moved (q : QSt) (i k : Nat) (r : List Int) : Prop where
  len : r.length = q.ring.length
  get : ∀ j, j < q.many → r.getD (q.at j) 0 = if i ≤ j ∧ j < i + k then q.item (j + 1) else q.item j
theorem QSt.moved0 (q : QSt) (i : Nat) : q.Moved i 0 q.ring := ⟨rfl, fun j _ => by rw [if_neg (by omega)]; rfl⟩
theorem QSt.Moved.next {q : QSt} (h : q.Ok) {i k : Nat} {r : List Int} (hr : q.Moved i k r) (hk : i + k + 1 < q.many) : q.Moved i (k + 1) (r.set (q.at (i + k)) (q.item (i + k + 1))) := by
  have hm := h.many
  refine ⟨by simp [hr.len], fun j hj => ?_⟩
  rw [getD_set _ _ _ _ (by rw [hr.len]; exact q.at_lt h _)]
  by_cases hji : j = i + k
  · subst hji; rw [if_pos rfl, if_pos (by omega)]
  · rw [if_neg (q.at_ne h (by omega) (by omega) hji), hr.get j hj]
    by_cases hc : i ≤ j ∧ j < i + k
    · rw [if_pos hc, if_pos (by omega)]
    · rw [if_neg hc, if_neg (by omega)]
def QSt.cut (q : QSt) (r : List Int) : QSt := ⟨r, q.first, q.many - 1⟩
theorem QSt.cut_ok {q : QSt} (h : q.Ok) {r : List Int} (hr : r.length = q.ring.length) : (q.cut r).Ok := by
  have := h.pos; have := h.most; have := h.first; have := h.many
  constructor <;> simp [QSt.cut] <;> omega
theorem QSt.Moved.done {q : QSt} (h : q.Ok) {i k : Nat} {r : List Int} (hr : q.Moved i k r) (hk : i + k + 1 = q.many) : (q.cut r).list = q.list.eraseIdx i := by
  have hat : ∀ j, (q.cut r).at j = q.at j := fun j => by simp [QSt.at, QSt.cut, hr.len]
  apply List.ext_getElem?
  intro j
  rw [List.getElem?_eraseIdx]
  by_cases hj : j < q.many - 1
  · rw [(q.cut r).list_get j hj]
    show some (r.getD ((q.cut r).at j) 0) = _
    rw [hat, hr.get j (by omega)]
    by_cases hc : j < i
    · rw [if_pos hc, if_neg (by omega), q.list_get j (by omega)]
    · rw [if_neg hc, if_pos (by omega), q.list_get (j + 1) (by omega)]
  · rw [List.getElem?_eq_none (by rw [QSt.list_length]; show q.many - 1 ≤ j; omega)]
    rw [if_neg (by omega), List.getElem?_eq_none (by rw [QSt.list_length]; omega)]
def idxI : List Int → Int → Int
  | [], _ => -1
  | y :: ys, x => if y = x then 0 else if idxI ys x < 0 then -1 else idxI ys x + 1
theorem idxI_miss {xs : List Int} {x : Int} (h : x ∉ xs) : idxI xs x = -1 := by
  induction xs with
  | nil => rfl
  | cons y ys ih =>
    simp only [List.mem_cons, not_or] at h
    have := ih h.2
    simp [idxI, this, Ne.symm h.1]
theorem idxI_hit {xs : List Int} {x : Int} {k : Nat} (hg : xs[k]? = some x) (hn : x ∉ xs.take k) : idxI xs x = (k : Int) := by
  induction xs generalizing k with
  | nil => simp at hg
  | cons y ys ih =>
    cases k with
    | zero => simp at hg; simp [idxI, hg]
    | succ k =>
      simp only [List.take_succ_cons, List.mem_cons, not_or] at hn
      have := ih (k := k) (by simpa using hg) hn.2
      simp only [idxI, this]
      rw [if_neg (Ne.symm hn.1), if_neg (by omega)]
      simp
theorem mem_first {xs : List Int} {x : Int} (h : x ∈ xs) : ∃ k : Nat, xs[k]? = some x ∧ x ∉ xs.take k := by
  induction xs with
  | nil => cases h
  | cons y ys ih =>
    by_cases e : y = x
    · exact ⟨0, by simp [e], by simp⟩
    · obtain ⟨k, h1, h2⟩ := ih (by simpa [Ne.symm e] using h)
      exact ⟨k + 1, by simpa using h1, by simp [h2, Ne.symm e]⟩
theorem erase_filter {xs : List Int} {x : Int} {k : Nat} (hd : xs.Nodup) (hg : xs[k]? = some x) : xs.eraseIdx k = xs.filter (fun y => decide (y ≠ x)) := by
  induction xs generalizing k with
  | nil => simp at hg
  | cons y ys ih =>
    rw [List.nodup_cons] at hd
    cases k with
    | zero =>
      simp at hg
      subst hg
      have : ys.filter (fun z => decide (z ≠ y)) = ys := by
        rw [List.filter_eq_self]
        intro z hz
        simp only [ne_eq, decide_not, Bool.not_eq_true', decide_eq_false_iff_not]
        exact fun e => hd.1 (e ▸ hz)
      rw [List.eraseIdx_cons_zero, List.filter_cons, if_neg (by simp)]
      exact this.symm
    | succ k =>
      have hg' : ys[k]? = some x := by simpa using hg
      have hne : y ≠ x := fun e => hd.1 (e ▸ List.mem_of_getElem? hg')
      rw [List.eraseIdx_cons_succ, ih hd.2 hg', List.filter_cons, if_pos (by simpa using hne)]
theorem filter_miss {xs : List Int} {x : Int} (h : x ∉ xs) : xs.filter (fun y => decide (y ≠ x)) = xs := by
  rw [List.filter_eq_self]
  intro z hz
  simp only [ne_eq, decide_not, Bool.not_eq_true', decide_eq_false_iff_not]
  exact fun e => h (e ▸ hz)
theorem nodup_snoc {xs : List Int} {x : Int} (h : xs.Nodup) (hx : x ∉ xs) : (xs ++ [x]).Nodup := by
  rw [List.nodup_append]
  exact ⟨h, by simp, fun a ha b hb e => hx (by simp at hb; subst hb; exact e ▸ ha)⟩
end Go.Proofs.YtolhmibejhldkaaDoor

namespace Go.Proofs.YtolhmibejhldkaaDoor
open Go.RowKit Go.Proofs
def QSt.cells (R : Nat) (q : QSt) : Array Value := #[.slice (some ⟨R, 0, none⟩) q.ring.length q.ring.length, .int .i64 (q.first : Int), .int .i64 (q.many : Int)]
structure QW (w : World) (B R : Nat) (q : QSt) : Prop where
  head : Blk w B 89 (q.cells R)
  ring : Blk w R 3 (q.ring.map (Value.int .i64)).toArray
  ne : B ≠ R
theorem QW.below {w w' : World} {B R : Nat} {q : QSt} (h : QW w B R q) (hb : Below w.heap.size w w') : QW w' B R q := ⟨h.head.below hb h.head.lt, h.ring.below hb h.ring.lt, h.ne⟩
theorem QW.below' {n : Nat} {w w' : World} {B R : Nat} {q : QSt} (h : QW w B R q) (hb : Below n w w') (h1 : B < n) (h2 : R < n) : QW w' B R q := ⟨h.head.below hb h1, h.ring.below hb h2, h.ne⟩
theorem QW.chg {X : Nat → Prop} {w w' : World} {B R : Nat} {q : QSt} (h : QW w B R q) (hb : Chg X w w') (h1 : ¬ X B) (h2 : ¬ X R) : QW w' B R q := ⟨h.head.chg hb h1, h.ring.chg hb h2, h.ne⟩
theorem QW.cells {w : World} {B R : Nat} {q : QSt} (h : QW w B R q) :
    (w.cell? ⟨B, 0, none⟩ = some (.slice (some ⟨R, 0, none⟩) q.ring.length q.ring.length) ∧ w.cell? ⟨B, 1, none⟩ = some (.int .i64 (q.first : Int)) ∧ w.cell? ⟨B, 2, none⟩ = some (.int .i64 (q.many : Int))) ∧
    (w.frozen? ⟨B, 0, none⟩ = false ∧ w.frozen? ⟨B, 1, none⟩ = false ∧ w.frozen? ⟨B, 2, none⟩ = false) := ⟨⟨h.head.cell 0, h.head.cell 1, h.head.cell 2⟩, h.head.frozen 0, h.head.frozen 1, h.head.frozen 2⟩
theorem QW.item {w : World} {B R : Nat} {q : QSt} (h : QW w B R q) (hq : q.Ok) (i : Nat) : w.cell? ⟨R, q.at i, none⟩ = some (.int .i64 (q.item i)) := by
  have := q.at_lt hq i
  rw [h.ring.cell]
  simp [QSt.item, List.getD_eq_getElem?_getD, List.getElem?_eq_getElem this]
set_option maxHeartbeats 1600000 in
theorem qat_any (q : QSt) (B R i : Nat) (hq : q.Ok) (hi : i ≤ 100) (w : World) (h : QW w B R q) :
    Calls Tryd.prog 43 #[.pointer (some ⟨B, 0, none⟩), .int .i64 (i : Int)] w fun e w' => e = .returned (.int .i64 ((q.at i : Nat) : Int)) ∧ w.drew = w' := by
  obtain ⟨⟨c0, c1, c2⟩, -⟩ := h.cells
  have h1 := hq.pos
  have h2 := hq.most
  have h3 := hq.first
  have he : q.at i = (q.first + i) % q.ring.length := rfl
  rw [he]
  clear he h hq
  generalize q.ring.length = n at *
  generalize q.first = f at *
  have hw : IntKind.i64.wrap ((f : Int) + (i : Int)) = (f : Int) + (i : Int) := IntWalk.i64_in _ (by omega)
  have ht : ((f : Int) + (i : Int)) % (n : Int) = (((f + i) % n : Nat) : Int) := by
    rw [← Int.natCast_add, Int.natCast_emod]
  have hm : (f + i) % n < n := Nat.mod_lt _ (by omega)
  have hw2 : IntKind.i64.wrap (((f + i) % n : Nat) : Int) = (((f + i) % n : Nat) : Int) := IntWalk.i64_in _ (by omega)
  have hn0 : ¬ n = 0 := by omega
  go_enter Tryd.func43, Tryd.ntmps43
  go_wp2
  refine wp_region_seq (fun _ => False) #[⟨0, 0, 32, 1, 0⟩, ⟨1, 1, 64, 32, 0⟩, ⟨2, 3, 128, 64, 0⟩, ⟨4, 7, 256, 128, 1⟩, ⟨0, 0, 512, 2, 0⟩, ⟨24, 31, 1024, 768, 0⟩, ⟨0, 0, 2048, 1, 0⟩, ⟨64, 64, 4096, 2048, 0⟩, ⟨128, 192, 8192, 4096, 0⟩, ⟨256, 448, 16384, 8192, 1⟩, ⟨512, 960, 32768, 16384, 0⟩, ⟨1056, 2047, 65536, 33792, 0⟩, ⟨4095, 4095, 16, 65536, 0⟩] 520 [(0, 0), (1, 0), (2, 0), (3, 1), (4, 0), (5, 0), (6, 0), (7, 0), (8, 0), (9, 1), (10, 0), (11, 0), (12, 0)] (by kernel_rfl) (by kernel_rfl) (by kernel_rfl) (by kernel_rfl) (by kernel_rfl) (by kernel_rfl) (fun c a d v w h => by cases d <;> exact h) ?_
  refine zqC ?_; refine zqC ?_; refine zqC ?_
  refine zq1 Tryd.underlying3 ?_
  try refine zqP ?_; refine zqC ?_; refine zqC ?_; refine zqC ?_; refine zqC ?_; refine zqC ?_
  refine zq1 Tryd.underlying37 ?_
  try refine zqP ?_; refine zqC ?_; refine zqC ?_; refine zqC ?_
  refine seq_nil ?_
  go_wp2
  go_ret
  exact ⟨rfl, rfl⟩
def GivesL (xs : List Int) (w : World) (e : Ending) (w' : World) : Prop := ∃ a cap, e = .returned (.slice a xs.length cap) ∧ xs.length ≤ cap ∧ (∀ p, a = some p → w.heap.size ≤ p.block) ∧ ReadsInts w' (.slice a xs.length cap) xs ∧ Below w.heap.size w w'
theorem givesL_own {w w' : World} {e : TypeId} {v : Value} {n : Nat} {xs : List Int} (h : w'.ownsRow w.heap.size e 1 v n (xs.map (Value.int .i64))) (hb : Below w.heap.size w w') : GivesL xs w (.returned v) w' := by
  have hl : xs.length = n := by have := h.1; simpa using this
  have hr := readsInts_own h
  rcases h.2 with ⟨rfl, h0⟩ | ⟨g, cap, cur, rfl, hb', _, h1, _, _, _⟩
  · subst h0
    refine ⟨none, 0, ?_, by omega, (fun p hp => by cases hp), ?_, hb⟩
    · rw [hl]
    · rw [hl]; exact hr
  · subst hl
    exact ⟨some ⟨g, 0, none⟩, cap, rfl, h1, (fun p hp => by cases hp; exact hb'), hr, hb⟩
theorem info3q : (Tryd.prog.info? 3).map (fun i => (i.zero, i.size, i.bytes)) = some (some (.int .i64 0), 1, 8) := by kernel_rfl
theorem range_snoc {α : Type} (f : Nat → α) (k : Nat) : (List.range (k + 1)).map f = (List.range k).map f ++ [f k] := by rw [List.range_succ, List.map_append]; rfl
set_option maxRecDepth 100000 in
set_option maxHeartbeats 1600000 in
theorem qlist_any (q : QSt) (B R : Nat) (hq : q.Ok) (w : World) (h : QW w B R q) :
    Calls Tryd.prog 51 #[.pointer (some ⟨B, 0, none⟩)] w (GivesL q.list w) := by
  obtain ⟨i0, hi, hz0, hz1, hz2⟩ := info_parts info3q
  obtain ⟨⟨c0, c1, c2⟩, -⟩ := h.cells
  have h1 := hq.pos
  have h2 := hq.most
  have h4 := hq.many
  have hRB : R < w.heap.size := h.ring.lt
  have hBB : B < w.heap.size := h.head.lt
  have HQ := Lib.hid hq
  have HW := Lib.hid h
  clear h hq
  go_enter Tryd.func51, Tryd.ntmps51
  go_wp2_with (at_make; refine wpList_make_own _ rfl _ _ 37 rfl w.heap.size 3 i0 (.int .i64 0) 1 Tryd.underlying37 hi hz0 hz1 .i64 .i64 _ q.many rfl rfl (by omega) (by rw [hz2]; omega) (by unfold maxLen; omega) (Nat.le_refl _) ?_; intro w1 hown1 hgrow1; have hB1 : Below w.heap.size w w1 := (Below.refl _ _).grown hgrow1 (Nat.le_refl _) (fun k e => by cases e); clear hgrow1; obtain ⟨k1, k2⟩ := bcell hB1)
  go_loopw [3, 14] (fun v3 v14 wr => ∃ k : Nat, k ≤ q.many ∧ v14 = .int .i64 (k : Int) ∧ wr.ownsRow w.heap.size 3 1 v3 k ((List.range k).map fun i => Value.int .i64 (q.item i)) ∧ Below w.heap.size w wr) (fun _ v14 _ => q.many - (intOf v14).toNat)
  case atStart => exact ⟨0, Nat.zero_le _, rfl, hown1, hB1⟩
  case round =>
    obtain ⟨k, hk, rfl, hrow, hB⟩ := hrel
    clear hown1 hB1 k1 k2
    by_cases hlt : k < q.many
    · have hc := HW.out.below hB
      have hit := hc.item HQ.out k
      have hal := q.at_lt HQ.out k
      have hal' : ((q.at k : Nat) : Int) < (q.ring.length : Int) := by omega
      obtain ⟨⟨d0, d1, d2⟩, -⟩ := hc.cells
      have HA := Lib.hid (qat_any q B R k HQ.out (by omega))
      have HC := Lib.hid hc
      have HROW := Lib.hid hrow
      have hs := HQ.out
      have HS := Lib.hid (range_snoc (fun i => Value.int .i64 (q.item i)) k)
      have hzB := hB.size
      obtain ⟨a3, cap3, rfl⟩ := ownsRow_slice hrow
      clear hc hrow hs
      go_wp2
      refine wp_region_seq (fun _ => False) #[⟨0, 0, 131072, 8, 0⟩, ⟨0, 0, 262144, 1, 0⟩, ⟨2, 2, 524288, 262144, 0⟩, ⟨4, 6, 1048576, 524288, 0⟩, ⟨8, 14, 2097152, 1048576, 1⟩, ⟨0, 0, 4194304, 1, 0⟩, ⟨0, 0, 8388608, 16, 0⟩, ⟨96, 96, 16777216, 12582912, 2⟩, ⟨144, 254, 33554432, 18874368, 0⟩, ⟨256, 510, 67108864, 33554432, 1⟩, ⟨512, 1022, 134217728, 67108864, 3⟩, ⟨1153, 2047, 268435456, 134348800, 3⟩, ⟨4095, 4095, 8, 268435456, 0⟩] 528 [(0, 0), (1, 0), (2, 0), (3, 0), (4, 1), (5, 0), (6, 0), (7, 2), (8, 0), (9, 1), (10, 3), (11, 3), (12, 0)] (by kernel_rfl) (by kernel_rfl) (by kernel_rfl) (by kernel_rfl) (by kernel_rfl) (by kernel_rfl) (fun c a d v w h => by cases d <;> exact h) ?_
      refine zqC ?_; refine zqC ?_; refine zqC ?_; refine zqC ?_
      refine zq1 Tryd.underlying37 ?_
      try refine zqP ?_; refine zqC ?_; refine zqC ?_
      refine zqD fun K hK => ?_; go_wp2_with (first | (go_at_call 43; refine (HA.out _ (HC.out.below (by go_grown))).mono ?_; rintro e w' ⟨rfl, rfl⟩)); refine hkA hK (h := ?_); clear hK K
      try refine zqP ?_; refine zqC ?_
      refine zq1 Tryd.underlying3 ?_
      try refine zqP ?_
      refine zqE fun K hK => ?_; go_wp2_with (fail); refine hK.out _ _ ?_; clear hK K
      try refine zqP ?_
      refine zqE fun K hK => ?_; (refine wp_append_own _ _ _ 37 rfl w.heap.size 3 i0 (.int .i64 0) 1 8 Tryd.underlying37 hi hz0 hz1 hz2 rfl (by decide) _ _ _ rfl ((ownsRow_own HROW.out (by go_grown)).alloc _) ⟨wr.heap.size, 0, none⟩ 1 1 [.int .i64 (q.item k)] rfl rfl (cell_one_new _ _ _) (by simp [Value.oneCell']) (by unfold maxLen; omega) (by omega) (by simp; omega) ?_; intro v' w2 hown2 hgrow2 _; have hB2 : Below w.heap.size w w2 := Below.grown (by go_grown) hgrow2 (by simp; omega) (fun k e => ((ownsRow_own HROW.out (by go_grown)).lt k e).1)); refine hK.out _ _ ?_; clear hK K
      try refine zqP ?_; refine zqC ?_
      refine seq_nil ?_
      go_wp2
      go_roundw
      case rel => exact ⟨k + 1, by omega, by go_num, by rw [HS.out]; exact hown2, hB2⟩
      case measure => simp [intOf]; omega
    · obtain rfl : k = q.many := by omega
      have HROW := Lib.hid hrow
      clear hrow
      go_wp2
      go_ret
      have := HROW.out
      rw [show ((List.range q.many).map fun i => Value.int .i64 (q.item i)) = q.list.map (Value.int .i64) by simp [QSt.list, Function.comp_def]] at this
      exact givesL_own this hB
end Go.Proofs.YtolhmibejhldkaaDoor

namespace Go.Proofs.YtolhmibejhldkaaDoor
open Go.RowKit Go.Proofs
theorem index_any (v : Value) (xs : List Int) (x : Int) (w : World) (h : ReadsInts w v xs) (b1 : xs.length < 9223372036854775807) :
    Calls Tryd.prog 55 #[v, .int .i64 x] w fun e w' => e = .returned (.int .i64 (idxI xs x)) ∧ w = w' := by
  obtain ⟨a, cap, rfl, hx⟩ := h
  have HX := Lib.hid hx
  clear hx
  go_enter Tryd.func55, Tryd.ntmps55
  go_wp2
  go_loop [8] (fun v8 => ∃ k : Nat, k ≤ xs.length ∧ v8 = .int .i64 (k : Int) ∧ x ∉ xs.take k) (fun v8 => xs.length - (intOf v8).toNat)
  case atStart => exact ⟨0, Nat.zero_le _, rfl, by simp⟩
  case round =>
    obtain ⟨k, hk, rfl, hn⟩ := hrel
    have HN := Lib.hid hn
    clear hn
    by_cases hlt : k < xs.length
    · obtain ⟨b, off, rfl, hc⟩ := HX.out (fun e => by rw [e] at hlt; simp at hlt)
      have c1 := hc k hlt
      clear hc
      by_cases he : x = xs[k]
      · have hI := idxI_hit (k := k) (by rw [List.getElem?_eq_getElem hlt, he]) HN.out
        replace hI := Lib.hid hI
        have he' : (x == xs[k]) = true := by simpa using he
        clear he
        go_wp2
        go_ret
        exact ⟨by rw [hI.out]; rfl, rfl⟩
      · have he' : (x == xs[k]) = false := by simpa using he
        have HN2 := Lib.hid (show x ∉ xs.take (k + 1) by rw [List.take_succ_eq_append_getElem hlt, List.mem_append]; intro h; exact h.elim HN.out (fun h => he (by simpa using h)))
        clear he
        go_wp2
        go_round
        case rel => exact ⟨k + 1, by omega, by go_num, HN2.out⟩
        case measure => simp [intOf]; omega
    · obtain rfl : k = xs.length := by omega
      have hI := Lib.hid (idxI_miss (by have := HN.out; rwa [List.take_length] at this))
      go_wp2
      go_ret
      exact ⟨by rw [hI.out]; rfl, rfl⟩
theorem contains_any (v : Value) (xs : List Int) (x : Int) (w : World) (h : ReadsInts w v xs) (b1 : xs.length < 9223372036854775807) :
    Calls Tryd.prog 50 #[v, .int .i64 x] w fun e w' => e = .returned (.bool (decide (x ∈ xs))) ∧ w = w' := by
  have hi := index_any v xs x w h b1
  by_cases hm : x ∈ xs
  · obtain ⟨k, h1, h2⟩ := mem_first hm
    rw [idxI_hit h1 h2] at hi
    rw [decide_eq_true hm]
    have hk : ((k : Int) ≥ 0) = True := by simp
    clear hm h1 h2
    go_enter Tryd.func50, Tryd.ntmps50
    go_wp2_with (go_at_call 55; refine hi.mono ?_; rintro e w' ⟨rfl, rfl⟩)
    go_ret
    exact ⟨rfl, rfl⟩
  · rw [idxI_miss hm] at hi
    rw [decide_eq_false hm]
    clear hm
    go_enter Tryd.func50, Tryd.ntmps50
    go_wp2_with (go_at_call 55; refine hi.mono ?_; rintro e w' ⟨rfl, rfl⟩)
    go_ret
    exact ⟨rfl, rfl⟩
theorem numHas_any (v : Value) (xs : List Int) (x : Int) (w : World) (h : ReadsInts w v xs) (b1 : xs.length < 9223372036854775807) :
    Calls Tryd.prog 25 #[v, .int .i64 x] w fun e w' => e = .returned (.bool (decide (x ∈ xs))) ∧ w = w' := by
  obtain ⟨a, cap, rfl, hx⟩ := h
  have HX := Lib.hid hx
  clear hx
  go_enter Tryd.func25, Tryd.ntmps25
  go_wp2
  go_loop [9] (fun v8 => ∃ k : Nat, k ≤ xs.length ∧ v8 = .int .i64 (k : Int) ∧ x ∉ xs.take k) (fun v8 => xs.length - (intOf v8).toNat)
  case atStart => exact ⟨0, Nat.zero_le _, rfl, by simp⟩
  case round =>
    obtain ⟨k, hk, rfl, hn⟩ := hrel
    have HN := Lib.hid hn
    clear hn
    by_cases hlt : k < xs.length
    · obtain ⟨b, off, rfl, hc⟩ := HX.out (fun e => by rw [e] at hlt; simp at hlt)
      have c1 := hc k hlt
      clear hc
      by_cases he : x = xs[k]
      · have hI := Lib.hid (decide_eq_true (show x ∈ xs by rw [he]; exact List.getElem_mem hlt))
        have he' : (xs[k] == x) = true := by simpa using he.symm
        clear he
        go_wp2
        go_ret
        exact ⟨by rw [hI.out]; rfl, rfl⟩
      · have he' : (xs[k] == x) = false := by simpa using fun e => he e.symm
        have HN2 := Lib.hid (show x ∉ xs.take (k + 1) by rw [List.take_succ_eq_append_getElem hlt, List.mem_append]; intro h; exact h.elim HN.out (fun h => he (by simpa using h)))
        clear he
        go_wp2
        go_round
        case rel => exact ⟨k + 1, by omega, by go_num, HN2.out⟩
        case measure => simp [intOf]; omega
    · obtain rfl : k = xs.length := by omega
      have hI := Lib.hid (decide_eq_false (show x ∉ xs by have := HN.out; rwa [List.take_length] at this))
      go_wp2
      go_ret
      exact ⟨by rw [hI.out]; rfl, rfl⟩
theorem qhas_any (q : QSt) (B R : Nat) (hq : q.Ok) (x : Int) (w : World) (h : QW w B R q) :
    Calls Tryd.prog 35 #[.pointer (some ⟨B, 0, none⟩), .int .i64 x] w fun e w' => e = .returned (.bool (decide (x ∈ q.list))) ∧ Below w.heap.size w w' := by
  have hl := qlist_any q B R hq w h
  have hb := q.list_length
  have h2 := hq.many
  have h3 := hq.most
  have HC := Lib.hid (fun (v : Value) (w' : World) (hv : ReadsInts w' v q.list) => contains_any v q.list x w' hv (by omega))
  clear h hq hb
  go_enter Tryd.func35, Tryd.ntmps35
  go_wp2_with (first
    | (go_at_call 51; refine hl.mono ?_; rintro e w1 ⟨va, vc, rfl, -, -, hv, hb1⟩; replace hv := Lib.hid hv)
    | (go_at_call 50; refine (HC.out _ _ hv.out).mono ?_; rintro e w' ⟨rfl, rfl⟩))
  go_ret
  exact ⟨rfl, hb1⟩
def headV (xs : List Int) : Value := match xs with | [] => .tuple #[.int .i64 0, .bool false] | x :: _ => .tuple #[.int .i64 x, .bool true]
theorem qhead_none (q : QSt) (B R : Nat) (hm : q.many = 0) (w : World) (h : QW w B R q) :
    Calls Tryd.prog 48 #[.pointer (some ⟨B, 0, none⟩)] w fun e w' => e = .returned (headV q.list) ∧ w = w' := by
  obtain ⟨⟨c0, c1, c2⟩, -⟩ := h.cells
  rw [q.list_nil hm]
  have hm' : ((q.many : Int) == 0) = true := by simp [hm]
  replace hm := Lib.hid hm
  clear h
  go_enter Tryd.func48, Tryd.ntmps48
  go_wp2
  go_ret2
  exact ⟨rfl, rfl⟩
theorem qhead_some (q : QSt) (B R : Nat) (hq : q.Ok) (hm : 0 < q.many) (w : World) (h : QW w B R q) :
    Calls Tryd.prog 48 #[.pointer (some ⟨B, 0, none⟩)] w fun e w' => e = .returned (headV q.list) ∧ w.drew = w' := by
  obtain ⟨⟨c0, c1, c2⟩, -⟩ := h.cells
  have hit := h.item hq 0
  rw [q.pop_list hq hm]
  rw [q.item0 hq] at hit
  have h1 := hq.first
  have h2 := hq.most
  have h1' : ((q.first : Nat) : Int) < (q.ring.length : Int) := by omega
  have hm' : ((q.many : Int) == 0) = false := by simp; omega
  clear h hq
  go_enter Tryd.func48, Tryd.ntmps48
  go_wp2
  refine wp_region_seq (fun _ => False) #[⟨0, 0, 512, 1, 0⟩, ⟨1, 1, 1024, 512, 0⟩, ⟨2, 3, 2048, 1024, 0⟩, ⟨4, 7, 4096, 2048, 1⟩, ⟨0, 0, 8192, 1, 0⟩, ⟨16, 16, 16384, 8192, 0⟩, ⟨32, 48, 32768, 16384, 0⟩, ⟨64, 112, 65536, 32768, 1⟩, ⟨136, 255, 131072, 69632, 0⟩, ⟨256, 511, 262144, 131072, 1⟩, ⟨1023, 1023, 4, 262144, 0⟩, ⟨2047, 2047, 8, 0, 0⟩] 648 [(0, 0), (1, 0), (2, 0), (3, 1), (4, 0), (5, 0), (6, 0), (7, 1), (8, 0), (9, 1), (10, 0), (11, 0)] (by kernel_rfl) (by kernel_rfl) (by kernel_rfl) (by kernel_rfl) (by kernel_rfl) (by kernel_rfl) (fun c a d v w h => by cases d <;> exact h) ?_
  refine zqC ?_; refine zqC ?_; refine zqC ?_
  refine zq1 Tryd.underlying37 ?_
  try refine zqP ?_; refine zqC ?_; refine zqC ?_; refine zqC ?_
  refine zq1 Tryd.underlying3 ?_
  try refine zqP ?_; refine zqC ?_
  refine zq1 Tryd.underlying3 ?_
  try refine zqP ?_; refine zqC ?_; refine zqC ?_
  refine seq_nil ?_
  go_wp2
  go_ret2
  exact ⟨rfl, rfl⟩
theorem qhead_any (q : QSt) (B R : Nat) (hq : q.Ok) (w : World) (h : QW w B R q) :
    Calls Tryd.prog 48 #[.pointer (some ⟨B, 0, none⟩)] w fun e w' => e = .returned (headV q.list) ∧ Below w.heap.size w w' := by
  by_cases hm : q.many = 0
  · exact (qhead_none q B R hm w h).mono fun e w' ⟨h1, h2⟩ => ⟨h1, h2 ▸ Below.refl _ _⟩
  · exact (qhead_some q B R hq (by omega) w h).mono fun e w' ⟨h1, h2⟩ => ⟨h1, h2 ▸ (Below.refl _ _).drew⟩
def QSt.next (q : QSt) : QSt := if q.many = 0 then q else q.pop
set_option maxHeartbeats 1600000 in
theorem qpush_dup (q : QSt) (B R : Nat) (hq : q.Ok) (x : Int) (E : Nat → Addr) (hx : x ∈ q.list) (w : World) (h : QW w B R q) (he : EC w E [1, 2, 16]) :
    Calls Tryd.prog 29 #[.pointer (some ⟨B, 0, none⟩), .int .i64 x] w fun e w' => e = .returned (errAt E 16) ∧ Below w.heap.size w w' := by
  have hh := qhas_any q B R hq x w h
  rw [decide_eq_true hx] at hh
  have HE := Lib.hid he
  clear h hq hx he
  go_enter Tryd.func29, Tryd.ntmps29
  go_wp2_with (go_at_call 35; refine hh.mono ?_; rintro e w1 ⟨rfl, hb1⟩; have hg : w1.cell? ⟨2, 0, none⟩ = some (errAt E 16) := (HE.out.below hb1) 16 (by decide))
  go_ret
  exact ⟨rfl, hb1⟩
set_option maxHeartbeats 1600000 in
theorem qpush_full (q : QSt) (B R : Nat) (hq : q.Ok) (x : Int) (E : Nat → Addr) (hx : x ∉ q.list) (hm : q.many = q.ring.length) (w : World) (h : QW w B R q) (he : EC w E [1, 2, 16]) :
    Calls Tryd.prog 29 #[.pointer (some ⟨B, 0, none⟩), .int .i64 x] w fun e w' => e = .returned (errAt E 2) ∧ Below w.heap.size w w' := by
  have hh := qhas_any q B R hq x w h
  rw [decide_eq_false hx] at hh
  have HE := Lib.hid he
  have H := Lib.hid h
  have hm' : ((q.many : Int) == (q.ring.length : Int)) = true := by simp [hm]
  replace hm := Lib.hid hm
  clear h hq hx he
  go_enter Tryd.func29, Tryd.ntmps29
  go_wp2_with (go_at_call 35; refine hh.mono ?_; rintro e w1 ⟨rfl, hb1⟩; have hg : w1.cell? ⟨3, 0, none⟩ = some (errAt E 2) := (HE.out.below hb1) 2 (by decide); obtain ⟨⟨c0, c1, c2⟩, -⟩ := (H.out.below hb1).cells)
  refine wp_region_seq (fun _ => False) #[⟨0, 0, 2048, 1, 0⟩, ⟨1, 1, 4096, 2048, 0⟩, ⟨2, 3, 8192, 4096, 0⟩, ⟨4, 7, 16384, 8192, 1⟩, ⟨0, 0, 32768, 1, 0⟩, ⟨16, 16, 65536, 32768, 0⟩, ⟨32, 48, 131072, 65536, 0⟩, ⟨64, 112, 262144, 131072, 1⟩, ⟨128, 240, 524288, 262144, 0⟩, ⟨264, 511, 1048576, 540672, 0⟩, ⟨512, 1023, 1024, 1048576, 0⟩] 136 [(0, 0), (1, 0), (2, 0), (3, 1), (4, 0), (5, 0), (6, 0), (7, 1), (8, 0), (9, 0), (10, 0)] (by kernel_rfl) (by kernel_rfl) (by kernel_rfl) (by kernel_rfl) (by kernel_rfl) (by kernel_rfl) (fun c a d v w h => by cases d <;> exact h) ?_
  refine zqC ?_; refine zqC ?_; refine zqC ?_
  refine zq1 Tryd.underlying3 ?_
  try refine zqP ?_; refine zqC ?_; refine zqC ?_; refine zqC ?_
  refine zq1 Tryd.underlying37 ?_
  try refine zqP ?_; refine zqC ?_; refine zqC ?_; refine zqC ?_
  refine seq_nil ?_
  go_wp2
  go_ret
  exact ⟨rfl, hb1.drew⟩
set_option maxHeartbeats 1600000 in
theorem qpush_ok (q : QSt) (B R : Nat) (hq : q.Ok) (x : Int) (hx : x ∉ q.list) (hm : q.many < q.ring.length) (w : World) (h : QW w B R q) :
    Calls Tryd.prog 29 #[.pointer (some ⟨B, 0, none⟩), .int .i64 x] w fun e w' => e = .returned .nilIface ∧ QW w' B R (q.push x) ∧ Chg (fun b => b = B ∨ b = R) w w' := by
  have hh := qhas_any q B R hq x w h
  rw [decide_eq_false hx] at hh
  have H := Lib.hid h
  have hm' : ((q.many : Int) == (q.ring.length : Int)) = false := by simp; omega
  have hb := hq.most
  have HA := Lib.hid (fun (w' : World) (h' : QW w' B R q) => qat_any q B R q.many hq (by omega) w' h')
  have HI := Lib.hid (fun (w' : World) (h' : QW w' B R q) => h'.item hq q.many)
  have hal := q.at_lt hq q.many
  have hal' : ((q.at q.many : Nat) : Int) < (q.ring.length : Int) := by omega
  have hn1 := Lib.hid (show ((q.many : Int) + 1) = ((q.many + 1 : Nat) : Int) by omega)
  clear h hq hx
  go_enter Tryd.func29, Tryd.ntmps29
  go_wp2_with (go_at_call 35; refine hh.mono ?_; rintro e w1 ⟨rfl, hb1⟩; have H1 := Lib.hid (H.out.below hb1); obtain ⟨⟨c0, c1, c2⟩, ⟨f0, f1, f2⟩⟩ := (H.out.below hb1).cells; have hi := HI.out _ H1.out; have fR := H1.out.ring.frozen (q.at q.many); have hne := H1.out.ne)
  refine wp_region_seq (fun _ => False) #[⟨0, 0, 2048, 1, 0⟩, ⟨1, 1, 4096, 2048, 0⟩, ⟨2, 3, 8192, 4096, 0⟩, ⟨4, 7, 16384, 8192, 1⟩, ⟨0, 0, 32768, 1, 0⟩, ⟨16, 16, 65536, 32768, 0⟩, ⟨32, 48, 131072, 65536, 0⟩, ⟨64, 112, 262144, 131072, 1⟩, ⟨128, 240, 524288, 262144, 0⟩, ⟨264, 511, 1048576, 540672, 0⟩, ⟨512, 1023, 1024, 1048576, 0⟩] 136 [(0, 0), (1, 0), (2, 0), (3, 1), (4, 0), (5, 0), (6, 0), (7, 1), (8, 0), (9, 0), (10, 0)] (by kernel_rfl) (by kernel_rfl) (by kernel_rfl) (by kernel_rfl) (by kernel_rfl) (by kernel_rfl) (fun c a d v w h => by cases d <;> exact h) ?_
  refine zqC ?_; refine zqC ?_; refine zqC ?_
  refine zq1 Tryd.underlying3 ?_
  try refine zqP ?_; refine zqC ?_; refine zqC ?_; refine zqC ?_
  refine zq1 Tryd.underlying37 ?_
  try refine zqP ?_; refine zqC ?_; refine zqC ?_; refine zqC ?_
  refine seq_nil ?_
  go_wp2
  refine wp_region_seq (fun _ => False) #[⟨0, 0, 4194304, 1, 0⟩, ⟨1, 1, 8388608, 4194304, 0⟩, ⟨2, 3, 16777216, 8388608, 0⟩, ⟨4, 7, 33554432, 16777216, 1⟩, ⟨0, 0, 67108864, 1, 0⟩, ⟨0, 0, 134217728, 1, 0⟩, ⟨32, 32, 268435456, 134217728, 0⟩, ⟨64, 96, 536870912, 268435456, 0⟩, ⟨128, 224, 1073741824, 536870912, 1⟩, ⟨272, 496, 2147483648, 1140850688, 2⟩, ⟨0, 0, 4294967296, 2, 0⟩, ⟨2047, 2047, 8589934592, 2181038080, 0⟩, ⟨4095, 4095, 0, 12884901888, 3⟩] 264 [(0, 0), (1, 0), (2, 0), (3, 1), (4, 0), (5, 0), (6, 0), (7, 0), (8, 1), (10, 0), (9, 2), (11, 0), (12, 3)] (by kernel_rfl) (by kernel_rfl) (by kernel_rfl) (by kernel_rfl) (by kernel_rfl) (by kernel_rfl) (fun c a d v w h => by cases d <;> exact h) ?_
  refine zqC ?_; refine zqC ?_; refine zqC ?_
  refine zq1 Tryd.underlying37 ?_
  try refine zqP ?_; refine zqC ?_; refine zqC ?_; refine zqC ?_; refine zqC ?_
  refine zq1 Tryd.underlying3 ?_
  try refine zqP ?_; refine zqC ?_
  refine zqD fun K hK => ?_; go_wp2_with (go_at_call 43; refine (HA.out _ (H1.out.below (by go_grown))).mono ?_; rintro e w' ⟨rfl, rfl⟩); refine hkA hK (h := ?_); clear hK K
  try refine zqP ?_; refine zqC ?_
  refine zqE fun K hK => ?_; go_wp2_with (fail); refine hK.out _ _ ?_; clear hK K
  try refine zqP ?_
  refine seq_nil ?_
  go_wp2
  go_ret
  refine ⟨rfl, ⟨?_, ?_, hne⟩, ?_⟩
  · have := ((H1.out.head.drew.drew.drew).other hne (q.at q.many) (.int .i64 x)).set 2 (.int .i64 ((q.many : Int) + 1))
    rw [hn1.out] at this ⊢
    rw [show (q.push x).cells R = (q.cells R).setIfInBounds 2 (.int .i64 ((q.many + 1 : Nat) : Int)) by simp [QSt.push, QSt.cells]]
    exact this
  · have := ((H1.out.ring.drew.drew.drew).set (q.at q.many) (.int .i64 x)).other (Ne.symm hne) 2 (.int .i64 ((q.many : Int) + 1))
    rw [show ((q.push x).ring.map (Value.int .i64)).toArray = ((q.ring.map (Value.int .i64)).toArray).setIfInBounds (q.at q.many) (.int .i64 x) by simp [QSt.push]]
    exact this
  · exact ((((((Chg.of_below hb1).drew).drew).drew)).setCell (.inl (.inr rfl)) _).setCell (.inl (.inl rfl)) _
def QSt.new (n : Nat) : QSt := ⟨List.replicate n 0, 0, 0⟩
theorem QSt.new_ok {n : Nat} (h1 : 1 ≤ n) (h2 : n ≤ 40) : (QSt.new n).Ok := by constructor <;> simp [QSt.new] <;> omega
theorem ownsRow_blk {w : World} {base g : Nat} {e : TypeId} {n : Nat} {xs : List Value} (h : w.ownsRow base e 1 (.slice (some ⟨g, 0, none⟩) n n) n xs) : Blk w g e xs.toArray := by
  rcases h.2 with ⟨h1, _⟩ | ⟨g', cap, cur, h1, _, h3, _, _, h4, h5⟩
  · cases h1
  · simp only [Value.slice.injEq, Option.some.injEq, Addr.mk.injEq, and_true, true_and] at h1
    obtain ⟨rfl, rfl⟩ := h1
    have : xs = cur.toList := by rw [← h5, List.take_of_length_le (by simp [h4])]
    rw [this]
    exact h3
def NewQ (n : Nat) (w : World) (e : Ending) (w' : World) : Prop := ∃ B R, e = .returned (.tuple #[.pointer (some ⟨B, 0, none⟩), .nilIface]) ∧ QW w' B R (QSt.new n) ∧ w.heap.size ≤ B ∧ w.heap.size ≤ R ∧ Below w.heap.size w w'
set_option maxRecDepth 100000 in
set_option maxHeartbeats 1600000 in
theorem qnew_ok (n : Nat) (h1 : 1 ≤ n) (h2 : n ≤ 40) (w : World) :
    Calls Tryd.prog 27 #[.int .i64 (n : Int)] w (NewQ n w) := by
  obtain ⟨i0, hi, hz0, hz1, hz2⟩ := info_parts info3q
  have e1 : decide ((n : Int) < 1) = false := by simp; omega
  have e2 : decide ((n : Int) > 40) = false := by simp; omega
  go_enter Tryd.func27, Tryd.ntmps27
  go_wp2_with (at_make; refine wpList_make_full _ rfl _ _ 37 rfl w.heap.size 3 i0 (.int .i64 0) 1 Tryd.underlying37 hi hz0 hz1 .i64 .i64 _ _ n rfl rfl rfl rfl (by rw [hz2]; omega) (by unfold maxLen; omega) (Nat.le_refl _) ?_; intro w1 hown1 hgrow1; have hb1 := Lib.hid (ownsRow_blk hown1); have hB1 : Below w.heap.size w w1 := (Below.refl _ _).grown hgrow1 (Nat.le_refl _) (fun k e => by cases e); clear hgrow1 hown1)
  go_ret2
  refine ⟨w1.heap.size, w.heap.size, rfl, ⟨?_, ?_, by have := hb1.out.lt; omega⟩, hB1.size, Nat.le_refl _, hB1.alloc hB1.size _⟩
  · have := Blk.new w1 89 (QSt.cells w.heap.size (QSt.new n))
    simpa [QSt.cells, QSt.new] using this
  · have := hb1.out.alloc (.cells (QSt.cells w.heap.size (QSt.new n)) 89)
    rw [show (madeCells (Value.int .i64 0).cells (n * 1)).toList = List.replicate n (Value.int .i64 0) by rw [Nat.mul_one]; exact toList_madeCells_one _ _] at this
    rw [show ((QSt.new n).ring.map (Value.int .i64)) = List.replicate n (Value.int .i64 0) by simp [QSt.new]]
    simpa [QSt.cells, QSt.new] using this
def QSt.Without (q : QSt) (x : Int) (q' : QSt) : Prop := q'.Ok ∧ q'.ring.length = q.ring.length ∧ (q.list.Nodup → q'.list = q.list.filter fun y => decide (y ≠ x))
theorem qremove_no (q : QSt) (B R : Nat) (hq : q.Ok) (x : Int) (hx : x ∉ q.list) (w : World) (h : QW w B R q) :
    Calls Tryd.prog 41 #[.pointer (some ⟨B, 0, none⟩), .int .i64 x] w fun e w' => e = .returned (.bool false) ∧ Below w.heap.size w w' := by
  have hl := qlist_any q B R hq w h
  have hb := q.list_length
  have h2 := hq.many
  have h3 := hq.most
  have HC := Lib.hid (fun (v : Value) (w' : World) (hv : ReadsInts w' v q.list) => index_any v q.list x w' hv (by omega))
  rw [idxI_miss hx] at HC
  clear h hq hb hx
  go_enter Tryd.func41, Tryd.ntmps41
  go_wp2_with (first
    | (go_at_call 51; refine hl.mono ?_; rintro e w1 ⟨va, vc, rfl, -, -, hv, hb1⟩; replace hv := Lib.hid hv)
    | (go_at_call 55; refine (HC.out _ _ hv.out).mono ?_; rintro e w' ⟨rfl, rfl⟩))
  go_ret
  exact ⟨rfl, hb1⟩
set_option maxHeartbeats 3200000 in
theorem qremove_yes (q : QSt) (B R : Nat) (hq : q.Ok) (x : Int) (hx : x ∈ q.list) (w : World) (h : QW w B R q) :
    Calls Tryd.prog 41 #[.pointer (some ⟨B, 0, none⟩), .int .i64 x] w fun e w' => e = .returned (.bool true) ∧ (∃ q', q.Without x q' ∧ QW w' B R q') ∧ Chg (fun b => b = B ∨ b = R) w w' := by
  have hl := qlist_any q B R hq w h
  have hb := q.list_length
  have h2 := hq.many
  have h3 := hq.most
  obtain ⟨i, hi1, hi2⟩ := mem_first hx
  have him : i < q.many := by rw [← hb]; exact (List.getElem?_eq_some_iff.1 hi1).1
  have HC := Lib.hid (fun (v : Value) (w' : World) (hv : ReadsInts w' v q.list) => index_any v q.list x w' hv (by omega))
  rw [idxI_hit hi1 hi2] at HC
  have HQ := Lib.hid hq
  have H := Lib.hid h
  have HI1 := Lib.hid hi1
  have HLL := Lib.hid hb
  have hRz := h.ring.lt
  have hBz := h.head.lt
  clear h hq hx hi1 hi2 hb
  go_enter Tryd.func41, Tryd.ntmps41
  go_wp2_with (first
    | (go_at_call 51; refine hl.mono ?_; rintro e w1 ⟨va, vc, rfl, hcap, hbase, hv, hb1⟩; obtain ⟨-, hvx⟩ := hv.opened; obtain ⟨vb, vo, rfl, hcells⟩ := hvx (fun e => by have := HLL.out; rw [e] at this; simp at this; omega); have hvb := hbase _ rfl; rw [HLL.out] at hcap ⊢; replace hv := Lib.hid hv; replace hcells := Lib.hid hcells; clear hbase hvx)
    | (go_at_call 55; refine (HC.out _ _ (by have := hv.out; rwa [HLL.out] at this)).mono ?_; rintro e w' ⟨rfl, rfl⟩))
  · have hqi : q.many = i + 1 := by omega
    have HM := Lib.hid ((q.moved0 i).done HQ.out (by omega))
    have hn1 := Lib.hid (show ((q.many : Int) - 1) = ((q.many - 1 : Nat) : Int) by omega)
    replace hqi := Lib.hid hqi
    obtain ⟨⟨c0, c1, c2⟩, ⟨f0, f1, f2⟩⟩ := (H.out.below hb1).cells
    go_loopw [7, 8, 21] (fun v7 v8 v21 wr => v21 = .int .i64 0 ∧ wr = w1) (fun _ _ _ _ => 0)
    case atStart => exact ⟨rfl, rfl⟩
    case round =>
      obtain ⟨rfl, rfl⟩ := hrel
      have hz : ((0 : Int) < ((q.many - (i + 1) : Nat) : Int)) = False := by have := hqi.out; simp; omega
      go_wp2
      go_ret
      refine ⟨rfl, ⟨q.cut q.ring, ⟨QSt.cut_ok HQ.out rfl, rfl, fun hd => by rw [HM.out]; exact erase_filter hd HI1.out⟩, ?_⟩, (Chg.of_below hb1).setCell (.inl (.inl rfl)) _⟩
      have H1 := H.out.below hb1
      refine ⟨?_, H1.ring.other (Ne.symm H1.ne) _ _, H1.ne⟩
      have := H1.head.set 2 (.int .i64 ((q.many : Int) - 1))
      rw [hn1.out] at this ⊢
      exact this
  · rename_i hcne
    go_loopw [7, 8, 21] (fun v7 v8 v21 wr => ∃ (k : Nat) (r : List Int), k ≤ q.many - (i + 1) ∧ v21 = .int .i64 (k : Int) ∧ q.Moved i k r ∧ QW wr B R ⟨r, q.first, q.many⟩ ∧ Chg (fun b => b = B ∨ b = R) w1 wr) (fun _ _ v21 _ => (q.many - (i + 1)) - (intOf v21).toNat)
    case atStart => exact ⟨0, q.ring, by omega, rfl, q.moved0 i, H.out.below hb1, Chg.refl _ _⟩
    case round =>
      obtain ⟨k, r, hk, rfl, hmv, hQr, hC⟩ := hrel
      have hlen := hmv.len
      by_cases hlt : k < q.many - (i + 1)
      · have hlt' : (k : Int) < ((q.many - (i + 1) : Nat) : Int) := by omega
        have hqk : (QSt.mk r q.first q.many).Ok := ⟨(by show 1 ≤ r.length; have := HQ.out.pos; omega), (by show r.length ≤ 40; omega), (by show q.first < r.length; have := HQ.out.first; omega), (by show q.many ≤ r.length; omega)⟩
        have hat : (QSt.mk r q.first q.many).at (i + k) = q.at (i + k) := by simp [QSt.at, hlen]
        have HA := Lib.hid (fun (w' : World) h' => qat_any ⟨r, q.first, q.many⟩ B R (i + k) hqk (by omega) w' h')
        rw [hat] at HA
        have hatl := q.at_lt HQ.out (i + k)
        have hatl' : ((q.at (i + k) : Nat) : Int) < (r.length : Int) := by omega
        have hcell : wr.cell? ⟨vb, vo + (i + 1) + k, none⟩ = some (.int .i64 (q.item (i + k + 1))) := by
          have h0 := hcells.out (i + 1 + k) (by rw [HLL.out]; omega)
          have h1 : q.list[i + 1 + k]'(by rw [HLL.out]; omega) = q.item (i + k + 1) := by
            have := q.list_get (i + 1 + k) (by omega)
            rw [List.getElem?_eq_getElem (by rw [HLL.out]; omega)] at this
            rw [Option.some.inj this]; congr 1; omega
          rw [h1, ← Nat.add_assoc] at h0
          exact (hC.keep h0 (fun e => by rcases e with e | e <;> (simp at e; omega)))
        have hold : wr.cell? ⟨R, q.at (i + k), none⟩ = some (.int .i64 ((QSt.mk r q.first q.many).item (i + k))) := by rw [← hat]; exact hQr.item hqk (i + k)
        have hfro := hQr.ring.frozen (q.at (i + k))
        obtain ⟨⟨c0, c1, c2⟩, ⟨f0, f1, f2⟩⟩ := hQr.cells
        have hMN := Lib.hid (hmv.next HQ.out (by omega))
        replace hQr := Lib.hid hQr
        replace hmv := Lib.hid hmv
        replace hat := Lib.hid hat
        replace hlen := Lib.hid hlen
        clear hqk
        go_wp2
        refine wp_region_seq (fun _ => False) #[⟨0, 0, 67108864, 1, 0⟩, ⟨1, 1, 134217728, 67108864, 0⟩, ⟨2, 3, 268435456, 134217728, 0⟩, ⟨4, 7, 536870912, 268435456, 1⟩, ⟨0, 0, 1073741824, 1, 0⟩, ⟨0, 0, 2147483648, 64, 0⟩, ⟨0, 0, 4294967296, 128, 0⟩, ⟨96, 96, 8589934592, 6442450944, 0⟩, ⟨144, 240, 17179869184, 9663676416, 2⟩, ⟨0, 0, 34359738368, 256, 0⟩, ⟨1023, 1023, 68719476736, 17716740096, 0⟩, ⟨2047, 2047, 0, 103079215104, 3⟩] 8 [(0, 0), (1, 0), (2, 0), (3, 1), (4, 0), (5, 0), (6, 0), (7, 0), (9, 0), (8, 2), (10, 0), (11, 3)] (by kernel_rfl) (by kernel_rfl) (by kernel_rfl) (by kernel_rfl) (by kernel_rfl) (by kernel_rfl) (fun c a d v w h => by cases d <;> exact h) ?_
        refine zqC ?_; refine zqC ?_; refine zqC ?_
        refine zq1 Tryd.underlying37 ?_
        try refine zqP ?_; refine zqC ?_; refine zqC ?_; refine zqC ?_; refine zqC ?_; refine zqC ?_
        refine zqD fun K hK => ?_; go_wp2_with (go_at_call 43; refine (HA.out _ (hQr.out.below (by go_grown))).mono ?_; rintro e w' ⟨rfl, rfl⟩); refine hkA hK (h := ?_); clear hK K
        try refine zqP ?_; refine zqC ?_
        refine zqE fun K hK => ?_; go_wp2_with (fail); refine hK.out _ _ ?_; clear hK K
        try refine zqP ?_
        refine seq_nil ?_
        go_wp2
        go_roundw
        case rel =>
          refine ⟨k + 1, _, by omega, by go_num, hMN.out, ⟨?_, ?_, hQr.out.ne⟩, ((hC.setCell (.inl (.inr rfl)) _).drew).drew⟩
          · have := (hQr.out.head.other hQr.out.ne (q.at (i + k)) (.int .i64 (q.item (i + k + 1)))).drew.drew
            simpa [QSt.cells] using this
          · have := (hQr.out.ring.set (q.at (i + k)) (.int .i64 (q.item (i + k + 1)))).drew.drew
            simpa using this
        case measure => simp [intOf]; omega
      · obtain rfl : k = q.many - (i + 1) := by omega
        have HM := Lib.hid (hmv.done HQ.out (by omega))
        have hn1 := Lib.hid (show ((q.many : Int) - 1) = ((q.many - 1 : Nat) : Int) by omega)
        obtain ⟨⟨c0, c1, c2⟩, ⟨f0, f1, f2⟩⟩ := hQr.cells
        replace hQr := Lib.hid hQr
        replace hmv := Lib.hid hmv
        replace hlen := Lib.hid hlen
        go_wp2
        go_ret
        refine ⟨rfl, ⟨q.cut r, ⟨QSt.cut_ok HQ.out hlen.out, hlen.out, fun hd => by rw [HM.out]; exact erase_filter hd HI1.out⟩, ?_⟩, ((Chg.of_below hb1).trans hC).setCell (.inl (.inl rfl)) _⟩
        refine ⟨?_, hQr.out.ring.other (Ne.symm hQr.out.ne) _ _, hQr.out.ne⟩
        have := hQr.out.head.set 2 (.int .i64 ((q.many : Int) - 1))
        rw [hn1.out] at this ⊢
        exact this
end Go.Proofs.YtolhmibejhldkaaDoor

namespace Go.Proofs.YtolhmibejhldkaaDoor
open Go.RowKit Go.Proofs
attribute [local go_sem] Oper.semAt_some wide_depth round_depth wide_fn round_fn
theorem qall_any (B : Nat) (w : World) :
    Calls Tryd.prog 36 #[.pointer (some ⟨B, 0, none⟩)] w fun e w' => e = .returned (.func (.func 52) #[] #[.pointer (some ⟨w.heap.size, 0, none⟩)]) ∧ w.alloc (.cells #[.pointer (some ⟨B, 0, none⟩)] 59) = w' := by
  have hmf : ∀ (fn : Fn) (first cap : Array Value) (w : World), (Instr.makeFunc fn first cap).run Tryd.prog w = .ok (.func fn first cap) w := fun _ _ _ _ => rfl
  go_enter Tryd.func36, Tryd.ntmps36
  go_wp2
  go_ret
  exact ⟨rfl, rfl⟩
theorem enters_qall (args : Array Value) (w : World) : (callFunc 52 args).run Tryd.prog w = .ok (.enter 52 args) w :=
  enters_of Tryd.func52 (by kernel_rfl) rfl args w
theorem grown_of_below {w w' : World} (h : Below w.heap.size w w') : w.grownBy w' none := ⟨h.os, h.tape, h.output, h.size, fun k hk _ => h.block k hk⟩
set_option maxRecDepth 100000 in
set_option maxHeartbeats 1600000 in
theorem qall1_gives (q : QSt) (B R Bc : Nat) (hq : q.Ok) (w : World) (hbox : w.cell? ⟨Bc, 0, none⟩ = some (.pointer (some ⟨B, 0, none⟩))) (h : QW w B R q) :
    GivesM Tryd.prog 52 #[.pointer (some ⟨Bc, 0, none⟩)] (fun i => #[.int .i64 (i : Int), .int .i64 (q.item i)]) q.many (fun b => b = Bc ∨ b = B ∨ b = R) w := by
  intro l J Jx W hW hJg hY _ M0 h0 hM0
  have hQ : QW W B R q := ⟨(hW B (by simp)).trans h.head, (hW R (by simp)).trans h.ring, h.ne⟩
  have cb : W.cell? ⟨Bc, 0, none⟩ = some (.pointer (some ⟨B, 0, none⟩)) := (hW.cell (a := ⟨Bc, 0, none⟩) (by simp)).trans hbox
  have hl := Lib.hid (qlist_any q B R hq W hQ)
  have hll := Lib.hid q.list_length
  have HG := Lib.hid hJg
  have HY := Lib.hid hY
  have HM0 := Lib.hid hM0
  have hmz : q.many ≤ 40 := Nat.le_trans hq.many hq.most
  clear h hbox hQ hq hJg hY hM0 hW
  refine callsIn_of_wp Tryd.func52 rfl trivial ?_ rfl
  simp only [Tryd.ntmps52, List.size_toArray, List.length_cons, List.length_nil, Nat.reduceAdd, Nat.reduceSub, Array.replicate_succ, Array.replicate_zero, List.push_toArray, List.append_toArray, List.nil_append, List.cons_append]
  gi_wp2_with (gi_at_call 51; refine (callsIn_wide.2 hl.out).mono ?_; rintro e w1 ⟨a, cap, rfl, hcap, hbase, hr, hb1⟩; replace hr := Lib.hid hr; replace hbase := Lib.hid hbase; rw [hll.out] at hcap ⊢)
  have HJ1 := Lib.hid (HG.out _ _ _ _ h0 (grown_of_below hb1))
  have hz1 := hb1.size
  gi_loopw [8] (fun v8 wr => ∃ (k : Nat) (M : Nat → Prop), k ≤ q.many ∧ v8 = .int .i64 (k : Int) ∧ J k M wr ∧ Moves M0 M w1 wr) (fun v8 _ => q.many - (intOf v8).toNat)
  case atStart => exact ⟨0, M0, Nat.zero_le _, rfl, HJ1.out, Moves.refl _ _⟩
  case round =>
    obtain ⟨k, M, hk, rfl, hJ, hmv⟩ := hrel
    have HMV := Lib.hid hmv
    clear hmv
    by_cases hlt : k < q.many
    · have hlt' : (k : Int) < (q.many : Int) := by omega
      obtain ⟨-, hx⟩ := hr.out.opened
      obtain ⟨b, off, rfl, hc⟩ := hx (fun e => by have := hll.out; rw [e] at this; simp at this; omega)
      have hbb : W.heap.size ≤ b := hbase.out _ rfl
      have hck := hc k (by rw [hll.out]; exact hlt)
      have hit : q.list[k]'(by rw [hll.out]; exact hlt) = q.item k := by
        have := q.list_get k hlt
        rw [List.getElem?_eq_getElem (by rw [hll.out]; exact hlt)] at this
        exact Option.some.inj this
      rw [hit] at hck
      have hbl := World.block_lt_of_cell? _ _ hck
      have hcell : wr.cell? ⟨b, off + k, none⟩ = some (.int .i64 (q.item k)) := (World.cell?_of_block (a := ⟨b, off + k, none⟩) (HMV.out.same b hbl (fun e => by have := (HM0.out b e).1; omega))).trans hck
      clear hc hck hx hit
      obtain ⟨fn, tmps, assign, body, hy, hR⟩ := HY.out k M wr hlt hJ
      gi_wp2
      refine hR.mono ?_
      rintro e W' (⟨rfl, M', hJ', hB'⟩ | ⟨rfl, hx⟩)
      · have HMV2 := Lib.hid (HMV.out.trans hB')
        clear hB'
        gi_wp2
        go_roundw
        case rel => exact ⟨k + 1, M', by omega, by go_num, hJ', HMV2.out⟩
        case measure => simp [intOf]; omega
      · gi_wp2
        refine bodyPost_ret (results_none rfl _ _ _) rfl ?_
        exact ⟨⟨_, rfl⟩, .inr hx⟩
    · obtain rfl : k = q.many := by omega
      gi_wp2
      go_end0
      exact ⟨⟨_, rfl⟩, .inl ⟨M, hJ⟩⟩
theorem ownsRow_not_mark {w : World} {base : Nat} {e : TypeId} {size n D : Nat} {v : Value} {xs : List Value} (h : w.ownsRow base e size v n xs) (hD : w.heap[D]? = some (.deferred (some []))) : some D ≠ v.ownBlock := by
  rcases h.2 with ⟨rfl, _⟩ | ⟨g, cap, cur, rfl, _, hg, _⟩
  · simp [Value.ownBlock]
  · intro e'
    obtain rfl : D = g := by simpa [Value.ownBlock] using e'
    rw [hD] at hg; cases hg
end Go.Proofs.YtolhmibejhldkaaDoor

namespace Go.Proofs.YtolhmibejhldkaaDoor
open Go.RowKit Go.Proofs
def QL (w : World) (B R n : Nat) (xs : List Int) : Prop := ∃ q : QSt, q.Ok ∧ q.ring.length = n ∧ q.list = xs ∧ QW w B R q
theorem QL.lt {w : World} {B R n : Nat} {xs : List Int} (h : QL w B R n xs) : B < w.heap.size ∧ R < w.heap.size ∧ B ≠ R := by
  obtain ⟨q, _, _, _, h⟩ := h; exact ⟨h.head.lt, h.ring.lt, h.ne⟩
theorem QL.len {w : World} {B R n : Nat} {xs : List Int} (h : QL w B R n xs) : xs.length ≤ n ∧ 1 ≤ n ∧ n ≤ 40 := by
  obtain ⟨q, h1, rfl, rfl, _⟩ := h; rw [q.list_length]; exact ⟨h1.many, h1.pos, h1.most⟩
theorem QL.below {w w' : World} {B R n : Nat} {xs : List Int} (h : QL w B R n xs) (hb : Below w.heap.size w w') : QL w' B R n xs := by
  obtain ⟨q, h1, h2, h3, h⟩ := h; exact ⟨q, h1, h2, h3, h.below hb⟩
theorem QL.below' {m : Nat} {w w' : World} {B R n : Nat} {xs : List Int} (h : QL w B R n xs) (hb : Below m w w') (hB : B < m) (hR : R < m) : QL w' B R n xs := by
  obtain ⟨q, h1, h2, h3, h⟩ := h; exact ⟨q, h1, h2, h3, h.below' hb hB hR⟩
theorem QL.chg {X : Nat → Prop} {w w' : World} {B R n : Nat} {xs : List Int} (h : QL w B R n xs) (hb : Chg X w w') (hB : ¬ X B) (hR : ¬ X R) : QL w' B R n xs := by
  obtain ⟨q, h1, h2, h3, h⟩ := h; exact ⟨q, h1, h2, h3, h.chg hb hB hR⟩
def pushN (n : Nat) (xs : List Int) (x : Int) : Nat := if x ∈ xs then 16 else if xs.length < n then 0 else 2
def pushL (n : Nat) (xs : List Int) (x : Int) : List Int := if pushN n xs x = 0 then xs ++ [x] else xs
theorem push_any (B R n : Nat) (xs : List Int) (x : Int) (E : Nat → Addr) (w : World) (h : QL w B R n xs) (he : EC w E [1, 2, 16]) :
    Calls Tryd.prog 29 #[.pointer (some ⟨B, 0, none⟩), .int .i64 x] w fun e w' => e = .returned (errN E (pushN n xs x)) ∧ QL w' B R n (pushL n xs x) ∧ Chg (fun b => b = B ∨ b = R) w w' := by
  obtain ⟨q, h1, rfl, rfl, h⟩ := h
  unfold pushL pushN
  by_cases hx : x ∈ q.list
  · simp only [if_pos hx]
    exact (qpush_dup q B R h1 x E hx w h he).mono fun e w' ⟨a, b⟩ => ⟨a, ⟨q, h1, rfl, rfl, h.below b⟩, Chg.of_below b⟩
  · simp only [if_neg hx]
    by_cases hm : q.many < q.ring.length
    · simp only [q.list_length, if_pos hm]
      exact (qpush_ok q B R h1 x hx hm w h).mono fun e w' ⟨a, b, c⟩ => ⟨a, ⟨_, q.push_ok h1 hm x, by simp [QSt.push], q.push_list h1 hm x, b⟩, c⟩
    · simp only [q.list_length, if_neg hm]
      exact (qpush_full q B R h1 x E hx (by have := h1.many; omega) w h he).mono fun e w' ⟨a, b⟩ => ⟨a, ⟨q, h1, rfl, rfl, h.below b⟩, Chg.of_below b⟩
theorem head_any (B R n : Nat) (xs : List Int) (w : World) (h : QL w B R n xs) :
    Calls Tryd.prog 48 #[.pointer (some ⟨B, 0, none⟩)] w fun e w' => e = .returned (headV xs) ∧ Below w.heap.size w w' := by
  obtain ⟨q, h1, rfl, rfl, h⟩ := h
  exact qhead_any q B R h1 w h
theorem has_any (B R n : Nat) (xs : List Int) (x : Int) (w : World) (h : QL w B R n xs) :
    Calls Tryd.prog 35 #[.pointer (some ⟨B, 0, none⟩), .int .i64 x] w fun e w' => e = .returned (.bool (decide (x ∈ xs))) ∧ Below w.heap.size w w' := by
  obtain ⟨q, h1, rfl, rfl, h⟩ := h
  exact qhas_any q B R h1 x w h
def cutL (xs : List Int) (x : Int) : List Int := xs.filter fun y => decide (y ≠ x)
theorem cutL_nodup {xs : List Int} (h : xs.Nodup) (x : Int) : (cutL xs x).Nodup := h.filter _
theorem remove_any (B R n : Nat) (xs : List Int) (x : Int) (hd : xs.Nodup) (w : World) (h : QL w B R n xs) :
    Calls Tryd.prog 41 #[.pointer (some ⟨B, 0, none⟩), .int .i64 x] w fun e w' => e = .returned (.bool (decide (x ∈ xs))) ∧ QL w' B R n (cutL xs x) ∧ Chg (fun b => b = B ∨ b = R) w w' := by
  obtain ⟨q, h1, rfl, rfl, h⟩ := h
  by_cases hx : x ∈ q.list
  · rw [decide_eq_true hx]
    exact (qremove_yes q B R h1 x hx w h).mono fun e w' ⟨a, ⟨q', ⟨k1, k2, k3⟩, k4⟩, c⟩ => ⟨a, ⟨q', k1, k2, k3 hd, k4⟩, c⟩
  · rw [decide_eq_false hx]
    exact (qremove_no q B R h1 x hx w h).mono fun e w' ⟨a, b⟩ => ⟨a, ⟨q, h1, rfl, (filter_miss hx).symm, h.below b⟩, Chg.of_below b⟩
def NewL (n : Nat) (w : World) (e : Ending) (w' : World) : Prop := ∃ B R, e = .returned (.tuple #[.pointer (some ⟨B, 0, none⟩), .nilIface]) ∧ QL w' B R n [] ∧ w.heap.size ≤ B ∧ w.heap.size ≤ R ∧ Below w.heap.size w w'
theorem new_any (n : Nat) (h1 : 1 ≤ n) (h2 : n ≤ 40) (w : World) : Calls Tryd.prog 27 #[.int .i64 (n : Int)] w (NewL n w) :=
  (qnew_ok n h1 h2 w).mono fun e w' ⟨B, R, a, b, c⟩ => ⟨B, R, a, ⟨_, QSt.new_ok h1 h2, by simp [QSt.new], rfl, b⟩, c⟩
end Go.Proofs.YtolhmibejhldkaaDoor
