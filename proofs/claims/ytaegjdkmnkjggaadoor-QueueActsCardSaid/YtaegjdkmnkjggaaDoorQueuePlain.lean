/- A ring that is a list. No condition. -/
import Derived.Lib.Hide
namespace Go.Proofs.YtaegjdkmnkjggaaDoor
set_option linter.unusedVariables false
set_option linter.unusedSimpArgs false

/-- what a queue holds -/
structure QSt where
  ring : List Int
  first : Nat
  many : Nat
def QSt.at (q : QSt) (i : Nat) : Nat := (q.first + i) % q.ring.length
def QSt.item (q : QSt) (i : Nat) : Int := q.ring.getD (q.at i) 0
def QSt.list (q : QSt) : List Int := (List.range q.many).map q.item
structure QSt.Ok (q : QSt) : Prop where
  pos : 1 ≤ q.ring.length
  most : q.ring.length ≤ 40
  first : q.first < q.ring.length
  many : q.many ≤ q.ring.length
theorem QSt.at_lt {q : QSt} (h : q.Ok) (i : Nat) : q.at i < q.ring.length := Nat.mod_lt _ (by have := h.pos; omega)
theorem QSt.list_length (q : QSt) : q.list.length = q.many := by simp [QSt.list]
theorem QSt.list_get (q : QSt) (i : Nat) (h : i < q.many) : q.list[i]? = some (q.item i) := by simp [QSt.list, h]
theorem mod_two {a n : Nat} (h : a < 2 * n) : a % n = if a < n then a else a - n := by
  split
  · exact Nat.mod_eq_of_lt ‹_›
  · rw [Nat.mod_eq_sub_mod (by omega), Nat.mod_eq_of_lt (by omega)]
theorem QSt.at_eq {q : QSt} (h : q.Ok) {i : Nat} (hi : i < q.ring.length) : q.at i = if q.first + i < q.ring.length then q.first + i else q.first + i - q.ring.length := mod_two (by have := h.first; omega)
theorem QSt.at_ne {q : QSt} (h : q.Ok) {i j : Nat} (hi : i < q.ring.length) (hj : j < q.ring.length) (hne : i ≠ j) : q.at i ≠ q.at j := by
  have := h.first
  rw [q.at_eq h hi, q.at_eq h hj]
  split <;> split <;> omega
theorem getD_set (l : List Int) (i j : Nat) (x : Int) (hi : i < l.length) : (l.set i x).getD j 0 = if j = i then x else l.getD j 0 := by
  simp only [List.getD_eq_getElem?_getD, List.getElem?_set]
  by_cases h : i = j
  · subst h; simp [hi]
  · rw [if_neg h, if_neg (fun e => h e.symm)]

def QSt.push (q : QSt) (id : Int) : QSt := ⟨q.ring.set (q.at q.many) id, q.first, q.many + 1⟩
theorem QSt.push_ok {q : QSt} (h : q.Ok) (hm : q.many < q.ring.length) (id : Int) : (q.push id).Ok := by
  have := h.pos; have := h.most; have := h.first
  constructor <;> simp [QSt.push] <;> omega
theorem QSt.push_list {q : QSt} (h : q.Ok) (hm : q.many < q.ring.length) (id : Int) : (q.push id).list = q.list ++ [id] := by
  have hat : ∀ j, (q.push id).at j = q.at j := fun j => by simp [QSt.at, QSt.push]
  show (List.range (q.many + 1)).map (q.push id).item = _
  rw [List.range_succ, List.map_append]
  congr 1
  · apply List.map_congr_left
    intro j hj
    have hj' : j < q.many := by simpa using hj
    show (q.ring.set (q.at q.many) id).getD ((q.push id).at j) 0 = _
    rw [hat, getD_set _ _ _ _ (q.at_lt h _), if_neg (q.at_ne h (by omega) (by omega) (by omega))]
    rfl
  · show [(q.ring.set (q.at q.many) id).getD ((q.push id).at q.many) 0] = _
    rw [hat, getD_set _ _ _ _ (q.at_lt h _), if_pos rfl]
theorem QSt.item0 {q : QSt} (h : q.Ok) : q.at 0 = q.first := Nat.mod_eq_of_lt h.first
def QSt.pop (q : QSt) : QSt := ⟨q.ring, q.at 1, q.many - 1⟩
theorem QSt.pop_ok {q : QSt} (h : q.Ok) : q.pop.Ok := by
  have := h.pos; have := h.most; have := h.many; have := q.at_lt h 1
  constructor <;> simp [QSt.pop] <;> omega
theorem QSt.pop_list {q : QSt} (h : q.Ok) (hm : 0 < q.many) : q.list = q.item 0 :: q.pop.list := by
  have hmm := h.many
  have hit : ∀ j, j + 1 < q.ring.length → q.pop.item j = q.item (j + 1) := fun j hj => by
    have : q.pop.at j = q.at (j + 1) := by
      show ((q.first + 1) % q.ring.length + j) % q.ring.length = (q.first + (j + 1)) % q.ring.length
      rw [Nat.mod_add_mod]; congr 1; omega
    show q.ring.getD (q.pop.at j) 0 = q.ring.getD (q.at (j + 1)) 0
    rw [this]
  apply List.ext_getElem?
  intro j
  cases j with
  | zero => rw [q.list_get 0 hm]; rfl
  | succ j =>
    rw [List.getElem?_cons_succ]
    by_cases hj : j + 1 < q.many
    · rw [q.list_get _ hj, q.pop.list_get j (by show j < q.many - 1; omega), hit j (by omega)]
    · rw [List.getElem?_eq_none (by rw [q.list_length]; omega), List.getElem?_eq_none (by rw [q.pop.list_length]; show q.many - 1 ≤ j; omega)]
theorem QSt.list_nil {q : QSt} (hm : q.many = 0) : q.list = [] := by simp [QSt.list, hm]
def QSt.clear (q : QSt) : QSt := ⟨q.ring, 0, 0⟩
theorem QSt.clear_ok {q : QSt} (h : q.Ok) : q.clear.Ok := by
  have := h.pos; have := h.most
  constructor <;> simp [QSt.clear] <;> omega
/-- a ring in which k numbers behind place i have moved -/
structure QSt.Moved (q : QSt) (i k : Nat) (r : List Int) : Prop where
  len : r.length = q.ring.length
  get : ∀ j, j < q.many → r.getD (q.at j) 0 = if i ≤ j ∧ j < i + k then q.item (j + 1) else q.item j
theorem QSt.moved0 (q : QSt) (i : Nat) : q.Moved i 0 q.ring := ⟨rfl, fun j _ => by rw [if_neg (by omega)]; rfl⟩
theorem QSt.Moved.next {q : QSt} (h : q.Ok) {i k : Nat} {r : List Int} (hr : q.Moved i k r) (hk : i + k + 1 < q.many) : q.Moved i (k + 1) (r.set (q.at (i + k)) (q.item (i + k + 1))) := by
  have hm := h.many
  refine ⟨by simp [hr.len], fun j hj => ?_⟩
  rw [getD_set _ _ _ _ (by rw [hr.len]; exact q.at_lt h _)]
  by_cases hji : j = i + k
  · subst hji; rw [if_pos rfl, if_pos (by omega)]
  · rw [if_neg (q.at_ne h (by omega) (by omega) hji), hr.get j hj]
    by_cases hc : i ≤ j ∧ j < i + k
    · rw [if_pos hc, if_pos (by omega)]
    · rw [if_neg hc, if_neg (by omega)]
def QSt.cut (q : QSt) (r : List Int) : QSt := ⟨r, q.first, q.many - 1⟩
theorem QSt.cut_ok {q : QSt} (h : q.Ok) {r : List Int} (hr : r.length = q.ring.length) : (q.cut r).Ok := by
  have := h.pos; have := h.most; have := h.first; have := h.many
  constructor <;> simp [QSt.cut] <;> omega
theorem QSt.Moved.done {q : QSt} (h : q.Ok) {i k : Nat} {r : List Int} (hr : q.Moved i k r) (hk : i + k + 1 = q.many) : (q.cut r).list = q.list.eraseIdx i := by
  have hat : ∀ j, (q.cut r).at j = q.at j := fun j => by simp [QSt.at, QSt.cut, hr.len]
  apply List.ext_getElem?
  intro j
  rw [List.getElem?_eraseIdx]
  by_cases hj : j < q.many - 1
  · rw [(q.cut r).list_get j hj]
    show some (r.getD ((q.cut r).at j) 0) = _
    rw [hat, hr.get j (by omega)]
    by_cases hc : j < i
    · rw [if_pos hc, if_neg (by omega), q.list_get j (by omega)]
    · rw [if_neg hc, if_pos (by omega), q.list_get (j + 1) (by omega)]
  · rw [List.getElem?_eq_none (by rw [QSt.list_length]; show q.many - 1 ≤ j; omega)]
    rw [if_neg (by omega), List.getElem?_eq_none (by rw [QSt.list_length]; omega)]

/-! ### the place of a number in a list -/
def idxI : List Int → Int → Int
  | [], _ => -1
  | y :: ys, x => if y = x then 0 else if idxI ys x < 0 then -1 else idxI ys x + 1
theorem idxI_miss {xs : List Int} {x : Int} (h : x ∉ xs) : idxI xs x = -1 := by
  induction xs with
  | nil => rfl
  | cons y ys ih =>
    simp only [List.mem_cons, not_or] at h
    have := ih h.2
    simp [idxI, this, Ne.symm h.1]
theorem idxI_hit {xs : List Int} {x : Int} {k : Nat} (hg : xs[k]? = some x) (hn : x ∉ xs.take k) : idxI xs x = (k : Int) := by
  induction xs generalizing k with
  | nil => simp at hg
  | cons y ys ih =>
    cases k with
    | zero => simp at hg; simp [idxI, hg]
    | succ k =>
      simp only [List.take_succ_cons, List.mem_cons, not_or] at hn
      have := ih (k := k) (by simpa using hg) hn.2
      simp only [idxI, this]
      rw [if_neg (Ne.symm hn.1), if_neg (by omega)]
      simp
theorem mem_first {xs : List Int} {x : Int} (h : x ∈ xs) : ∃ k : Nat, xs[k]? = some x ∧ x ∉ xs.take k := by
  induction xs with
  | nil => cases h
  | cons y ys ih =>
    by_cases e : y = x
    · exact ⟨0, by simp [e], by simp⟩
    · obtain ⟨k, h1, h2⟩ := ih (by simpa [Ne.symm e] using h)
      exact ⟨k + 1, by simpa using h1, by simp [h2, Ne.symm e]⟩
theorem erase_filter {xs : List Int} {x : Int} {k : Nat} (hd : xs.Nodup) (hg : xs[k]? = some x) : xs.eraseIdx k = xs.filter (fun y => decide (y ≠ x)) := by
  induction xs generalizing k with
  | nil => simp at hg
  | cons y ys ih =>
    rw [List.nodup_cons] at hd
    cases k with
    | zero =>
      simp at hg
      subst hg
      have : ys.filter (fun z => decide (z ≠ y)) = ys := by
        rw [List.filter_eq_self]
        intro z hz
        simp only [ne_eq, decide_not, Bool.not_eq_true', decide_eq_false_iff_not]
        exact fun e => hd.1 (e ▸ hz)
      rw [List.eraseIdx_cons_zero, List.filter_cons, if_neg (by simp)]
      exact this.symm
    | succ k =>
      have hg' : ys[k]? = some x := by simpa using hg
      have hne : y ≠ x := fun e => hd.1 (e ▸ List.mem_of_getElem? hg')
      rw [List.eraseIdx_cons_succ, ih hd.2 hg', List.filter_cons, if_pos (by simpa using hne)]
theorem filter_miss {xs : List Int} {x : Int} (h : x ∉ xs) : xs.filter (fun y => decide (y ≠ x)) = xs := by
  rw [List.filter_eq_self]
  intro z hz
  simp only [ne_eq, decide_not, Bool.not_eq_true', decide_eq_false_iff_not]
  exact fun e => h (e ▸ hz)
theorem nodup_snoc {xs : List Int} {x : Int} (h : xs.Nodup) (hx : x ∉ xs) : (xs ++ [x]).Nodup := by
  rw [List.nodup_append]
  exact ⟨h, by simp, fun a ha b hb e => hx (by simp at hb; subst hb; exact e ▸ ha)⟩
end Go.Proofs.YtaegjdkmnkjggaaDoor
