/- The queue as a list: what each call does to it. Condition: the errors' cells. -/
import Derived.Test.YtaegjdkmnkjggaaDoorQueueAll
namespace Go.Proofs.YtaegjdkmnkjggaaDoor
set_option linter.unusedVariables false
set_option linter.unusedSimpArgs false
open Go.RowKit Go.Proofs

/-- blocks B and R hold a queue of room n in which just xs wait -/
def QL (w : World) (B R n : Nat) (xs : List Int) : Prop := ∃ q : QSt, q.Ok ∧ q.ring.length = n ∧ q.list = xs ∧ QW w B R q
theorem QL.lt {w : World} {B R n : Nat} {xs : List Int} (h : QL w B R n xs) : B < w.heap.size ∧ R < w.heap.size ∧ B ≠ R := by
  obtain ⟨q, _, _, _, h⟩ := h; exact ⟨h.head.lt, h.ring.lt, h.ne⟩
theorem QL.len {w : World} {B R n : Nat} {xs : List Int} (h : QL w B R n xs) : xs.length ≤ n ∧ 1 ≤ n ∧ n ≤ 40 := by
  obtain ⟨q, h1, rfl, rfl, _⟩ := h; rw [q.list_length]; exact ⟨h1.many, h1.pos, h1.most⟩
theorem QL.below {w w' : World} {B R n : Nat} {xs : List Int} (h : QL w B R n xs) (hb : Below w.heap.size w w') : QL w' B R n xs := by
  obtain ⟨q, h1, h2, h3, h⟩ := h; exact ⟨q, h1, h2, h3, h.below hb⟩
theorem QL.below' {m : Nat} {w w' : World} {B R n : Nat} {xs : List Int} (h : QL w B R n xs) (hb : Below m w w') (hB : B < m) (hR : R < m) : QL w' B R n xs := by
  obtain ⟨q, h1, h2, h3, h⟩ := h; exact ⟨q, h1, h2, h3, h.below' hb hB hR⟩
theorem QL.chg {X : Nat → Prop} {w w' : World} {B R n : Nat} {xs : List Int} (h : QL w B R n xs) (hb : Chg X w w') (hB : ¬ X B) (hR : ¬ X R) : QL w' B R n xs := by
  obtain ⟨q, h1, h2, h3, h⟩ := h; exact ⟨q, h1, h2, h3, h.chg hb hB hR⟩
def errN (E : Nat → Addr) (k : Nat) : Value := if k = 0 then .nilIface else errAt E k
def pushN (n : Nat) (xs : List Int) (x : Int) : Nat := if x ∈ xs then 16 else if xs.length < n then 0 else 2
def pushL (n : Nat) (xs : List Int) (x : Int) : List Int := if pushN n xs x = 0 then xs ++ [x] else xs
theorem push_any (B R n : Nat) (xs : List Int) (x : Int) (E : Nat → Addr) (w : World) (h : QL w B R n xs) (he : EC w E [1, 2, 16]) :
    Calls Tryd.prog 17 #[.pointer (some ⟨B, 0, none⟩), .int .i64 x] w fun e w' => e = .returned (errN E (pushN n xs x)) ∧ QL w' B R n (pushL n xs x) ∧ Chg (fun b => b = B ∨ b = R) w w' := by
  obtain ⟨q, h1, rfl, rfl, h⟩ := h
  unfold pushL pushN
  by_cases hx : x ∈ q.list
  · simp only [if_pos hx]
    exact (qpush_dup q B R h1 x E hx w h he).mono fun e w' ⟨a, b⟩ => ⟨a, ⟨q, h1, rfl, rfl, h.below b⟩, Chg.of_below b⟩
  · simp only [if_neg hx]
    by_cases hm : q.many < q.ring.length
    · simp only [q.list_length, if_pos hm]
      exact (qpush_ok q B R h1 x hx hm w h).mono fun e w' ⟨a, b, c⟩ => ⟨a, ⟨_, q.push_ok h1 hm x, by simp [QSt.push], q.push_list h1 hm x, b⟩, c⟩
    · simp only [q.list_length, if_neg hm]
      exact (qpush_full q B R h1 x E hx (by have := h1.many; omega) w h he).mono fun e w' ⟨a, b⟩ => ⟨a, ⟨q, h1, rfl, rfl, h.below b⟩, Chg.of_below b⟩
theorem pop_any (B R n : Nat) (xs : List Int) (w : World) (h : QL w B R n xs) :
    Calls Tryd.prog 21 #[.pointer (some ⟨B, 0, none⟩)] w fun e w' => e = .returned (headV xs) ∧ QL w' B R n xs.tail ∧ Chg (fun b => b = B ∨ b = R) w w' := by
  obtain ⟨q, h1, rfl, rfl, h⟩ := h
  exact (qpop_any q B R h1 w h).mono fun e w' ⟨a, b, c⟩ => ⟨a, ⟨_, q.next_ok h1, by unfold QSt.next; split <;> rfl, q.next_list h1, b⟩, c⟩
theorem head_any (B R n : Nat) (xs : List Int) (w : World) (h : QL w B R n xs) :
    Calls Tryd.prog 28 #[.pointer (some ⟨B, 0, none⟩)] w fun e w' => e = .returned (headV xs) ∧ Below w.heap.size w w' := by
  obtain ⟨q, h1, rfl, rfl, h⟩ := h
  exact qhead_any q B R h1 w h
theorem has_any (B R n : Nat) (xs : List Int) (x : Int) (w : World) (h : QL w B R n xs) :
    Calls Tryd.prog 29 #[.pointer (some ⟨B, 0, none⟩), .int .i64 x] w fun e w' => e = .returned (.bool (decide (x ∈ xs))) ∧ Below w.heap.size w w' := by
  obtain ⟨q, h1, rfl, rfl, h⟩ := h
  exact qhas_any q B R h1 x w h
theorem len_any (B R n : Nat) (xs : List Int) (w : World) (h : QL w B R n xs) :
    Calls Tryd.prog 22 #[.pointer (some ⟨B, 0, none⟩)] w fun e w' => e = .returned (.int .i64 (xs.length : Int)) ∧ w = w' := by
  obtain ⟨q, h1, rfl, rfl, h⟩ := h
  rw [q.list_length]
  exact qlen_any q B R w h
theorem clear_any (B R n : Nat) (xs : List Int) (w : World) (h : QL w B R n xs) :
    Calls Tryd.prog 27 #[.pointer (some ⟨B, 0, none⟩)] w fun e w' => e = .returned (.tuple #[]) ∧ QL w' B R n [] ∧ Chg (fun b => b = B ∨ b = R) w w' := by
  obtain ⟨q, h1, rfl, rfl, h⟩ := h
  exact (qclear_any q B R w h).mono fun e w' ⟨a, b, c⟩ => ⟨a, ⟨_, q.clear_ok h1, rfl, rfl, b⟩, c⟩
/-- a list without a number -/
def cutL (xs : List Int) (x : Int) : List Int := xs.filter fun y => decide (y ≠ x)
theorem cutL_nodup {xs : List Int} (h : xs.Nodup) (x : Int) : (cutL xs x).Nodup := h.filter _
theorem pushL_nodup {n : Nat} {xs : List Int} (h : xs.Nodup) (x : Int) : (pushL n xs x).Nodup := by
  unfold pushL
  split
  · rename_i hp
    refine nodup_snoc h fun hx => ?_
    unfold pushN at hp
    rw [if_pos hx] at hp; cases hp
  · exact h
theorem remove_any (B R n : Nat) (xs : List Int) (x : Int) (hd : xs.Nodup) (w : World) (h : QL w B R n xs) :
    Calls Tryd.prog 18 #[.pointer (some ⟨B, 0, none⟩), .int .i64 x] w fun e w' => e = .returned (.bool (decide (x ∈ xs))) ∧ QL w' B R n (cutL xs x) ∧ Chg (fun b => b = B ∨ b = R) w w' := by
  obtain ⟨q, h1, rfl, rfl, h⟩ := h
  by_cases hx : x ∈ q.list
  · rw [decide_eq_true hx]
    exact (qremove_yes q B R h1 x hx w h).mono fun e w' ⟨a, ⟨q', ⟨k1, k2, k3⟩, k4⟩, c⟩ => ⟨a, ⟨q', k1, k2, k3 hd, k4⟩, c⟩
  · rw [decide_eq_false hx]
    exact (qremove_no q B R h1 x hx w h).mono fun e w' ⟨a, b⟩ => ⟨a, ⟨q, h1, rfl, (filter_miss hx).symm, h.below b⟩, Chg.of_below b⟩
theorem all_any18 (B R n : Nat) (xs : List Int) (w : World) (h : QL w B R n xs) :
    Calls Tryd.prog 19 #[.pointer (some ⟨B, 0, none⟩)] w (AllL xs w) := by
  obtain ⟨q, h1, rfl, rfl, h⟩ := h
  exact lawAll_any q B R h1 w h
/-- a queue, newly made -/
def NewL (n : Nat) (w : World) (e : Ending) (w' : World) : Prop := ∃ B R, e = .returned (.tuple #[.pointer (some ⟨B, 0, none⟩), .nilIface]) ∧ QL w' B R n [] ∧ w.heap.size ≤ B ∧ w.heap.size ≤ R ∧ Below w.heap.size w w'
theorem new_any (n : Nat) (h1 : 1 ≤ n) (h2 : n ≤ 40) (w : World) : Calls Tryd.prog 15 #[.int .i64 (n : Int)] w (NewL n w) :=
  (qnew_ok n h1 h2 w).mono fun e w' ⟨B, R, a, b, c⟩ => ⟨B, R, a, ⟨_, QSt.new_ok h1 h2, by simp [QSt.new], rfl, b⟩, c⟩

set_option maxRecDepth 100000 in
set_option maxHeartbeats 4000000 in
theorem alive18_any (E : Nat → Addr) (w : World) (he : EC w E [1, 2, 16]) :
    Calls Tryd.prog 14 #[] w fun e w' => e = .returned (.bool true) ∧ Below w.heap.size w w' := by
  have HE := Lib.hid he
  clear he
  have p1 := Lib.hid (show errN E (pushN 3 [] 3) = .nilIface from rfl)
  have p2 := Lib.hid (show errN E (pushN 3 [3] 1) = .nilIface from rfl)
  have p3 := Lib.hid (show errN E (pushN 3 [3, 1] 2) = .nilIface from rfl)
  have p4 := Lib.hid (show decide ((1 : Int) ∈ ([3, 1, 2] : List Int)) = true from rfl)
  go_enter Tryd.func14, Tryd.ntmps14
  go_wp2_with (first
    | (go_at_call 15; refine (new_any 3 (by decide) (by decide) _).mono ?_; rintro e w0 ⟨B, R, rfl, h, hB, hR, hb0⟩; have hq0 := Lib.hid h; clear h)
    | (go_at_call 17; refine (push_any B R 3 [3, 1] 2 E _ hq2.out (HE.out.below hb2)).mono ?_; rw [p3.out]; rintro e w3 ⟨rfl, h, hc⟩; have hb3 := hb2.trans (hc.below hb2.size (fun k hk e => by omega)); have hq3 := Lib.hid (show QL w3 B R 3 [3, 1, 2] from h); clear h hc)
    | (go_at_call 17; refine (push_any B R 3 [3] 1 E _ hq1.out (HE.out.below hb1)).mono ?_; rw [p2.out]; rintro e w2 ⟨rfl, h, hc⟩; have hb2 := hb1.trans (hc.below hb1.size (fun k hk e => by omega)); have hq2 := Lib.hid (show QL w2 B R 3 [3, 1] from h); clear h hc)
    | (go_at_call 17; refine (push_any B R 3 [] 3 E _ hq0.out (HE.out.below hb0)).mono ?_; rw [p1.out]; rintro e w1 ⟨rfl, h, hc⟩; have hb1 := hb0.trans (hc.below hb0.size (fun k hk e => by omega)); have hq1 := Lib.hid (show QL w1 B R 3 [3] from h); clear h hc)
    | (go_at_call 18; refine (remove_any B R 3 [3, 1, 2] 1 (by decide) _ hq3.out).mono ?_; rw [p4.out]; rintro e w4 ⟨rfl, h, hc⟩; have hb4 := hb3.trans (hc.below hb3.size (fun k hk e => by omega)); have hq4 := Lib.hid (show QL w4 B R 3 [3, 2] from h); clear h hc)
    | (go_at_call 19; refine (all_any18 B R 3 [3, 2] _ hq4.out).mono ?_; rintro e w5 ⟨v, rfl, hr, hb5⟩; replace hr := Lib.hid hr)
    | (go_at_call 20; refine (sameInts_any _ _ [3, 2] [3, 2] _ (hr.out.later (by go_grown)) (readsInts_blk (B := w5.heap.size) (xs := [3, 2]) (Blk.new _ _ _) rfl) (by decide)).mono ?_; rintro e w' ⟨rfl, rfl⟩))
  go_ret
  exact ⟨rfl, Below.trans (hb4.trans (hb5.mono hb4.size)) (by have := hb4.size; have := hb5.size; exact (Below.refl _ _).alloc (by omega) _)⟩
end Go.Proofs.YtaegjdkmnkjggaaDoor
