/- What amblerlaw05's act comes to, kind by kind. Condition: the errors. -/
import Derived.Test.YtaegjdkmnkjggaaDoorTrap
import Derived.Deep.DeepMakePanics
namespace Go.Proofs.YtaegjdkmnkjggaaDoor
set_option linter.unusedVariables false
set_option linter.unusedSimpArgs false
open Go.RowKit Go.Proofs

set_option maxRecDepth 100000
theorem act_4 (n : Int) (B : Nat) (w : World) (hc : w.cell? ⟨B, 0, none⟩ = some (.int .i64 1)) :
    Calls Tryd.prog 34 #[.int .i64 4, .int .i64 n, .slice (some ⟨B, 0, none⟩) 1 1] w fun e w' => Broke e ∧ Below w.heap.size w w' := by
  go_enter Tryd.func34, Tryd.ntmps34
  go_wp2
  exact ⟨rfl, ⟨_, _, by decide, rfl⟩, by first | (go_grown; done) | exact (Below.refl _ _).drew | exact (Below.refl _ w).alloc (Nat.le_refl _) _⟩
theorem act_5 (n : Int) (B : Nat) (w : World) (hc : w.cell? ⟨B, 0, none⟩ = some (.int .i64 1)) :
    Calls Tryd.prog 34 #[.int .i64 5, .int .i64 n, .slice (some ⟨B, 0, none⟩) 1 1] w fun e w' => Broke e ∧ Below w.heap.size w w' := by
  go_enter Tryd.func34, Tryd.ntmps34
  go_wp2
  exact ⟨rfl, ⟨_, _, by decide, rfl⟩, by first | (go_grown; done) | exact (Below.refl _ _).drew | exact (Below.refl _ w).alloc (Nat.le_refl _) _⟩
theorem act_6 (n : Int) (B : Nat) (w : World) (hc : w.cell? ⟨B, 0, none⟩ = some (.int .i64 1)) :
    Calls Tryd.prog 34 #[.int .i64 6, .int .i64 n, .slice (some ⟨B, 0, none⟩) 1 1] w fun e w' => Broke e ∧ Below w.heap.size w w' := by
  go_enter Tryd.func34, Tryd.ntmps34
  go_wp2
  exact ⟨rfl, ⟨_, _, by decide, rfl⟩, by first | (go_grown; done) | exact (Below.refl _ _).drew | exact (Below.refl _ w).alloc (Nat.le_refl _) _⟩
theorem act_7 (n : Int) (B : Nat) (w : World) (hc : w.cell? ⟨B, 0, none⟩ = some (.int .i64 1)) :
    Calls Tryd.prog 34 #[.int .i64 7, .int .i64 n, .slice (some ⟨B, 0, none⟩) 1 1] w fun e w' => Broke e ∧ Below w.heap.size w w' := by
  go_enter Tryd.func34, Tryd.ntmps34
  go_wp2
  exact ⟨rfl, ⟨_, _, by decide, rfl⟩, by first | (go_grown; done) | exact (Below.refl _ _).drew | exact (Below.refl _ w).alloc (Nat.le_refl _) _⟩
theorem act_8 (n : Int) (B : Nat) (w : World) (hc : w.cell? ⟨B, 0, none⟩ = some (.int .i64 1)) :
    Calls Tryd.prog 34 #[.int .i64 8, .int .i64 n, .slice (some ⟨B, 0, none⟩) 1 1] w fun e w' => Broke e ∧ Below w.heap.size w w' := by
  go_enter Tryd.func34, Tryd.ntmps34
  go_wp2
  exact ⟨rfl, ⟨_, _, by decide, rfl⟩, by first | (go_grown; done) | exact (Below.refl _ _).drew | exact (Below.refl _ w).alloc (Nat.le_refl _) _⟩
theorem act_9 (n : Int) (B : Nat) (w : World) (hc : w.cell? ⟨B, 0, none⟩ = some (.int .i64 1)) :
    Calls Tryd.prog 34 #[.int .i64 9, .int .i64 n, .slice (some ⟨B, 0, none⟩) 1 1] w fun e w' => Broke e ∧ Below w.heap.size w w' := by
  go_enter Tryd.func34, Tryd.ntmps34
  go_wp2
  exact ⟨rfl, ⟨_, _, by decide, rfl⟩, by first | (go_grown; done) | exact (Below.refl _ _).drew | exact (Below.refl _ w).alloc (Nat.le_refl _) _⟩
theorem act_10 (n : Int) (B : Nat) (w : World) (hc : w.cell? ⟨B, 0, none⟩ = some (.int .i64 1)) :
    Calls Tryd.prog 34 #[.int .i64 10, .int .i64 n, .slice (some ⟨B, 0, none⟩) 1 1] w fun e w' => Broke e ∧ Below w.heap.size w w' := by
  go_enter Tryd.func34, Tryd.ntmps34
  go_wp2
  exact ⟨rfl, ⟨_, _, by decide, rfl⟩, by first | (go_grown; done) | exact (Below.refl _ _).drew | exact (Below.refl _ w).alloc (Nat.le_refl _) _⟩
theorem err_out (n : Int) (h : n < 1 ∨ 16 < n) (w : World) : Calls Tryd.prog 42 #[.int .i64 n] w fun e w' => e = .returned .nilIface ∧ w = w' := by
  by_cases h1 : n < 1
  · have e1 : decide (n < 1) = true := by simpa using h1
    clear h h1
    go_enter Tryd.func42, Tryd.ntmps42
    go_wp2
    go_ret
    exact ⟨rfl, rfl⟩
  · have e1 : decide (n < 1) = false := by simpa using h1
    have e2 : decide (n > 16) = true := by simp; omega
    clear h h1
    go_enter Tryd.func42, Tryd.ntmps42
    go_wp2
    go_ret
    exact ⟨rfl, rfl⟩
theorem err_in (n : Nat) (h1 : 1 ≤ n) (h2 : n ≤ 16) (E : Nat → Addr) (w : World) (h : ErrsAre w E) : Calls Tryd.prog 42 #[.int .i64 (n : Int)] w fun e w' => e = .returned (errAt E n) ∧ Below w.heap.size w w' := by
  have e1 : decide ((n : Int) < 1) = false := by simp; omega
  have e2 : decide ((n : Int) > 16) = false := by simp; omega
  have hall := all_any w E h
  have hb := (Blk.new w 26 (errRow E)).cell (n - 1)
  rw [errRow_get E (n - 1) (by omega), show n - 1 + 1 = n by omega] at hb
  unfold errAt at *
  obtain ⟨W, hW⟩ : ∃ W, W = w.alloc (.cells (errRow E) 26) := ⟨_, rfl⟩
  rw [← hW] at hall hb
  have hB : Below w.heap.size w W := by rw [hW]; exact (Below.refl _ _).alloc (Nat.le_refl _) _
  replace hW := Lib.hid hW
  clear h
  go_enter Tryd.func42, Tryd.ntmps42
  go_wp2_with (go_at_call 76; refine hall.mono ?_; rintro e w' ⟨rfl, rfl⟩)
  go_ret
  exact ⟨rfl, hB⟩

/-- what comes of a call: it comes back (0), raises error k, or panics in another way (10) -/
def Fate (g : Nat) (args : Array Value) (w : World) (E : Nat → Addr) (k : Nat) (Q : World → Prop) : Prop :=
  (k = 0 ∧ Calls Tryd.prog g args w fun e w' => e = .returned (.tuple #[]) ∧ Q w') ∨
  (1 ≤ k ∧ k ≤ 16 ∧ Calls Tryd.prog g args w fun e w' => e = .panicked [{ v := raisedV (errAt E k), recovered := false }] ∧ Q w') ∨
  (k = 10 ∧ Calls Tryd.prog g args w fun e w' => Broke e ∧ Q w')
/-- kind k at n -/
def ofK (k : Nat) (n : Int) : Nat := if k = 0 ∨ k = 2 then 0 else if k = 1 then (if n < 1 ∨ 16 < n then 0 else n.toNat) else 10
theorem act_0 (n : Int) (v : Value) (w : World) :
    Calls Tryd.prog 34 #[.int .i64 0, .int .i64 n, v] w fun e w' => e = .returned (.tuple #[]) ∧ Below w.heap.size w w' := by
  go_enter Tryd.func34, Tryd.ntmps34
  go_wp2
  ((try simp only [Exit.inBlock, Exit.then]); first | refine bodyPost_end (results_none rfl _ _ _) rfl ?_ | refine bodyPost_ret (results_none rfl _ _ _) rfl ?_)
  exact ⟨rfl, Below.refl _ _⟩
theorem act_2 (n : Int) (v : Value) (w : World) :
    Calls Tryd.prog 34 #[.int .i64 2, .int .i64 n, v] w fun e w' => e = .returned (.tuple #[]) ∧ Below w.heap.size w w' := by
  go_enter Tryd.func34, Tryd.ntmps34
  go_wp2_with (go_at_call 83; refine (need_yes _).mono ?_; rintro e w' ⟨rfl, rfl⟩)
  ((try simp only [Exit.inBlock, Exit.then]); first | refine bodyPost_end (results_none rfl _ _ _) rfl ?_ | refine bodyPost_ret (results_none rfl _ _ _) rfl ?_)
  exact ⟨rfl, Below.refl _ _⟩
theorem act_1out (n : Int) (h : n < 1 ∨ 16 < n) (v : Value) (w : World) :
    Calls Tryd.prog 34 #[.int .i64 1, .int .i64 n, v] w fun e w' => e = .returned (.tuple #[]) ∧ Below w.heap.size w w' := by
  have he := err_out n h
  clear h
  go_enter Tryd.func34, Tryd.ntmps34
  go_wp2_with (first
    | (go_at_call 42; refine (he _).mono ?_; rintro e w' ⟨rfl, rfl⟩)
    | (go_at_call 80; refine (raise_nil _).mono ?_; rintro e w' ⟨rfl, rfl⟩))
  ((try simp only [Exit.inBlock, Exit.then]); first | refine bodyPost_end (results_none rfl _ _ _) rfl ?_ | refine bodyPost_ret (results_none rfl _ _ _) rfl ?_)
  exact ⟨rfl, Below.refl _ _⟩
theorem act_1in (n : Nat) (h1 : 1 ≤ n) (h2 : n ≤ 16) (E : Nat → Addr) (v : Value) (w : World) (h : ErrsAre w E) :
    Calls Tryd.prog 34 #[.int .i64 1, .int .i64 (n : Int), v] w fun e w' => e = .panicked [{ v := raisedV (errAt E n), recovered := false }] ∧ Below w.heap.size w w' := by
  have he := err_in n h1 h2 E w h
  clear h
  go_enter Tryd.func34, Tryd.ntmps34
  go_wp2_with (first
    | (go_at_call 42; refine he.mono ?_; rintro e w1 ⟨rfl, hb1⟩)
    | (go_at_call 80; refine (raise_err E n _).mono ?_; rintro e w' ⟨rfl, rfl⟩))
  exact ⟨rfl, rfl, hb1⟩
theorem need_no (E : Nat → Addr) (w : World) (h : w.cell? ⟨4, 0, none⟩ = some (errAt E 10)) : Calls Tryd.prog 83 #[.bool false] w fun e w' => e = .panicked [{ v := raisedV (errAt E 10), recovered := false }] ∧ w = w' := by
  go_enter Tryd.func83, Tryd.ntmps83
  go_wp2_with (go_at_call 80; refine (raise_err E 10 _).mono ?_; rintro e w' ⟨rfl, rfl⟩)
  exact ⟨rfl, rfl, rfl⟩
theorem act_3 (n : Int) (E : Nat → Addr) (v : Value) (w : World) (h : w.cell? ⟨4, 0, none⟩ = some (errAt E 10)) :
    Calls Tryd.prog 34 #[.int .i64 3, .int .i64 n, v] w fun e w' => e = .panicked [{ v := raisedV (errAt E 10), recovered := false }] ∧ Below w.heap.size w w' := by
  have hn := need_no E w h
  clear h
  go_enter Tryd.func34, Tryd.ntmps34
  go_wp2_with (go_at_call 83; refine hn.mono ?_; rintro e w' ⟨rfl, rfl⟩)
  exact ⟨rfl, rfl, Below.refl _ _⟩
theorem act_fate (k : Nat) (hk : k < 11) (n : Int) (B : Nat) (E : Nat → Addr) (w : World) (hc : w.cell? ⟨B, 0, none⟩ = some (.int .i64 1)) (h : ErrsAre w E) :
    Fate 34 #[.int .i64 (k : Int), .int .i64 n, .slice (some ⟨B, 0, none⟩) 1 1] w E (ofK k n) (Below w.heap.size w) := by
  have b : 3 < k → ofK k n = 10 := fun h => by unfold ofK; rw [if_neg (by omega), if_neg (by omega)]
  match k, hk with
  | 0, _ => exact .inl ⟨rfl, act_0 n _ w⟩
  | 1, _ =>
    by_cases hn : n < 1 ∨ 16 < n
    · exact .inl ⟨by unfold ofK; rw [if_neg (by decide), if_pos rfl, if_pos hn], act_1out n hn _ w⟩
    · obtain ⟨m, rfl⟩ : ∃ m : Nat, n = (m : Int) := ⟨n.toNat, by omega⟩
      have e : ofK 1 (m : Int) = m := by unfold ofK; rw [if_neg (by decide), if_pos rfl, if_neg hn]; simp
      rw [e]
      exact .inr (.inl ⟨by omega, by omega, act_1in m (by omega) (by omega) E _ w h⟩)
  | 2, _ => exact .inl ⟨rfl, act_2 n _ w⟩
  | 3, _ =>
    rw [show ofK 3 n = 10 by unfold ofK; rw [if_neg (by decide), if_neg (by decide)]]
    exact .inr (.inl ⟨by decide, by decide, act_3 n E _ w h.c10⟩)
  | 4, _ => exact .inr (.inr ⟨b (by decide), act_4 n B w hc⟩)
  | 5, _ => exact .inr (.inr ⟨b (by decide), act_5 n B w hc⟩)
  | 6, _ => exact .inr (.inr ⟨b (by decide), act_6 n B w hc⟩)
  | 7, _ => exact .inr (.inr ⟨b (by decide), act_7 n B w hc⟩)
  | 8, _ => exact .inr (.inr ⟨b (by decide), act_8 n B w hc⟩)
  | 9, _ => exact .inr (.inr ⟨b (by decide), act_9 n B w hc⟩)
  | 10, _ => exact .inr (.inr ⟨b (by decide), act_10 n B w hc⟩)
theorem ofK_le (k : Nat) (n : Int) : ofK k n ≤ 16 := by
  unfold ofK; split
  · omega
  split
  · split <;> omega
  · omega
set_option maxHeartbeats 800000 in
/-- Catch answers what comes of the function -/
theorem catch_fate (g : Nat) (lb : Array Value) (E : Nat → Addr) (k : Nat) (Q : World → Prop) (w : World) (eg : Enters g) (hF : Fate g lb (w.alloc (.cells #[.nilIface] 26)) E k Q)
    (hQ : ∀ w2, Q w2 → Blk w2 w.heap.size 26 #[.nilIface] ∧ w2.cell? ⟨4, 0, none⟩ = some (errAt E 10)) :
    Calls Tryd.prog 32 #[.func (.func g) #[] lb] w fun e w' => e = .returned (errN E k) ∧ ∃ w2, Q w2 ∧ Below w.heap.size w2 w' := by
  rcases hF with ⟨rfl, hF⟩ | ⟨h1, h2, hF⟩ | ⟨rfl, hF⟩
  · refine (catch_ok g lb Q w eg hF fun w2 h => (hQ w2 h).1).mono ?_
    rintro e w' ⟨rfl, w2, hq, rfl⟩
    exact ⟨rfl, w2, hq, Below.setCell (p := ⟨w.heap.size, 0, none⟩) (Below.refl w.heap.size _) (Nat.le_refl _) _⟩
  · refine (catch_raised g lb _ _ Q w eg hF fun w2 h => (hQ w2 h).1).mono ?_
    rintro e w' ⟨rfl, w2, hq, rfl⟩
    have hb := (hQ w2 hq).1.lt
    exact ⟨by unfold errN; rw [if_neg (by omega)]; rfl, w2, hq, (Below.setCell (p := ⟨w.heap.size, 0, none⟩) (Below.refl w.heap.size _) (Nat.le_refl _) _).alloc (by simp [World.setCell]; omega) _⟩
  · refine (catch_broken g lb E Q w eg hF hQ).mono ?_
    rintro e w' ⟨rfl, w2, hq, rfl⟩
    exact ⟨rfl, w2, hq, Below.setCell (p := ⟨w.heap.size, 0, none⟩) (Below.refl w.heap.size _) (Nat.le_refl _) _⟩
end Go.Proofs.YtaegjdkmnkjggaaDoor
