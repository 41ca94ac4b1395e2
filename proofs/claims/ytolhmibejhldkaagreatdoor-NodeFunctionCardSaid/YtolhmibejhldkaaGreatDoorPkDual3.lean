/- Texts joined: DualZ DualFunP DualStepsP DualCase. No condition but those that stand within. -/
import Derived.Test.YtolhmibejhldkaaGreatDoorPkSwar
import Derived.Test.YtolhmibejhldkaaGreatDoorPkMeter
import Derived.Test.YtolhmibejhldkaaGreatDoorPkErrs
import Derived.Test.YtolhmibejhldkaaGreatDoorPkGroup
import Derived.Test.YtolhmibejhldkaaGreatDoorPkTab
import Derived.Test.YtolhmibejhldkaaGreatDoorPkTab2
import Derived.Test.YtolhmibejhldkaaGreatDoorPkTab3
import Derived.Test.YtolhmibejhldkaaGreatDoorPkTab4
import Derived.Test.YtolhmibejhldkaaGreatDoorPkTake
import Derived.Test.YtolhmibejhldkaaGreatDoorPkTabM
import Derived.Test.YtolhmibejhldkaaGreatDoorPkBuild
import Derived.Test.YtolhmibejhldkaaGreatDoorPkEvac
import Derived.Test.YtolhmibejhldkaaGreatDoorPkRef09
import Derived.Test.YtolhmibejhldkaaGreatDoorPkEvac2
import Derived.Test.YtolhmibejhldkaaGreatDoorPkActs
import Derived.Test.YtolhmibejhldkaaGreatDoorPkDual1
import Derived.Test.YtolhmibejhldkaaGreatDoorPkDual2
set_option linter.unusedVariables false
set_option linter.unusedSimpArgs false
namespace Go.Proofs.YtolhmibejhldkaaGreatDoor
open Go.RowKit Go.Proofs
def DuS.stp (s : DuS) : DuS := if s.bare = 0 then (if s.nx < s.T.n then s.move else s) else s.prep
def DuS.stpM (s : DuS) (mt : MeterS) : MeterS := if s.bare = 0 then (if s.nx < s.T.n then addN (mt.add 0 0 1) 0 1 0 (1 + (evF s.k s.d (entsL (s.T.M s.nx) (s.T.S s.nx)) (s.U, 0)).2) else mt) else (mt.add 0 1 0).add 0 0 1
def DuS.evOk (s : DuS) : Prop := s.bare = 0 → s.nx < s.T.n → EvOk s.k s.d (entsL (s.T.M s.nx) (s.T.S s.nx)) s.U
structure DZ (w : World) (n : Nat) (a : Nat → Nat → Nat) (s : Nat → DuS) (tk : Bool) (M : Nat) (mt : MeterS) (K : Nat → Prop) (E : Nat → Addr) (w0 : World) : Prop where
  v : ∀ i, i < n → DuV w (a i) (s i) tk E w0
  m : Blk w M 37 mt.cells
  ml : mt.limited = false
  mz : w0.heap.size ≤ M ∧ ¬ K M
  am : ∀ i, i < n → ∀ b, DuX (a i) (s i) b → b ≠ M ∧ ¬ K b
  ap : ∀ i j, i < n → j < n → i ≠ j → ∀ b, DuX (a i) (s i) b → ¬ DuX (a j) (s j) b
  kz : ∀ b, K b → b < w.heap.size
  hb : Below w0.heap.size w0 w
def DZs (w : World) (n : Nat) (D : Nat → Nat) (s : Nat → DuS) (tk : Bool) (M : Nat) (mt : MeterS) (K : Nat → Prop) (E : Nat → Addr) (w0 : World) : Prop := ∃ a, (∀ i, i < n → a i 0 = D i) ∧ DZ w n a s tk M mt K E w0
def KC (K : Nat → Prop) (n0 : Nat) (b : Nat) : Prop := n0 ≤ b ∧ ¬ K b
section
variable {w w' w0 : World} {n : Nat} {a : Nat → Nat → Nat} {s : Nat → DuS} {tk : Bool} {M : Nat} {mt mt' : MeterS} {K : Nat → Prop} {E : Nat → Addr} {D : Nat → Nat}
theorem DZ.later (h : DZ w n a s tk M mt K E w0) (hb : Below w.heap.size w w') : DZ w' n a s tk M mt K E w0 :=
  ⟨fun i hi => (h.v i hi).later hb, h.m.below hb h.m.lt, h.ml, h.mz, h.am, h.ap, fun b hK => Nat.lt_of_lt_of_le (h.kz b hK) hb.size, h.hb.trans (hb.mono h.hb.size)⟩
theorem DZs.later (h : DZs w n D s tk M mt K E w0) (hb : Below w.heap.size w w') : DZs w' n D s tk M mt K E w0 := by
  obtain ⟨a, h0, h1⟩ := h
  exact ⟨a, h0, h1.later hb⟩
theorem DZ.chg {Y : Nat → Prop} (h : DZ w n a s tk M mt K E w0) (hc : Chg Y w w') (h0 : ∀ b, Y b → w0.heap.size ≤ b) (hY : ∀ b, Y b → b ≠ M ∧ ∀ i, i < n → ¬ DuX (a i) (s i) b) : DZ w' n a s tk M mt K E w0 :=
  ⟨fun i hi => (h.v i hi).chg hc h0 (fun x hx e => (hY _ e).2 i hi ⟨x, hx, rfl⟩), h.m.chg hc (fun e => (hY _ e).1 rfl), h.ml, h.mz, h.am, h.ap, fun b hK => Nat.lt_of_lt_of_le (h.kz b hK) hc.size,
    h.hb.trans (hc.below h.hb.size (fun k hk e => by have := h0 k e; omega))⟩
theorem DZs.kept {Y : Nat → Prop} (h : DZs w n D s tk M mt K E w0) (hc : Chg Y w w') (hY : ∀ b, Y b → K b ∧ w0.heap.size ≤ b) : DZs w' n D s tk M mt K E w0 := by
  obtain ⟨a, h0, h1⟩ := h
  exact ⟨a, h0, h1.chg hc (fun b e => (hY b e).2) (fun b e => ⟨fun e2 => h1.mz.2 (e2 ▸ (hY b e).1), fun i hi e2 => (h1.am i hi b e2).2 (hY b e).1⟩)⟩
theorem DZ.lens (h : DZ w n a s tk M mt K E w0) {i : Nat} (hi : i < n) : LensV (some M) (a i) (s i) w0.heap.size := fun b e => by
  cases e
  exact ⟨h.mz.1, fun x hx e => (h.am i hi _ ⟨x, hx, rfl⟩).1 e.symm⟩
theorem DuV.xlt {b : Nat} {a : Nat → Nat} {s : DuS} (h : DuV w a s tk E w0) (hb : DuX a s b) : b < w.heap.size ∧ w0.heap.size ≤ b := by
  obtain ⟨x, hx, rfl⟩ := hb
  exact ⟨h.lt x hx, h.n.ge x hx⟩
theorem DZ.turn {i : Nat} {a2 : Nat → Nat} {s2 : DuS} (h : DZ w n a s tk M mt K E w0) (hi : i < n) (hv : DuV w' a2 s2 tk E w0) (hm : Blk w' M 37 mt'.cells) (hl : mt'.limited = false) (hX : ∀ b, DuX a2 s2 b → DuX (a i) (s i) b ∨ w.heap.size ≤ b) (hc : Chg (fun b => b = M ∨ DuX (a i) (s i) b) w w') :
    DZ w' n (upd a i a2) (upd s i s2) tk M mt' K E w0 ∧ Chg (KC K w0.heap.size) w w' := by
  have hx := fun b e => (h.v i hi).xlt (b := b) e
  have hY0 : ∀ b, b = M ∨ DuX (a i) (s i) b → w0.heap.size ≤ b := fun b e => by
    rcases e with e | e
    · rw [e]; exact h.mz.1
    · exact (hx b e).2
  have hv2 := fun j (hj : j < n) (hne : j ≠ i) => (h.v j hj).chg hc hY0 (fun x hx e => by
    rcases e with e | e
    · exact (h.am j hj _ ⟨x, hx, rfl⟩).1 e
    · exact h.ap j i hj hi hne _ ⟨x, hx, rfl⟩ e)
  refine ⟨⟨fun j hj => ?_, hm, hl, h.mz, fun j hj b hb => ?_, fun j j2 hj hj2 hne b hb => ?_, fun b hK => Nat.lt_of_lt_of_le (h.kz b hK) hc.size, h.hb.trans (hc.below h.hb.size (fun k hk e => by have := hY0 k e; omega))⟩, hc.mono (fun b _ e => ⟨hY0 b e, fun hK => ?_⟩)⟩
  · by_cases e : j = i
    · subst e; rw [upd_same, upd_same]; exact hv
    · rw [upd_other _ _ e, upd_other _ _ e]; exact hv2 j hj e
  · by_cases e : j = i
    · subst e; rw [upd_same, upd_same] at hb
      rcases hX b hb with e | e
      · exact h.am j hj b e
      · exact ⟨fun e2 => by have := h.m.lt; omega, fun hK => by have := h.kz b hK; omega⟩
    · rw [upd_other _ _ e, upd_other _ _ e] at hb; exact h.am j hj b hb
  · by_cases e : j = i
    · subst e
      have e2 : j2 ≠ j := fun e => hne e.symm
      rw [upd_same, upd_same] at hb
      rw [upd_other _ _ e2, upd_other _ _ e2]
      rcases hX b hb with e | e
      · exact h.ap j j2 hj hj2 hne b e
      · intro e3; have := ((h.v j2 hj2).xlt e3).1; omega
    · rw [upd_other _ _ e, upd_other _ _ e] at hb
      by_cases e2 : j2 = i
      · subst e2
        rw [upd_same, upd_same]
        intro e3
        rcases hX b e3 with e4 | e4
        · exact h.ap j j2 hj hj2 hne b hb e4
        · have := ((h.v j hj).xlt hb).1; omega
      · rw [upd_other _ _ e2, upd_other _ _ e2]; exact h.ap j j2 hj hj2 hne b hb
  · rcases e with e | e
    · rw [e] at hK; exact h.mz.2 hK
    · exact (h.am i hi b e).2 hK
theorem DZs.of_turn {i : Nat} {a2 : Nat → Nat} {s2 : DuS} (h0 : ∀ i, i < n → a i 0 = D i) (h2 : a2 0 = a i 0) (h : DZ w' n (upd a i a2) (upd s i s2) tk M mt' K E w0) : DZs w' n D (upd s i s2) tk M mt' K E w0 :=
  ⟨_, fun j hj => by
    by_cases e : j = i
    · subst e; rw [upd_same, h2]; exact h0 j hj
    · rw [upd_other _ _ e]; exact h0 j hj, h⟩
theorem DZ.more {a2 : Nat → Nat} {s2 : DuS} (h : DZ w n a s tk M mt K E w0) (hv : DuV w' a2 s2 tk E w0) (hX : ∀ b, DuX a2 s2 b → w.heap.size ≤ b) (hb : Below w.heap.size w w') : DZ w' (n + 1) (upd a n a2) (upd s n s2) tk M mt K E w0 := by
  have h' := h.later hb
  refine ⟨fun j hj => ?_, h'.m, h.ml, h.mz, fun j hj b hx => ?_, fun j j2 hj hj2 hne b hx => ?_, h'.kz, h'.hb⟩
  · by_cases e : j = n
    · subst e; rw [upd_same, upd_same]; exact hv
    · rw [upd_other _ _ e, upd_other _ _ e]; exact h'.v j (by omega)
  · by_cases e : j = n
    · subst e; rw [upd_same, upd_same] at hx
      have := hX b hx
      exact ⟨fun e2 => by have := h.m.lt; omega, fun hK => by have := h.kz b hK; omega⟩
    · rw [upd_other _ _ e, upd_other _ _ e] at hx; exact h.am j (by omega) b hx
  · by_cases e : j = n
    · subst e
      have e2 : j2 ≠ j := fun e => hne e.symm
      rw [upd_same, upd_same] at hx
      rw [upd_other _ _ e2, upd_other _ _ e2]
      have := hX b hx
      intro e3; have := ((h.v j2 (by omega)).xlt e3).1; omega
    · rw [upd_other _ _ e, upd_other _ _ e] at hx
      by_cases e2 : j2 = n
      · subst e2
        rw [upd_same, upd_same]
        intro e3
        have := hX b e3
        have := ((h.v j (by omega)).xlt hx).1; omega
      · rw [upd_other _ _ e2, upd_other _ _ e2]; exact h.ap j j2 (by omega) (by omega) hne b hx
theorem DZs.more {a2 : Nat → Nat} {s2 : DuS} (h : DZs w n D s tk M mt K E w0) (hv : DuV w' a2 s2 tk E w0) (hX : ∀ b, DuX a2 s2 b → w.heap.size ≤ b) (hb : Below w.heap.size w w') : DZs w' (n + 1) (upd D n (a2 0)) (upd s n s2) tk M mt K E w0 := by
  obtain ⟨a, h0, h1⟩ := h
  refine ⟨_, fun j hj => ?_, h1.more hv hX hb⟩
  by_cases e : j = n
  · subst e; rw [upd_same, upd_same]
  · rw [upd_other _ _ e, upd_other _ _ e]; exact h0 j (by omega)
theorem put_kb (s : DuS) (key v : Int) (h : Nat) (more : Bool) : (s.put key v h more).k = s.k ∧ (s.put key v h more).bare = s.bare := by
  unfold DuS.put
  split
  · exact ⟨rfl, rfl⟩
  · split
    · exact ⟨rfl, rfl⟩
    · split
      · exact ⟨rfl, rfl⟩
      · split <;> exact ⟨rfl, rfl⟩
theorem del_kb (s : DuS) (key : Int) (h : Nat) : (s.del key h).k = s.k ∧ (s.del key h).bare = s.bare := by
  unfold DuS.del; split <;> exact ⟨rfl, rfl⟩
theorem duX_eq {a : Nat → Nat} {s s2 : DuS} (hk : s2.k = s.k ∧ s2.bare = s.bare) (b : Nat) : DuX a s2 b ↔ DuX a s b := by
  unfold DuX; rw [hk.1, hk.2]
theorem selB_x {s : DuS} (h : DuOK s) (a : Nat → Nat) (key : Int) (hh : Nat) {b : Nat} (hb : some M = some b ∨ b = s.selB a key hh ∨ b = s.selQ a key hh) : b = M ∨ DuX a s b := by
  obtain ⟨⟨x, hx, e1⟩, ⟨y, hy, e2⟩⟩ := selB_used h a key hh
  rcases hb with e | e | e
  · cases e; exact .inl rfl
  · exact .inr ⟨x, hx, e.trans e1⟩
  · exact .inr ⟨y, hy, e.trans e2⟩
theorem DZs.put {i : Nat} (h : DZs w n D s tk M mt K E w0) (hi : i < n) (key v : Int) (hh : Nat) (hb : hh < 18446744073709551616) (more : Bool) (x y z : Int) :
    Calls Tryz.prog 42 #[.pointer (some ⟨D i, 0, none⟩), .agg #[.pointer (some ⟨M, 0, none⟩), .int .i64 x, .int .i64 y, .int .i64 z], .agg #[.int .u64 key, .int .u64 v, .int .u64 (hh : Int)], .bool more] w fun e w' =>
      e = .returned (.tuple #[.bool ((s i).putB key hh more), errN E ((s i).putN key hh more)]) ∧ DZs w' n D (upd s i ((s i).put key v hh more)) tk M (addN mt x y z ((s i).lkU key hh + (s i).lkT key hh)) K E w0 ∧ Chg (KC K w0.heap.size) w w' := by
  obtain ⟨a, h0, h1⟩ := h
  have hv := h1.v i hi
  rw [← h0 i hi]
  refine (hv.put (mt := mt) (lp := some M) (fun b e => by cases e; exact h1.m) (h1.lens hi) key v hh hb more (some ⟨M, 0, none⟩) (.inr ⟨M, rfl, rfl⟩) x y z).mono ?_
  rintro e w' ⟨rfl, g1, g2, g3⟩
  obtain ⟨t1, t2⟩ := h1.turn hi g1 (g2 M rfl) ((addN_limited _ _ _ _ _).trans h1.ml) (fun b e => .inl ((duX_eq (put_kb _ _ _ _ _) b).1 e)) (g3.mono (fun b _ e => selB_x hv.ok _ _ _ e))
  exact ⟨rfl, .of_turn h0 rfl t1, t2⟩
theorem DZs.del {i : Nat} (h : DZs w n D s tk M mt K E w0) (hi : i < n) (key : Int) (hh : Nat) (hb : hh < 18446744073709551616) (x y z : Int) :
    Calls Tryz.prog 40 #[.pointer (some ⟨D i, 0, none⟩), .agg #[.pointer (some ⟨M, 0, none⟩), .int .i64 x, .int .i64 y, .int .i64 z], .int .u64 key, .int .u64 (hh : Int)] w fun e w' =>
      e = .returned (.tuple #[.agg #[.int .u64 ((s i).ent key hh).key, .int .u64 ((s i).ent key hh).val, .int .u64 ((s i).ent key hh).hash], .bool ((s i).has key hh)]) ∧ DZs w' n D (upd s i ((s i).del key hh)) tk M (addN mt x y z ((s i).lkU key hh + (s i).lkT key hh)) K E w0 ∧ Chg (KC K w0.heap.size) w w' := by
  obtain ⟨a, h0, h1⟩ := h
  have hv := h1.v i hi
  rw [← h0 i hi]
  refine (hv.del (mt := mt) (lp := some M) (fun b e => by cases e; exact h1.m) (h1.lens hi) key hh hb (some ⟨M, 0, none⟩) (.inr ⟨M, rfl, rfl⟩) x y z).mono ?_
  rintro e w' ⟨rfl, g1, g2, g3⟩
  obtain ⟨t1, t2⟩ := h1.turn hi g1 (g2 M rfl) ((addN_limited _ _ _ _ _).trans h1.ml) (fun b e => .inl ((duX_eq (del_kb _ _ _) b).1 e)) (g3.mono (fun b _ e => selB_x hv.ok _ _ _ e))
  exact ⟨rfl, .of_turn h0 rfl t1, t2⟩
theorem DZs.find {i : Nat} (h : DZs w n D s tk M mt K E w0) (hi : i < n) (key : Int) (hh : Nat) (hb : hh < 18446744073709551616) (x y z : Int) :
    Calls Tryz.prog 57 #[.pointer (some ⟨D i, 0, none⟩), .agg #[.pointer (some ⟨M, 0, none⟩), .int .i64 x, .int .i64 y, .int .i64 z], .int .u64 key, .int .u64 (hh : Int)] w fun e w' =>
      e = .returned (.tuple #[.agg #[.int .u64 ((s i).ent key hh).key, .int .u64 ((s i).ent key hh).val, .int .u64 ((s i).ent key hh).hash], .bool ((s i).has key hh)]) ∧ DZs w' n D s tk M (addN mt x y z ((s i).lkU key hh + (s i).lkT key hh)) K E w0 ∧ Chg (KC K w0.heap.size) w w' := by
  obtain ⟨a, h0, h1⟩ := h
  have hv := h1.v i hi
  rw [← h0 i hi]
  refine (hv.find (mt := mt) (lp := some M) (fun b e => by cases e; exact h1.m) (h1.lens hi) key hh hb (some ⟨M, 0, none⟩) (.inr ⟨M, rfl, rfl⟩) x y z).mono ?_
  rintro e w' ⟨rfl, g1, g2, g3⟩
  obtain ⟨t1, t2⟩ := h1.turn hi g1 (g2 M rfl) ((addN_limited _ _ _ _ _).trans h1.ml) (fun b e => .inl e) (g3.mono (fun b _ e => .inl (by cases e; rfl)))
  rw [upd_self] at t1
  rw [upd_self] at t1
  exact ⟨rfl, ⟨a, h0, t1⟩, t2⟩
theorem DZs.step {i : Nat} (h : DZs w n D s tk M mt K E w0) (hi : i < n) (hev : (s i).evOk) :
    Calls Tryz.prog 54 #[.pointer (some ⟨D i, 0, none⟩), .pointer (some ⟨M, 0, none⟩)] w fun e w' =>
      e = .returned (.bool (decide (0 < (s i).left))) ∧ DZs w' n D (upd s i (s i).stp) tk M ((s i).stpM mt) K E w0 ∧ Chg (KC K w0.heap.size) w w' := by
  obtain ⟨a, h0, h1⟩ := h
  have hv := h1.v i hi
  have hls := h1.lens hi
  unfold LensV at hls
  rw [← h0 i hi]
  unfold DuS.left DuS.stp DuS.stpM
  rcases hv.m with ⟨bcap, hA⟩ | ⟨bcap, fcap, cap5, hB⟩
  · have hb0 : ¬ (s i).bare = 0 := by have := hA.hb; omega
    rw [decide_eq_false hb0] at hls
    rw [if_neg hb0, if_neg hb0, decide_eq_true (show 0 < (s i).bare + ((s i).T.n - (s i).nx) by have := hA.hb; omega)]
    refine (hA.step hv.ok h1.m hls h1.ml).mono ?_
    rintro e w' ⟨rfl, ⟨a', g1, g2, g3⟩, g4, g5⟩
    obtain ⟨t1, t2⟩ := h1.turn hi g1 g4 h1.ml (fun b e => by
      obtain ⟨x, hx, rfl⟩ := e
      by_cases hx2 : Used (s i).k false x
      · rw [g2 x hx2]
        exact .inl ⟨x, by rw [decide_eq_false hb0]; exact hx2, rfl⟩
      · have hx3 : Used (s i).k (decide ((s i).bare - 1 = 0)) x := hx
        unfold Used at hx2 hx3
        simp only [Bool.false_eq_true, false_and, false_or] at hx2
        rcases hx3 with e | ⟨e1, e2⟩ | e
        · exact absurd (.inl e) hx2
        · rcases g3 x (by omega) e2 with e3 | e3
          · exact .inr e3
          · rw [decide_eq_true_eq] at e1; omega
        · exact absurd (.inr e) hx2) g5
    exact ⟨rfl, .of_turn h0 (g2 0 (.lt4 (by decide))) t1, t2⟩
  · have hb0 := hB.hb
    have hxn := hv.ok.hx
    rw [decide_eq_true hb0] at hls
    rw [if_pos hb0, if_pos hb0]
    by_cases hn : (s i).nx < (s i).T.n
    · rw [if_pos hn, if_pos hn, decide_eq_true (show 0 < (s i).bare + ((s i).T.n - (s i).nx) by omega)]
      refine (hB.stepOk hv.ok h1.m hls h1.ml hn (hev hb0 hn)).mono ?_
      rintro e w' ⟨rfl, g1, g2, g3⟩
      obtain ⟨t1, t2⟩ := h1.turn hi g1 g2 ((addN_limited _ _ _ _ _).trans h1.ml) (fun b e => .inl ((duX_eq ⟨rfl, rfl⟩ b).1 e)) g3
      exact ⟨rfl, .of_turn h0 rfl t1, t2⟩
    · rw [if_neg hn, if_neg hn, decide_eq_false (show ¬ 0 < (s i).bare + ((s i).T.n - (s i).nx) by omega)]
      refine (hB.stepNo hv.ok h1.m hls (by omega)).mono ?_
      rintro e w' ⟨rfl, g1⟩
      rw [upd_self]
      exact ⟨rfl, ⟨a, h0, h1.later g1⟩, Chg.of_below g1⟩
theorem DZs.ready {i : Nat} (h : DZs w n D s tk M mt K E w0) (hi : i < n) : Calls Tryz.prog 106 #[.pointer (some ⟨D i, 0, none⟩)] w fun e w' => e = .returned (.bool (decide ((s i).bare = 0))) ∧ w = w' := by
  obtain ⟨a, h0, h1⟩ := h
  rw [← h0 i hi]
  rcases (h1.v i hi).m with ⟨bcap, hA⟩ | ⟨bcap, fcap, cap5, hB⟩
  · rw [decide_eq_false (by have := hA.hb; omega)]; exact hA.ready
  · rw [decide_eq_true hB.hb]; exact hB.ready
theorem DZs.left {i : Nat} (h : DZs w n D s tk M mt K E w0) (hi : i < n) : Calls Tryz.prog 55 #[.pointer (some ⟨D i, 0, none⟩)] w fun e w' => e = .returned (.int .i64 (((s i).left : Nat) : Int)) ∧ Below w.heap.size w w' := by
  obtain ⟨a, h0, h1⟩ := h
  rw [← h0 i hi]
  exact (h1.v i hi).left
theorem DZs.len {i : Nat} (h : DZs w n D s tk M mt K E w0) (hi : i < n) : Calls Tryz.prog 86 #[.pointer (some ⟨D i, 0, none⟩)] w fun e w' => e = .returned (.int .i64 (((s i).all (s i).k).length : Int)) ∧ Below w.heap.size w w' := by
  obtain ⟨a, h0, h1⟩ := h
  rw [← h0 i hi]
  exact (h1.v i hi).len
theorem DZ.congr {s' : Nat → DuS} (h : DZ w n a s tk M mt K E w0) (e : ∀ i, i < n → s i = s' i) : DZ w n a s' tk M mt K E w0 :=
  ⟨fun i hi => by rw [← e i hi]; exact h.v i hi, h.m, h.ml, h.mz, fun i hi => by rw [← e i hi]; exact h.am i hi, fun i j hi hj => by rw [← e i hi, ← e j hj]; exact h.ap i j hi hj, h.kz, h.hb⟩
end
def D1s (w : World) (D : Nat) (s : DuS) (tk : Bool) (M : Nat) (mt : MeterS) (K : Nat → Prop) (E : Nat → Addr) (w0 : World) : Prop := DZs w 1 (fun _ => D) (fun _ => s) tk M mt K E w0
section
variable {w w' w0 : World} {D : Nat} {s : DuS} {tk : Bool} {M : Nat} {mt mt' : MeterS} {K : Nat → Prop} {E : Nat → Addr}
theorem D1s.mk {a : Nat → Nat} (hv : DuV w a s tk E w0) (hm : Blk w M 37 mt.cells) (hl : mt.limited = false) (hM : w0.heap.size ≤ M ∧ ¬ K M) (hX : ∀ b, DuX a s b → b ≠ M ∧ ¬ K b) (hK : ∀ b, K b → b < w.heap.size) : D1s w (a 0) s tk M mt K E w0 :=
  ⟨fun _ => a, fun _ _ => rfl, fun _ _ => hv, hm, hl, hM, fun _ _ => hX, fun i j hi hj hij => by omega, hK, hv.bel⟩
theorem D1s.of_upd {s' : DuS} (h : DZs w' 1 (fun _ => D) (upd (fun _ => s) 0 s') tk M mt' K E w0) : D1s w' D s' tk M mt' K E w0 := by
  obtain ⟨a, h0, h1⟩ := h
  refine ⟨a, h0, h1.congr (fun i hi => ?_)⟩
  obtain rfl : i = 0 := by omega
  exact upd_same _ _ _
theorem D1s.later (h : D1s w D s tk M mt K E w0) (hb : Below w.heap.size w w') : D1s w' D s tk M mt K E w0 := DZs.later h hb
theorem D1s.kept {Y : Nat → Prop} (h : D1s w D s tk M mt K E w0) (hc : Chg Y w w') (hY : ∀ b, Y b → K b ∧ w0.heap.size ≤ b) : D1s w' D s tk M mt K E w0 := DZs.kept h hc hY
theorem D1s.put (h : D1s w D s tk M mt K E w0) (key v : Int) (hh : Nat) (hb : hh < 18446744073709551616) (more : Bool) (x y z : Int) :
    Calls Tryz.prog 42 #[.pointer (some ⟨D, 0, none⟩), .agg #[.pointer (some ⟨M, 0, none⟩), .int .i64 x, .int .i64 y, .int .i64 z], .agg #[.int .u64 key, .int .u64 v, .int .u64 (hh : Int)], .bool more] w fun e w' =>
      e = .returned (.tuple #[.bool (s.putB key hh more), errN E (s.putN key hh more)]) ∧ D1s w' D (s.put key v hh more) tk M (addN mt x y z (s.lkU key hh + s.lkT key hh)) K E w0 ∧ Chg (KC K w0.heap.size) w w' := by
  refine (DZs.put h (by decide : 0 < 1) key v hh hb more x y z).mono ?_
  rintro e w' ⟨rfl, h1, h2⟩
  exact ⟨rfl, .of_upd h1, h2⟩
theorem D1s.del (h : D1s w D s tk M mt K E w0) (key : Int) (hh : Nat) (hb : hh < 18446744073709551616) (x y z : Int) :
    Calls Tryz.prog 40 #[.pointer (some ⟨D, 0, none⟩), .agg #[.pointer (some ⟨M, 0, none⟩), .int .i64 x, .int .i64 y, .int .i64 z], .int .u64 key, .int .u64 (hh : Int)] w fun e w' =>
      e = .returned (.tuple #[.agg #[.int .u64 (s.ent key hh).key, .int .u64 (s.ent key hh).val, .int .u64 (s.ent key hh).hash], .bool (s.has key hh)]) ∧ D1s w' D (s.del key hh) tk M (addN mt x y z (s.lkU key hh + s.lkT key hh)) K E w0 ∧ Chg (KC K w0.heap.size) w w' := by
  refine (DZs.del h (by decide : 0 < 1) key hh hb x y z).mono ?_
  rintro e w' ⟨rfl, h1, h2⟩
  exact ⟨rfl, .of_upd h1, h2⟩
theorem D1s.find (h : D1s w D s tk M mt K E w0) (key : Int) (hh : Nat) (hb : hh < 18446744073709551616) (x y z : Int) :
    Calls Tryz.prog 57 #[.pointer (some ⟨D, 0, none⟩), .agg #[.pointer (some ⟨M, 0, none⟩), .int .i64 x, .int .i64 y, .int .i64 z], .int .u64 key, .int .u64 (hh : Int)] w fun e w' =>
      e = .returned (.tuple #[.agg #[.int .u64 (s.ent key hh).key, .int .u64 (s.ent key hh).val, .int .u64 (s.ent key hh).hash], .bool (s.has key hh)]) ∧ D1s w' D s tk M (addN mt x y z (s.lkU key hh + s.lkT key hh)) K E w0 ∧ Chg (KC K w0.heap.size) w w' := DZs.find h (by decide : 0 < 1) key hh hb x y z
theorem D1s.step (h : D1s w D s tk M mt K E w0) (hev : s.evOk) :
    Calls Tryz.prog 54 #[.pointer (some ⟨D, 0, none⟩), .pointer (some ⟨M, 0, none⟩)] w fun e w' =>
      e = .returned (.bool (decide (0 < s.left))) ∧ D1s w' D s.stp tk M (s.stpM mt) K E w0 ∧ Chg (KC K w0.heap.size) w w' := by
  refine (DZs.step h (by decide : 0 < 1) hev).mono ?_
  rintro e w' ⟨rfl, h1, h2⟩
  exact ⟨rfl, .of_upd h1, h2⟩
theorem D1s.ready (h : D1s w D s tk M mt K E w0) : Calls Tryz.prog 106 #[.pointer (some ⟨D, 0, none⟩)] w fun e w' => e = .returned (.bool (decide (s.bare = 0))) ∧ w = w' := DZs.ready h (by decide : 0 < 1)
theorem D1s.left (h : D1s w D s tk M mt K E w0) : Calls Tryz.prog 55 #[.pointer (some ⟨D, 0, none⟩)] w fun e w' => e = .returned (.int .i64 ((s.left : Nat) : Int)) ∧ Below w.heap.size w w' := DZs.left h (by decide : 0 < 1)
theorem D1s.len (h : D1s w D s tk M mt K E w0) : Calls Tryz.prog 86 #[.pointer (some ⟨D, 0, none⟩)] w fun e w' => e = .returned (.int .i64 ((s.all s.k).length : Int)) ∧ Below w.heap.size w w' := DZs.len h (by decide : 0 < 1)
theorem D1s.v (h : D1s w D s tk M mt K E w0) : ∃ a, a 0 = D ∧ DuV w a s tk E w0 := by
  obtain ⟨a, h0, h1⟩ := h
  exact ⟨a 0, h0 0 (by decide), h1.v 0 (by decide)⟩
end
end Go.Proofs.YtolhmibejhldkaaGreatDoor

namespace Go.Proofs.YtolhmibejhldkaaGreatDoor
open Go.RowKit Go.Proofs
section
variable {s : DuS} {H : Int → Nat}
def DuS.ok (s : DuS) (q : Int) (h : Nat) : Bool := s.has q h || decide (1 ≤ (s.fst h).left)
theorem DuF.put_at (h : DuF s H) (q v : Int) (hh : H q < 18446744073709551616) (q' : Int) :
    (s.put q v (H q) true).has q' (H q') = (if q' = q then s.ok q (H q) else s.has q' (H q')) ∧
      (s.put q v (H q) true).ent q' (H q') = if q' = q then (if s.ok q (H q) = true then ⟨q, v, H q⟩ else EntS.zero) else s.ent q' (H q') := by
  have h' := h.put q v hh true
  rw [h'.has_eq, h'.ent_eq, h.has_eq, h.ent_eq]
  have hu := h.u.at h.ok.hk q v hh _ (h.ok.yk (H q')) q'
  have ht := h.t.put_at q v hh q'
  have hap := h.apart q
  unfold DuS.ok
  rw [h.has_eq]
  unfold DuS.put DuS.fst
  rw [h.inU_eq]
  rw [show tIx s.k s.d (H q) = s.y (H q) from rfl] at hu
  cases c1 : (s.U (s.y (H q))).has q (H q) with
  | true =>
    rw [if_pos rfl]
    show ((upd s.U (s.y (H q)) ((s.U (s.y (H q))).putT q v (H q)) (s.y (H q'))).has q' (H q') || s.T.has q' (H q')) = _ ∧ (if (upd s.U (s.y (H q)) ((s.U (s.y (H q))).putT q v (H q)) (s.y (H q'))).has q' (H q') = true then (upd s.U (s.y (H q)) ((s.U (s.y (H q))).putT q v (H q)) (s.y (H q'))).ent q' (H q') else s.T.ent q' (H q')) = _
    rw [hu.1, hu.2]
    unfold TabS.ok
    rw [c1]
    by_cases e : q' = q
    · subst e; simp
    · simp [e]
  | false =>
    rw [if_neg Bool.false_ne_true]
    cases c2 : s.T.has q (H q) with
    | true =>
      rw [if_pos rfl]
      show ((s.U (s.y (H q'))).has q' (H q') || (s.T.putT q v (H q)).has q' (H q')) = _ ∧ (if (s.U (s.y (H q'))).has q' (H q') = true then (s.U (s.y (H q'))).ent q' (H q') else (s.T.putT q v (H q)).ent q' (H q')) = _
      rw [ht.1, ht.2]
      unfold TabS.ok
      rw [c2]
      by_cases e : q' = q
      · subst e; simp [c1]
      · simp [e]
    | false =>
      rw [if_neg Bool.false_ne_true, if_neg (by decide)]
      by_cases hb : s.bare = 0
      · rw [if_pos hb, if_pos hb]
        show ((upd s.U (s.y (H q)) ((s.U (s.y (H q))).putT q v (H q)) (s.y (H q'))).has q' (H q') || s.T.has q' (H q')) = _ ∧ (if (upd s.U (s.y (H q)) ((s.U (s.y (H q))).putT q v (H q)) (s.y (H q'))).has q' (H q') = true then (upd s.U (s.y (H q)) ((s.U (s.y (H q))).putT q v (H q)) (s.y (H q'))).ent q' (H q') else s.T.ent q' (H q')) = _
        rw [hu.1, hu.2]
        unfold TabS.ok
        rw [c1]
        by_cases e : q' = q
        · subst e
          by_cases e2 : 1 ≤ (s.U (s.y (H q'))).left
          · simp [e2]
          · simp [e2, c2, TFun.ent_not c2]
        · simp [e]
      · rw [if_neg hb, if_neg hb]
        show ((s.U (s.y (H q'))).has q' (H q') || (s.T.putT q v (H q)).has q' (H q')) = _ ∧ (if (s.U (s.y (H q'))).has q' (H q') = true then (s.U (s.y (H q'))).ent q' (H q') else (s.T.putT q v (H q)).ent q' (H q')) = _
        rw [ht.1, ht.2]
        unfold TabS.ok
        rw [c2]
        by_cases e : q' = q
        · subst e; simp [c1]
        · simp [e]
theorem DuF.del_at (h : DuF s H) (q : Int) (q' : Int) :
    (s.del q (H q)).has q' (H q') = (if q' = q then false else s.has q' (H q')) ∧ (s.del q (H q)).ent q' (H q') = if q' = q then EntS.zero else s.ent q' (H q') := by
  have h' := h.del q
  rw [h'.has_eq, h'.ent_eq, h.has_eq, h.ent_eq]
  have ht := h.t.del_at q q'
  have hap := h.apart q
  unfold DuS.del
  rw [h.inU_eq]
  cases c1 : (s.U (s.y (H q))).has q (H q) with
  | true =>
    have c2 : s.T.has q (H q) = false := by
      cases c2 : s.T.has q (H q) with
      | false => rfl
      | true => rw [hap c2] at c1; cases c1
    rw [if_pos rfl]
    show ((upd s.U (s.y (H q)) ((s.U (s.y (H q))).delT q (H q)) (s.y (H q'))).has q' (H q') || s.T.has q' (H q')) = _ ∧ (if (upd s.U (s.y (H q)) ((s.U (s.y (H q))).delT q (H q)) (s.y (H q'))).has q' (H q') = true then (upd s.U (s.y (H q)) ((s.U (s.y (H q))).delT q (H q)) (s.y (H q'))).ent q' (H q') else s.T.ent q' (H q')) = _
    have hu : (upd s.U (s.y (H q)) ((s.U (s.y (H q))).delT q (H q)) (s.y (H q'))).has q' (H q') = (if q' = q then false else (s.U (s.y (H q'))).has q' (H q')) ∧ (upd s.U (s.y (H q)) ((s.U (s.y (H q))).delT q (H q)) (s.y (H q'))).ent q' (H q') = if q' = q then EntS.zero else (s.U (s.y (H q'))).ent q' (H q') := by
      by_cases e : s.y (H q') = s.y (H q)
      · rw [e, upd_same]; exact (h.u.f _ (h.ok.yk (H q))).del_at q q'
      · rw [upd_other _ _ e, if_neg (fun e2 => e (by rw [e2])), if_neg (fun e2 => e (by rw [e2]))]; exact ⟨rfl, rfl⟩
    rw [hu.1, hu.2]
    by_cases e : q' = q
    · subst e; simp [c2, TFun.ent_not c2]
    · simp [e]
  | false =>
    rw [if_neg Bool.false_ne_true]
    show ((s.U (s.y (H q'))).has q' (H q') || (s.T.delT q (H q)).has q' (H q')) = _ ∧ (if (s.U (s.y (H q'))).has q' (H q') = true then (s.U (s.y (H q'))).ent q' (H q') else (s.T.delT q (H q)).ent q' (H q')) = _
    rw [ht.1, ht.2]
    by_cases e : q' = q
    · subst e; simp [c1]
    · simp [e]
theorem DuF.putB_eq (h : DuF s H) (q : Int) : s.putB q (H q) true = (!s.has q (H q) && s.ok q (H q)) ∧ s.putN q (H q) true = if s.ok q (H q) = true then 0 else 2 := by
  have hf : (s.fst (H q)).putB q (H q) = (!(s.fst (H q)).has q (H q) && decide (1 ≤ (s.fst (H q)).left)) ∧ (s.fst (H q)).putN q (H q) = if (s.fst (H q)).ok q (H q) = true then 0 else 2 := by
    unfold DuS.fst
    split
    · exact ⟨(h.u.f _ (h.ok.yk (H q))).putB q, (h.u.f _ (h.ok.yk (H q))).putN q⟩
    · exact ⟨h.t.putB q, h.t.putN q⟩
  unfold DuS.putB DuS.putN DuS.ok
  rw [hf.1, hf.2]
  cases c : s.has q (H q) with
  | true => simp
  | false =>
    have : (s.fst (H q)).has q (H q) = false := by
      rw [← sel_fst c, sel_has]; exact c
    unfold TabS.ok
    rw [this]
    simp
theorem evF_room {U : Nat → TabS} {k d gn : Nat} (h : UF U k d H) (hk : k = 1 ∨ (k = 2 ∧ d ≤ 15)) (l : List EntS) (hH : ∀ e ∈ l, e.hash = (H e.key : Int) ∧ H e.key < 18446744073709551616)
    (hnew : ∀ e ∈ l, (U (tIx k d (H e.key))).has e.key (H e.key) = false) (hdup : ∀ i j (hi : i < l.length) (hj : j < l.length), l[i].key = l[j].key → i = j)
    (hn : ∀ i, i < k → TGood (U i) ∧ (U i).n = gn) (hroom : ltSum U k + l.length ≤ 7 * (gn : Int)) :
    ∀ j, j ≤ l.length → EvOk k d (l.take j) U ∧ ltSum (evF k d (l.take j) (U, 0)).1 k ≤ ltSum U k + j ∧ lvSum (evF k d (l.take j) (U, 0)).1 k = lvSum U k + j
  | 0, _ => ⟨fun j hj => by simp at hj, by rw [List.take_zero]; simp [evF], by rw [List.take_zero]; simp [evF]⟩
  | j + 1, hj => by
    obtain ⟨h1, h2, h3⟩ := evF_room h hk l hH hnew hdup hn hroom j (by omega)
    have hjl : j < l.length := by omega
    have hk' : k = 1 ∨ k = 2 := by omega
    have hlen : (l.take j).length = j := by rw [List.length_take]; omega
    obtain ⟨f1, f2, -, -⟩ := evF_F h hk (l.take j) (fun e he => hH e (List.mem_of_mem_take he)) h1 j (by rw [hlen]; exact Nat.le_refl _)
    rw [show (l.take j).take j = l.take j by rw [List.take_take, Nat.min_self]] at f1 f2
    have hg := evF_good hk (l.take j) U 0 (fun e he => by rw [(hH e (List.mem_of_mem_take he)).1, Int.toNat_natCast]; exact (hH e (List.mem_of_mem_take he)).2) hn
    have htk := evF_take (k := k) (d := d) hjl (U, 0)
    obtain ⟨hh1, hh2⟩ := hH l[j] (List.getElem_mem hjl)
    have hcv : l[j].hash.toNat = H l[j].key := by rw [hh1]; simp
    have hi := tIx_lt (h := H l[j].key) hk
    have hno : ((evF k d (l.take j) (U, 0)).1 (tIx k d (H l[j].key))).has l[j].key (H l[j].key) = false := by
      rw [← Bool.not_eq_true, f2 _ hi]
      rintro (e | ⟨p, hp, hpj, hkey, -⟩)
      · rw [hnew _ (List.getElem_mem hjl)] at e; cases e
      · rw [List.getElem_take] at hkey
        have := hdup p j (by omega) hjl hkey; omega
    have hle := ltSum_le (U := (evF k d (l.take j) (U, 0)).1) hk' hi (fun i hi => by have := (hg i hi).1.bounds; omega)
    have hl1 : 1 ≤ ((evF k d (l.take j) (U, 0)).1 (tIx k d (H l[j].key))).left := by
      have hgn := (hg _ hi).2
      unfold TabS.left
      rw [hgn]
      omega
    have hpB : ((evF k d (l.take j) (U, 0)).1 (tIx k d (H l[j].key))).putB l[j].key (H l[j].key) = true := by rw [(f1.f _ hi).putB, hno]; simpa using hl1
    refine ⟨fun i hi' => ?_, ?_, ?_⟩
    · rw [List.length_take] at hi'
      have e1 : (l.take (j + 1))[i]'(by rw [List.length_take]; exact hi') = l[i]'(by omega) := List.getElem_take ..
      have e2 : (l.take (j + 1)).take i = l.take i := by rw [List.take_take, Nat.min_eq_left (by omega)]
      rw [e1, e2]
      by_cases e : i = j
      · subst e; rw [hcv]; exact hpB
      · have := h1 i (by rw [hlen]; omega)
        rw [List.getElem_take, show (l.take j).take i = l.take i by rw [List.take_take, Nat.min_eq_left (by omega)]] at this
        exact this
    · rw [htk]
      unfold evS
      rw [hcv]
      have := put_lt (T := (evF k d (l.take j) (U, 0)).1 (tIx k d (H l[j].key))) l[j].key l[j].val (H l[j].key)
      rw [hpB, if_pos rfl] at this
      rw [ltSum_upd hk' hi]
      omega
    · rw [htk]
      unfold evS
      rw [hcv]
      have := ((f1.f _ hi).put_lv l[j].key l[j].val).1
      rw [hpB, if_pos rfl] at this
      rw [lvSum_upd hk' hi, this]
      omega
structure DuL (s : DuS) (H : Int → Nat) (m c : Int) (P : Int → Bool) (V : Int → EntS) : Prop where
  f : DuF s H
  p : ∀ q, s.has q (H q) = P q
  e : ∀ q, s.ent q (H q) = V q
  c : s.T.lv + lvSum s.U s.k = c
  l1 : s.T.lv + ltSum s.U s.k ≤ m
  l2 : 0 < s.bare → s.T.lv + s.T.tb ≤ m
  z : ∀ q g' k', s.T.At q g' k' → s.nx ≤ g'
def putP (P : Int → Bool) (q : Int) (b : Bool) : Int → Bool := fun q' => if q' = q then b else P q'
def putV (V : Int → EntS) (q : Int) (e : EntS) : Int → EntS := fun q' => if q' = q then e else V q'
variable {m c : Int} {P : Int → Bool} {V : Int → EntS}
theorem DuL.more {m' : Int} (h : DuL s H m c P V) (hm : m ≤ m') : DuL s H m' c P V := ⟨h.f, h.p, h.e, h.c, Int.le_trans h.l1 hm, fun hb => Int.le_trans (h.l2 hb) hm, h.z⟩
theorem DuL.k12 (h : DuL s H m c P V) : s.k = 1 ∨ s.k = 2 := by have := h.f.ok.hk; omega
theorem DuL.u0 (h : DuL s H m c P V) : ∀ i, i < s.k → 0 ≤ (s.U i).lv + (s.U i).tb := fun i hi => by have := (h.f.ok.u i hi).1.bounds; omega
theorem DuL.okm (h : DuL s H m c P V) (hm : m < 7 * (s.gn : Int)) (hm2 : 0 < s.bare → m < 7 * (s.T.n : Int)) (q : Int) : s.ok q (H q) = true := by
  have hy := h.f.ok.yk (H q)
  have hb := h.f.t.good.bounds
  have hle := ltSum_le h.k12 hy h.u0
  have h1 := h.l1
  have : 1 ≤ (s.fst (H q)).left := by
    unfold DuS.fst TabS.left
    split
    · rw [(h.f.ok.u _ hy).2]; omega
    · rename_i c
      have := h.l2 (by omega); have := hm2 (by omega); omega
  unfold DuS.ok
  rw [decide_eq_true this, Bool.or_true]
theorem at_putT_has {T : TabS} {q v : Int} {h : Nat} (hh : T.has q h = true) {i : Int} {g k : Nat} (ha : (T.putT q v h).At i g k) : T.At i g k := by
  unfold TabS.putT at ha
  rw [if_pos hh] at ha
  exact (at_setV _ _ _ _ _ _ _).1 ha
theorem at_delT {T : TabS} (hT : TGood T) {q : Int} {h : Nat} {i : Int} {g k : Nat} (ha : (T.delT q h).At i g k) : T.At i g k := by
  unfold TabS.delT at ha
  by_cases c : T.has q h = true
  · rw [if_pos c] at ha
    obtain ⟨k', e1, e2, e3, -⟩ := hT.at' c
    rw [e1, Int.toNat_natCast] at ha
    exact ((at_era e3 e2 _ _ _).1 ha).2
  · rw [if_neg c] at ha; exact ha
theorem DuL.put (h : DuL s H m c P V) (q v : Int) (hh : H q < 18446744073709551616) :
    DuL (s.put q v (H q) true) H (m + 1) (c + if (!P q && s.ok q (H q)) = true then 1 else 0) (putP P q (s.ok q (H q))) (putV V q (if s.ok q (H q) = true then ⟨q, v, H q⟩ else EntS.zero)) := by
  have hy := h.f.ok.yk (H q)
  have hat := fun q' => h.f.put_at q v hh q'
  have hp := h.p q
  have hl1 := h.l1
  have hc := h.c
  have hput : (!P q && s.ok q (H q)) = (!s.has q (H q) && decide (1 ≤ (s.fst (H q)).left)) := by
    unfold DuS.ok; cases e : P q <;> rw [e] at hp <;> simp [hp]
  refine ⟨h.f.put q v hh true, fun q' => by rw [(hat q').1]; unfold putP; rw [h.p], fun q' => by rw [(hat q').2]; unfold putV; rw [h.e], ?_, ?_, ?_, ?_⟩
  · rw [hput, h.f.has_eq]
    unfold DuS.put DuS.fst
    rw [h.f.inU_eq]
    cases c1 : (s.U (s.y (H q))).has q (H q) with
    | true =>
      rw [if_pos rfl]
      show s.T.lv + lvSum (upd s.U (s.y (H q)) _) s.k = _
      rw [lvSum_upd h.k12 hy, ((h.f.u.f _ hy).put_lv q v).1, (h.f.u.f _ hy).putB, c1]
      simp; omega
    | false =>
      rw [if_neg Bool.false_ne_true]
      cases c2 : s.T.has q (H q) with
      | true =>
        rw [if_pos rfl]
        show (s.T.putT q v (H q)).lv + lvSum s.U s.k = _
        rw [(h.f.t.put_lv q v).1, h.f.t.putB, c2]
        simp; omega
      | false =>
        rw [if_neg Bool.false_ne_true, if_neg (by decide)]
        by_cases hb : s.bare = 0
        · rw [if_pos hb, if_pos hb]
          show s.T.lv + lvSum (upd s.U (s.y (H q)) _) s.k = _
          rw [lvSum_upd h.k12 hy, ((h.f.u.f _ hy).put_lv q v).1, (h.f.u.f _ hy).putB, c1]
          simp only [Bool.not_false, Bool.true_and, Bool.or_self]
          omega
        · rw [if_neg hb, if_neg hb]
          show (s.T.putT q v (H q)).lv + lvSum s.U s.k = _
          rw [(h.f.t.put_lv q v).1, h.f.t.putB, c2]
          simp only [Bool.not_false, Bool.true_and, Bool.or_self]
          omega
  · have u1 : ltSum (upd s.U (s.y (H q)) ((s.U (s.y (H q))).putT q v (H q))) s.k ≤ ltSum s.U s.k + 1 := by
      rw [ltSum_upd h.k12 hy]
      have := put_lt (T := s.U (s.y (H q))) q v (H q)
      split at this <;> omega
    have t1 : (s.T.putT q v (H q)).lv ≤ s.T.lv + 1 := by
      rw [(h.f.t.put_lv q v).1]; split <;> omega
    unfold DuS.put
    split
    · show s.T.lv + ltSum (upd s.U (s.y (H q)) _) s.k ≤ _; omega
    · split
      · show (s.T.putT q v (H q)).lv + ltSum s.U s.k ≤ _; omega
      · split
        · show s.T.lv + ltSum s.U s.k ≤ _; omega
        · split
          · show s.T.lv + ltSum (upd s.U (s.y (H q)) _) s.k ≤ _; omega
          · show (s.T.putT q v (H q)).lv + ltSum s.U s.k ≤ _; omega
  · have t1 : (s.T.putT q v (H q)).lv + (s.T.putT q v (H q)).tb ≤ s.T.lv + s.T.tb + 1 := by
      have := put_lt (T := s.T) q v (H q)
      split at this <;> omega
    have hl2 := h.l2
    unfold DuS.put
    split
    · intro hb; have := hl2 hb; show s.T.lv + s.T.tb ≤ _; omega
    · split
      · intro hb; have := hl2 hb; show (s.T.putT q v (H q)).lv + (s.T.putT q v (H q)).tb ≤ _; omega
      · split
        · intro hb; have := hl2 hb; show s.T.lv + s.T.tb ≤ _; omega
        · split
          · intro hb; have := hl2 hb; show s.T.lv + s.T.tb ≤ _; omega
          · intro hb; have := hl2 hb; show (s.T.putT q v (H q)).lv + (s.T.putT q v (H q)).tb ≤ _; omega
  · unfold DuS.put
    split
    · exact h.z
    · split
      · rename_i c2
        intro q' g' k' ha
        exact h.z q' g' k' (at_putT_has c2 ha)
      · split
        · exact h.z
        · split
          · exact h.z
          · rename_i hb
            intro q' g' k' _
            have := (h.f.ok.pre (by omega)).1
            show s.nx ≤ g'
            omega
theorem DuL.del (h : DuL s H m c P V) (q : Int) : DuL (s.del q (H q)) H m (c - if P q = true then 1 else 0) (putP P q false) (putV V q EntS.zero) := by
  have hy := h.f.ok.yk (H q)
  have hat := fun q' => h.f.del_at q q'
  have hl1 := h.l1
  have hc := h.c
  refine ⟨h.f.del q, fun q' => by rw [(hat q').1]; unfold putP; rw [h.p], fun q' => by rw [(hat q').2]; unfold putV; rw [h.e], ?_, ?_, ?_, ?_⟩
  · rw [← h.p q, h.f.has_eq]
    unfold DuS.del
    rw [h.f.inU_eq]
    cases c1 : (s.U (s.y (H q))).has q (H q) with
    | true =>
      rw [if_pos rfl]
      show s.T.lv + lvSum (upd s.U (s.y (H q)) _) s.k = _
      rw [lvSum_upd h.k12 hy, del_lv, c1]
      simp; omega
    | false =>
      rw [if_neg Bool.false_ne_true]
      show (s.T.delT q (H q)).lv + lvSum s.U s.k = _
      rw [del_lv, Bool.false_or]
      omega
  · have u1 : ltSum (upd s.U (s.y (H q)) ((s.U (s.y (H q))).delT q (H q))) s.k ≤ ltSum s.U s.k := by
      rw [ltSum_upd h.k12 hy]
      have := del_lt (T := s.U (s.y (H q))) q (H q)
      omega
    have t1 : (s.T.delT q (H q)).lv ≤ s.T.lv := by rw [del_lv]; split <;> omega
    unfold DuS.del
    split
    · show s.T.lv + ltSum (upd s.U (s.y (H q)) _) s.k ≤ _; omega
    · show (s.T.delT q (H q)).lv + ltSum s.U s.k ≤ _; omega
  · have t1 := del_lt (T := s.T) q (H q)
    have hl2 := h.l2
    unfold DuS.del
    split
    · intro hb; have := hl2 hb; show s.T.lv + s.T.tb ≤ _; omega
    · intro hb; have := hl2 hb; show (s.T.delT q (H q)).lv + (s.T.delT q (H q)).tb ≤ _; omega
  · unfold DuS.del
    split
    · exact h.z
    · intro q' g' k' ha
      exact h.z q' g' k' (at_delT h.f.t.good ha)
theorem DuL.prep (h : DuL s H m c P V) : DuL s.prep H m c P V := by
  have hp : ∀ q, s.prep.has q (H q) = s.has q (H q) ∧ s.prep.ent q (H q) = s.ent q (H q) := fun q => by
    rw [h.f.prep.has_eq, h.f.prep.ent_eq, h.f.has_eq, h.f.ent_eq]; exact ⟨rfl, rfl⟩
  exact ⟨h.f.prep, fun q => by rw [(hp q).1, h.p], fun q => by rw [(hp q).2, h.e], h.c, h.l1, fun hb => h.l2 (by have : 0 < s.bare - 1 := hb; omega), h.z⟩
theorem DuL.move (h : DuL s H m c P V) (hHb : ∀ q, H q < 18446744073709551616) (hm : m ≤ 7 * (s.gn : Int)) (h0 : s.bare = 0) (hn : s.nx < s.T.n) :
    EvOk s.k s.d (entsL (s.T.M s.nx) (s.T.S s.nx)) s.U ∧ DuL s.move H m c P V := by
  obtain ⟨g1, g2, g3⟩ := group_ents h.f.t hHb hn
  have hT' := h.f.t.takeT hn
  have hlv := takeT_lv s.T s.nx
  have hlv0 := hT'.good.bounds.2.2.1
  have hl1 := h.l1
  have hnew : ∀ e ∈ entsL (s.T.M s.nx) (s.T.S s.nx), (s.U (tIx s.k s.d (H e.key))).has e.key (H e.key) = false := fun e he => by
    obtain ⟨k', ha⟩ := (g3 e.key).1 ⟨e, he, rfl⟩
    exact h.f.apart _ (h.f.t.has_of ha)
  obtain ⟨r1, r2, r3⟩ := evF_room h.f.u h.f.ok.hk _ g1 hnew g2 h.f.ok.u (by omega) _ (Nat.le_refl _)
  rw [List.take_length] at r1 r2 r3
  obtain ⟨m1, m2⟩ := h.f.move hHb h0 hn r1
  refine ⟨r1, m1, fun q => by rw [(m2 q).1, h.p], fun q => by rw [(m2 q).2, h.e], ?_, ?_, fun hb => ?_, fun q g' k' ha => ?_⟩
  · show (s.T.takeT s.nx).lv + lvSum (evF s.k s.d (entsL (s.T.M s.nx) (s.T.S s.nx)) (s.U, 0)).1 s.k = c
    have := h.c
    rw [r3, hlv]; omega
  · show (s.T.takeT s.nx).lv + ltSum (evF s.k s.d (entsL (s.T.M s.nx) (s.T.S s.nx)) (s.U, 0)).1 s.k ≤ m
    rw [hlv]; omega
  · have : 0 < s.bare := hb
    omega
  · obtain ⟨a1, a2⟩ := (at_takeT hn q g' k').1 ha
    have := h.z q g' k' a2
    show s.nx + 1 ≤ g'
    omega
theorem DuL.new {k d gn : Nat} {T : TabS} (hk : k = 1 ∨ (k = 2 ∧ d ≤ 15)) (hr : rightB (gn : Int) = true) (hT : TFun T H) (hm : T.lv + T.tb ≤ m) :
    DuL ⟨k, d, gn, k * gn, 0, T, fun _ => TabS.new gn⟩ H m T.lv (fun q => T.has q (H q)) (fun q => T.ent q (H q)) := by
  have hk' : k = 1 ∨ k = 2 := by omega
  have hgn : 1 ≤ gn := by rw [rightB_iff] at hr; omega
  have hb : ¬ k * gn = 0 := by rcases hk' with rfl | rfl <;> omega
  have hG : ∀ i, i < k → TGood (TabS.new gn) ∧ (TabS.new gn).n = gn := fun i _ => ⟨TGood.new hr, rfl⟩
  have hbd := hT.good.bounds
  have z1 : lvSum (fun _ => TabS.new gn) k = 0 := by rcases hk' with rfl | rfl; rw [lvSum_one]; rfl; rw [lvSum_two]; rfl
  have z2 : ltSum (fun _ => TabS.new gn) k = 0 := by rcases hk' with rfl | rfl; rw [ltSum_one]; rfl; rw [ltSum_two]; rfl
  refine ⟨⟨⟨hk, hr, Nat.le_refl _, Nat.zero_le _, hT.good, hG, fun _ => ⟨rfl, fun _ _ => rfl⟩⟩, hT, ⟨fun _ _ => TFun.new hr H, fun i _ q hq => by rw [new_no hr] at hq; cases hq⟩, fun q _ => new_no hr H q⟩, fun q => ?_, fun q => ?_, ?_, ?_, fun _ => hm, fun q g' k' _ => Nat.zero_le _⟩
  · unfold DuS.has DuS.inU
    dsimp only
    rw [decide_eq_false hb, Bool.false_and, Bool.false_or]
  · unfold DuS.ent DuS.inU
    dsimp only
    rw [decide_eq_false hb, Bool.false_and, if_neg Bool.false_ne_true]
  · show T.lv + lvSum (fun _ => TabS.new gn) k = T.lv
    rw [z1]; omega
  · show T.lv + ltSum (fun _ => TabS.new gn) k ≤ m
    rw [z2]; omega
theorem DuL.len (h : DuL s H m c P V) : ((s.all s.k).length : Int) = c := by
  rw [all_entsU, List.length_append, ← h.c]
  have e0 := ents_lv h.f.t.good
  rcases h.k12 with e | e
  · rw [e, lvSum_one]
    have e1 := ents_lv (h.f.ok.u 0 (by omega)).1
    show (((s.T.ents.length + ([] ++ (s.U 0).ents).length : Nat)) : Int) = _
    rw [List.nil_append]; omega
  · rw [e, lvSum_two]
    have e1 := ents_lv (h.f.ok.u 0 (by omega)).1
    have e2 := ents_lv (h.f.ok.u 1 (by omega)).1
    show (((s.T.ents.length + (([] ++ (s.U 0).ents) ++ (s.U 1).ents).length : Nat)) : Int) = _
    rw [List.nil_append, List.length_append]; omega
end
end Go.Proofs.YtolhmibejhldkaaGreatDoor

namespace Go.Proofs.YtolhmibejhldkaaGreatDoor
open Go.RowKit Go.Proofs
def oldT (g : Nat) (H : Int → Nat) (kx : Nat → Int) (v : Int) : Nat → TabS
  | 0 => TabS.new g
  | x + 1 => (oldT g H kx v x).putT (kx x) v (H (kx x))
section
variable {g gn : Nat} {H : Int → Nat} {kx : Nat → Int} {v : Int}
theorem oldT_ok (hr : rightB (g : Int) = true) (hH : ∀ q, H q < 18446744073709551616) : ∀ x, TFun (oldT g H kx v x) H ∧ (oldT g H kx v x).n = g ∧ (oldT g H kx v x).lv + (oldT g H kx v x).tb ≤ (x : Int)
  | 0 => ⟨TFun.new hr H, rfl, by show (0 : Int) + 0 ≤ _; omega⟩
  | x + 1 => by
    obtain ⟨h1, h2, h3⟩ := oldT_ok hr hH x
    refine ⟨h1.putT _ _ (hH _), (putT_nn _ _ _ _).trans h2, ?_⟩
    have := put_lt (T := oldT g H kx v x) (kx x) v (H (kx x))
    show ((oldT g H kx v x).putT (kx x) v (H (kx x))).lv + ((oldT g H kx v x).putT (kx x) v (H (kx x))).tb ≤ _
    split at this <;> omega
structure DuK (s : DuS) (H : Int → Nat) (g gn : Nat) (m c : Int) (P : Int → Bool) (V : Int → EntS) : Prop where
  l : DuL s H m c P V
  n : s.gn = gn ∧ s.T.n = g
variable {s : DuS} {m c : Int} {P : Int → Bool} {V : Int → EntS}
theorem put_gn (s : DuS) (q v : Int) (h : Nat) (more : Bool) : (s.put q v h more).gn = s.gn ∧ (s.put q v h more).T.n = s.T.n ∧ (s.put q v h more).nx = s.nx := by
  unfold DuS.put
  split
  · exact ⟨rfl, rfl, rfl⟩
  · split
    · exact ⟨rfl, putT_nn _ _ _ _, rfl⟩
    · split
      · exact ⟨rfl, rfl, rfl⟩
      · split
        · exact ⟨rfl, rfl, rfl⟩
        · exact ⟨rfl, putT_nn _ _ _ _, rfl⟩
theorem del_gn (s : DuS) (q : Int) (h : Nat) : (s.del q h).gn = s.gn ∧ (s.del q h).T.n = s.T.n ∧ (s.del q h).nx = s.nx := by
  unfold DuS.del
  split
  · exact ⟨rfl, rfl, rfl⟩
  · exact ⟨rfl, delT_nn _ _ _, rfl⟩
theorem DuK.more {m' : Int} (h : DuK s H g gn m c P V) (hm : m ≤ m') : DuK s H g gn m' c P V := ⟨h.l.more hm, h.n⟩
theorem DuK.okm (h : DuK s H g gn m c P V) (hm : m < 7 * (gn : Int)) (hm2 : m < 7 * (g : Int)) (q : Int) : s.ok q (H q) = true := h.l.okm (by rw [h.n.1]; exact hm) (fun _ => by rw [h.n.2]; exact hm2) q
theorem DuK.put (h : DuK s H g gn m c P V) (hm : m < 7 * (gn : Int)) (hm2 : m < 7 * (g : Int)) (q v : Int) (hh : H q < 18446744073709551616) : DuK (s.put q v (H q) true) H g gn (m + 1) (c + if P q = true then 0 else 1) (putP P q true) (putV V q ⟨q, v, H q⟩) := by
  have h1 := h.l.put q v hh
  rw [h.okm hm hm2 q, if_pos rfl, Bool.and_true] at h1
  rw [show (if (!P q) = true then (1 : Int) else 0) = if P q = true then 0 else 1 by cases P q <;> rfl] at h1
  obtain ⟨e1, e2, -⟩ := put_gn s q v (H q) true
  exact ⟨h1, by rw [e1, e2]; exact h.n⟩
theorem DuK.del (h : DuK s H g gn m c P V) (q : Int) : DuK (s.del q (H q)) H g gn m (c - if P q = true then 1 else 0) (putP P q false) (putV V q EntS.zero) := by
  obtain ⟨e1, e2, -⟩ := del_gn s q (H q)
  exact ⟨h.l.del q, by rw [e1, e2]; exact h.n⟩
theorem DuK.stp (h : DuK s H g gn m c P V) (hHb : ∀ q, H q < 18446744073709551616) (hm : m ≤ 7 * (gn : Int)) : s.evOk ∧ DuK s.stp H g gn m c P V ∧ s.stp.left = s.left - 1 := by
  have hm' : m ≤ 7 * (s.gn : Int) := by rw [h.n.1]; exact hm
  refine ⟨fun h0 hn => (h.l.move hHb hm' h0 hn).1, ?_⟩
  unfold DuS.stp
  by_cases h0 : s.bare = 0
  · rw [if_pos h0]
    by_cases hn : s.nx < s.T.n
    · rw [if_pos hn]
      refine ⟨⟨(h.l.move hHb hm' h0 hn).2, h.n.1, (takeT_n _ _).trans h.n.2⟩, ?_⟩
      unfold DuS.left
      show s.bare + ((s.T.takeT s.nx).n - (s.nx + 1)) = _
      rw [takeT_n]; omega
    · rw [if_neg hn]
      refine ⟨h, ?_⟩
      unfold DuS.left; omega
  · rw [if_neg h0]
    refine ⟨⟨h.l.prep, h.n⟩, ?_⟩
    unfold DuS.left
    show s.bare - 1 + (s.T.n - s.nx) = _
    omega
theorem DuK.new {k d : Nat} (hk : k = 1 ∨ (k = 2 ∧ d ≤ 15)) (hrn : rightB (gn : Int) = true) (hr : rightB (g : Int) = true) (hH : ∀ q, H q < 18446744073709551616) (x : Nat) :
    ∃ c P V, DuK (DuS.newS k d gn (oldT g H kx v x)) H g gn (x : Int) c P V := by
  obtain ⟨h1, h2, h3⟩ := oldT_ok (kx := kx) (v := v) hr hH x
  exact ⟨_, _, _, DuL.new hk hrn h1 h3, rfl, h2⟩
end
end Go.Proofs.YtolhmibejhldkaaGreatDoor

namespace Go.Proofs.YtolhmibejhldkaaGreatDoor
open Go.RowKit Go.Proofs
def ShortD (old new : Int) (n1 n2 : Nat) : Prop := 1 ≤ n1 ∧ n1 ≤ 60 ∧ n2 ≤ 60 ∧ rightB old = true ∧ old ≤ 16 ∧ (rightB new = true → new ≤ 32)
instance (old new : Int) (n1 n2 : Nat) : Decidable (ShortD old new n1 n2) := by unfold ShortD; infer_instance
end Go.Proofs.YtolhmibejhldkaaGreatDoor
