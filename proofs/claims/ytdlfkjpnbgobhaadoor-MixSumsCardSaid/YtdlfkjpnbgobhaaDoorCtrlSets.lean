/- The walks of CtrlSets and CtrlApart. Condition: the errors. -/
import Derived.Test.YtdlfkjpnbgobhaaDoorCtrlLaws
namespace Go.Proofs.YtdlfkjpnbgobhaaDoor
set_option linter.unusedVariables false
set_option linter.unusedSimpArgs false
open Go.RowKit Go.Proofs

set_option maxRecDepth 100000 in
set_option maxHeartbeats 4000000 in
theorem ctrlSets_any (m b : Nat) (i : Int) (hm : m < 18446744073709551616) (hb : b < 256) (E : Nat → Addr) (w0 : World) (he : ErrsAre w0 E) :
    Calls Tryd.prog 9 #[.int .u64 (m : Int), .int .i64 i, .int .u8 (b : Int)] w0 fun e w' => e = .returned (.bool true) ∧ Below w0.heap.size w0 w' := by
  have HE := Lib.hid he
  have HE3 := Lib.hid (show EC w0 E [1, 3] from he.ec.sub (by decide))
  have AL := Lib.hid alive02_any
  have NW := Lib.hid (show ∀ w, Calls Tryd.prog 53 #[] w fun e w' => e = .returned (.int .u64 9259542123273814144) ∧ w = w' from fun w => cnew_any w)
  have y0 : ((9259542123273814144 : Int) == 9259542123273814144) = true := by decide
  clear he
  by_cases hi : i < 0 ∨ 8 ≤ i
  · have SE := Lib.hid (fun w' (h : EC w' E [1, 3]) => cset_range m b i hi E w' (h.sub (by decide)))
    have RS := Lib.hid (fun w' => (rset02_range m b i hi w').mono fun e w1 ⟨h1, h2⟩ => (⟨h1, h2 ▸ Below.refl _ _⟩ : _ ∧ Below w'.heap.size w' w1))
    have NU := Lib.hid (fun w' h => num_any E 1 (by decide) w' h)
    simp only [errN, errAt] at NU SE
    clear hi
    go_enter Tryd.func9, Tryd.ntmps9
    go_wp2_with (first
      | (go_at_call 15; refine (AL.out _).mono ?_; rintro e w1 ⟨rfl, hb1⟩)
      | (go_at_call 51; refine (SE.out _ (HE3.out.below hb1)).mono ?_; rintro e w2 ⟨rfl, hb2⟩; have hb3 := hb1.trans (hb2.mono hb1.size))
      | (go_at_call 52; refine (RS.out _).mono ?_; rintro e w4 ⟨rfl, hb4⟩; have hb5 := hb3.trans (hb4.mono hb3.size))
      | (go_at_call 40; refine (NU.out _ (HE.out.below hb5)).mono ?_; rintro e w6 ⟨rfl, hb6⟩)
      | (go_at_call 53; refine (NW.out _).mono ?_; rintro e w' ⟨rfl, rfl⟩))
    go_ret
    exact ⟨rfl, hb5.trans (hb6.mono hb5.size)⟩
  · obtain ⟨k, rfl⟩ : ∃ k : Nat, i = (k : Int) := ⟨i.toNat, by omega⟩
    by_cases hc : ctrlB b = true
    · have SE := Lib.hid (fun w' (h : EC w' E [1, 3]) => cset_ok m k b hm (by omega) hb hc w')
      have RS := Lib.hid (fun w' => rset02_ok m k b hm (by omega) hb hc w')
      have NU := Lib.hid (fun w' h => num_any E 0 (by decide) w' h)
      simp only [errN] at NU
      generalize setL m k b = y at *
      have y1 : ((y : Int) == (y : Int)) = true := by simp
      clear hi hc
      go_enter Tryd.func9, Tryd.ntmps9
      go_wp2_with (first
        | (go_at_call 15; refine (AL.out _).mono ?_; rintro e w1 ⟨rfl, hb1⟩)
        | (go_at_call 51; refine (SE.out _ (HE3.out.below hb1)).mono ?_; rintro e w2 ⟨rfl, hb2⟩; have hb3 := hb1.trans (hb2.mono hb1.size))
        | (go_at_call 52; refine (RS.out _).mono ?_; rintro e w4 ⟨rfl, hb4⟩; have hb5 := hb3.trans (hb4.mono hb3.size))
        | (go_at_call 40; refine (NU.out _ (HE.out.below hb5)).mono ?_; rintro e w6 ⟨rfl, hb6⟩)
        | (go_at_call 53; refine (NW.out _).mono ?_; rintro e w' ⟨rfl, rfl⟩))
      go_ret
      exact ⟨rfl, hb5.trans (hb6.mono hb5.size)⟩
    · have SE := Lib.hid (fun w' (h : EC w' E [1, 3]) => cset_form m b k (by omega) (by omega) hb (by simpa using hc) E w' (h.sub (by decide)))
      have RS := Lib.hid (fun w' => (rset02_form m b k (by omega) (by omega) hb (by simpa using hc) w').mono fun e w1 ⟨h1, h2⟩ => (⟨h1, h2 ▸ Below.refl _ _⟩ : _ ∧ Below w'.heap.size w' w1))
      have NU := Lib.hid (fun w' h => num_any E 3 (by decide) w' h)
      simp only [errN, errAt] at NU SE
      clear hi hc
      go_enter Tryd.func9, Tryd.ntmps9
      go_wp2_with (first
        | (go_at_call 15; refine (AL.out _).mono ?_; rintro e w1 ⟨rfl, hb1⟩)
        | (go_at_call 51; refine (SE.out _ (HE3.out.below hb1)).mono ?_; rintro e w2 ⟨rfl, hb2⟩; have hb3 := hb1.trans (hb2.mono hb1.size))
        | (go_at_call 52; refine (RS.out _).mono ?_; rintro e w4 ⟨rfl, hb4⟩; have hb5 := hb3.trans (hb4.mono hb3.size))
        | (go_at_call 40; refine (NU.out _ (HE.out.below hb5)).mono ?_; rintro e w6 ⟨rfl, hb6⟩)
        | (go_at_call 53; refine (NW.out _).mono ?_; rintro e w' ⟨rfl, rfl⟩))
      go_ret
      exact ⟨rfl, hb5.trans (hb6.mono hb5.size)⟩

/-! ### CtrlApart -/
theorem apart_cnt (m : Nat) (h : ∀ i, i < 8 → ctrlB (ln m i) = true) : (lanesL (highB (maskB (equalB m 128)))).length + (lanesL (highB (maskB (equalB m 254)))).length + (lanesL (highB (maskB (fullB m)))).length = 8 := by
  rw [lanesL_congr (maskB_high (equalB m 128)), lanesL_congr (maskB_high (equalB m 254)), lanesL_congr (maskB_high (fullB m)),
    cnt_or _ _ (fun i hi => by unfold equalB; rw [Bool.eq_false_iff]; simp; omega),
    cnt_or _ _ (fun i hi => by unfold equalB fullB highB; rw [Bool.eq_false_iff]; simp; omega)]
  rw [lanesL_congr (g := fun _ => true) (fun i hi => by have := h i hi; unfold ctrlB at this; unfold equalB fullB highB; simp at this ⊢; omega)]
  decide
theorem apart_or (m : Nat) (h : ∀ i, i < 8 → ctrlB (ln m i) = true) : maskB (equalB m 128) ||| maskB (equalB m 254) = maskB (highB m) := ((right_eq m).2 h).symm
theorem apart_and (m : Nat) : maskB (fullB m) &&& maskB (highB m) = 0 := by
  rw [mask_and]; exact maskB_none fun i _ => by unfold fullB; cases highB m i <;> rfl
theorem setL_back (m i b : Nat) (hm : m < 18446744073709551616) (hi : i < 8) (hb : b < 256) : setL (setL m i b) i (ln m i) = m := by
  refine ln_ext (setL_lt _ _ _ (ln_lt _ _)) hm fun k hk => ?_
  rw [ln_setL _ _ _ _ (ln_lt _ _) hk]
  by_cases e : k = i
  · subst e; rw [if_pos rfl]
  · rw [if_neg e, ln_setL _ _ _ _ hb hk, if_neg e]
theorem right_setL (m i b : Nat) (hb : b < 256) (hc : ctrlB b = true) (h : ∀ i, i < 8 → ctrlB (ln m i) = true) : rightB (setL m i b) = true := by
  rw [rightB_iff]
  intro k hk
  rw [ln_setL _ _ _ _ hb hk]
  split
  · exact hc
  · exact h k hk
end Go.Proofs.YtdlfkjpnbgobhaaDoor
