/- Package group: Free. Condition: the table of package bits. -/
import Derived.Test.YtcmjddkljmfklaaDoorGroup
namespace Go.Proofs.YtcmjddkljmfklaaDoor
set_option linter.unusedVariables false
set_option linter.unusedSimpArgs false
open Go.RowKit Go.Proofs

theorem firstL_congr {f g : Nat → Bool} (h : ∀ i, i < 8 → f i = g i) : firstL f = firstL g := by
  have h0 := h 0 (by decide); have h1 := h 1 (by decide); have h2 := h 2 (by decide); have h3 := h 3 (by decide)
  have h4 := h 4 (by decide); have h5 := h 5 (by decide); have h6 := h 6 (by decide); have h7 := h 7 (by decide)
  unfold firstL
  simp only [firstFrom, h0, h1, h2, h3, h4, h5, h6, h7]
/-- the least free slot -/
def freeZ (m : Nat) : Int := match firstL (highB m) with | none => -1 | some j => (j : Int)
theorem first_any (m : Nat) (hm : m < 18446744073709551616) (w : World) (hT : Tab64 w) : Calls Tryd.prog 97 #[.int .u64 (m : Int)] w fun e w' => e = .returned (.int .i64 (freeZ m)) ∧ w = w' := by
  unfold freeZ
  cases h : firstL (highB m) with
  | none => exact first_none m hm h w
  | some j => exact first_some m j hm h w hT
theorem free_mask (m : Nat) : freeZ (maskB (highB m)) = freeZ m := by
  unfold freeZ
  rw [firstL_congr (maskB_high (highB m))]
set_option maxRecDepth 100000 in
set_option maxHeartbeats 1000000 in
theorem gfree_any (G o m : Nat) (s : Nat → EntS) (hm : m < 18446744073709551616) (w : World) (h : GW w G o m s) (hT : Tab64 w) :
    Calls Tryd.prog 51 #[.agg #[.pointer (some ⟨G, o, none⟩)]] w fun e w' => e = .returned (.int .i64 (freeZ m)) ∧ Below w.heap.size w w' := by
  have c0 := h.word
  have hl := h.lt
  have E := Lib.hid (cfrees_any m hm)
  have C := fun w' (hb : Below w.heap.size w w') => first_any (maskB (highB m)) (maskB_lt _) w' (hT.below hb)
  rw [free_mask] at C
  replace C := Lib.hid C
  generalize maskB (highB m) = q at *
  generalize freeZ m = ob at *
  clear h hT
  go_enter Tryd.func51, Tryd.ntmps51
  go_wp2_with (first
    | (go_at_call 98; refine (E.out _).mono ?_; rintro e w' ⟨rfl, rfl⟩)
    | (go_at_call 97; refine (C.out _ (by go_grown)).mono ?_; rintro e w' ⟨rfl, rfl⟩))
  go_ret
  exact ⟨rfl, by go_grown⟩
end Go.Proofs.YtcmjddkljmfklaaDoor
