/- The document's lanes and words; Unfold. No condition. -/
import Derived.Test.YtcmjddkljmfklaaDoorSwar
import Derived.LoopN
import Derived.Test.YtcmjddkljmfklaaDoorEqInts
namespace Go.Proofs.YtcmjddkljmfklaaDoor
set_option linter.unusedVariables false
set_option linter.unusedSimpArgs false
open Go.RowKit Go.Proofs

/-- eight bytes as cells -/
def byteL (l : Nat → Nat) : List Value := [.int .u8 (l 0 : Int), .int .u8 (l 1 : Int), .int .u8 (l 2 : Int), .int .u8 (l 3 : Int), .int .u8 (l 4 : Int), .int .u8 (l 5 : Int), .int .u8 (l 6 : Int), .int .u8 (l 7 : Int)]
theorem ln_step (m i : Nat) : ln m (i + 1) = ln (m / 256) i := by
  unfold ln
  rw [show 8 * (i + 1) = 8 + 8 * i by omega, Nat.pow_add, ← Nat.div_div_eq_div_mul]
theorem ln_zero (m : Nat) : ln m 0 = m % 256 := by simp [ln]

set_option maxHeartbeats 2000000 in
theorem unfold_any (m : Nat) (hm : m < 18446744073709551616) (w : World) :
    Calls Tryd.prog 116 #[.int .u64 (m : Int)] w fun e w' => e = .returned (.agg (byteL (ln m)).toArray) ∧ Below w.heap.size w w' := by
  have LN := fun k hk w => lane_in m k hm hk w
  replace LN := Lib.hid LN
  go_enter Tryd.func116, Tryd.ntmps116
  go_wp2
  refine wp_loop_rounds 9 ?_
  rw [rounds_succ]
  go_wp2_with (go_at_call 114; refine (LN.out 0 (by decide) _).mono ?_; rintro e w' ⟨rfl, rfl⟩)
  rw [rounds_succ]
  go_wp2_with (go_at_call 114; refine (LN.out 1 (by decide) _).mono ?_; rintro e w' ⟨rfl, rfl⟩)
  rw [rounds_succ]
  go_wp2_with (go_at_call 114; refine (LN.out 2 (by decide) _).mono ?_; rintro e w' ⟨rfl, rfl⟩)
  rw [rounds_succ]
  go_wp2_with (go_at_call 114; refine (LN.out 3 (by decide) _).mono ?_; rintro e w' ⟨rfl, rfl⟩)
  rw [rounds_succ]
  go_wp2_with (go_at_call 114; refine (LN.out 4 (by decide) _).mono ?_; rintro e w' ⟨rfl, rfl⟩)
  rw [rounds_succ]
  go_wp2_with (go_at_call 114; refine (LN.out 5 (by decide) _).mono ?_; rintro e w' ⟨rfl, rfl⟩)
  rw [rounds_succ]
  go_wp2_with (go_at_call 114; refine (LN.out 6 (by decide) _).mono ?_; rintro e w' ⟨rfl, rfl⟩)
  rw [rounds_succ]
  go_wp2_with (go_at_call 114; refine (LN.out 7 (by decide) _).mono ?_; rintro e w' ⟨rfl, rfl⟩)
  rw [rounds_succ]
  go_wp2
  refine bodyPost_ret (v := .agg (byteL (ln m)).toArray) ?_ rfl ⟨rfl, by go_grown⟩
  simp [results, Tryd.results116, go_sem, byteL]
theorem with_inB (m i b : Nat) (hm : m < 18446744073709551616) (hi : i < 8) (hb : b < 256) (w : World) :
    Calls Tryd.prog 130 #[.int .u64 (m : Int), .int .i64 (i : Int), .int .u8 (b : Int)] w fun e w' => e = .returned (.int .u64 ((setL m i b : Nat) : Int)) ∧ Below w.heap.size w w' :=
  (with_in m i b hm hi hb w).mono fun e w' ⟨h1, h2⟩ => ⟨h1, h2 ▸ below_drewN (Below.refl _ _) 1⟩

set_option maxRecDepth 100000 in
theorem countsInfo8 : ∃ i, Tryd.prog.info? 5 = some i := ⟨_, rfl⟩
set_option maxRecDepth 100000 in
theorem eq_bytes (l l' : Nat → Nat) (w : World) : (Op.equalIn 10000 166 (.agg (byteL l).toArray) (.agg (byteL l').toArray)).run Tryd.prog w = .ok (decide ([l 0, l 1, l 2, l 3, l 4, l 5, l 6, l 7] = [l' 0, l' 1, l' 2, l' 3, l' 4, l' 5, l' 6, l' 7])) w := by
  obtain ⟨i, hi⟩ := countsInfo8
  have := run_eq_ints (P := Tryd.prog) (w := w) (d := 9998) (k := .u8) Tryd.underlying166 hi Tryd.underlying5 (by kernel_rfl) ([l 0, l 1, l 2, l 3, l 4, l 5, l 6, l 7].map fun n : Nat => (n : Int)) ([l' 0, l' 1, l' 2, l' 3, l' 4, l' 5, l' 6, l' 7].map fun n : Nat => (n : Int)) rfl rfl
  have e : ∀ f : Nat → Nat, (([f 0, f 1, f 2, f 3, f 4, f 5, f 6, f 7].map fun n : Nat => (n : Int)).map (Value.int .u8)) = byteL f := fun f => rfl
  rw [e, e] at this
  rw [this]
  congr 1
  rw [decide_eq_decide]
  constructor
  · intro h; simp only [List.map_cons, List.map_nil, List.cons.injEq, and_true] at h ⊢; omega
  · intro h; rw [h]
end Go.Proofs.YtcmjddkljmfklaaDoor
