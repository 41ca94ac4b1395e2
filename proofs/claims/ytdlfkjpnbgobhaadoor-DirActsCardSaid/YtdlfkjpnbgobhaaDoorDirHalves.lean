/- The walk of DirHalves. Condition: the error's cell. -/
import Derived.Test.YtdlfkjpnbgobhaaDoorDir
import Derived.Deep.Cut
namespace Go.Proofs.YtdlfkjpnbgobhaaDoor
set_option linter.unusedVariables false
set_option linter.unusedSimpArgs false
open Go.RowKit Go.Proofs

theorem readsInts_gives {w : World} {a : Option Addr} {base cap : Nat} {xs : List Int} (h : w.ownsRow base 3 1 (.slice a xs.length cap) xs.length (xs.map (Value.int .i64))) : ReadsInts w (.slice a xs.length cap) xs := readsInts_own h
set_option maxRecDepth 100000 in
set_option maxHeartbeats 1600000 in
theorem alive16_any (E : Nat → Addr) (w : World) (he : EC w E [1]) :
    Calls Tryd.prog 56 #[] w fun e w' => e = .returned (.bool true) ∧ Below w.heap.size w w' := by
  clear he
  have LI := Lib.hid (fun (w : World) B R (h : DW w B R 2 [0, 0, 7, 7]) => dlist_any B R 2 [0, 0, 7, 7] w h)
  go_enter Tryd.func56, Tryd.ntmps56
  go_wp2_with (first
    | (go_at_call 57; refine (dnew_ok 2 (by decide) _).mono ?_; rintro e w1 ⟨B, R, rfl, h, hB, hR, hb1⟩; have hD := Lib.hid (show DW w1 B R 2 [0, 0, 0, 0] from h); clear h)
    | (go_at_call 59; refine (dset_ok B R 2 1 1 [0, 0, 0, 0] 7 (by decide) (by decide) (by decide) _ hD.out).mono ?_; rintro e w2 ⟨rfl, h2, hc2⟩; have hD2 := Lib.hid (show DW w2 B R 2 [0, 0, 7, 7] from h2); have hb2 := hb1.trans (hc2.below hb1.size (fun k hk e => by omega)); clear h2)
    | (go_at_call 67; refine (LI.out _ B R hD2.out).mono ?_; rintro e w3 ⟨a3, c3, rfl, hr, hb3⟩; have hr3 := Lib.hid (readsInts_gives hr); clear hr)
    | (go_at_call 55; refine (sameInts_any _ _ [0, 0, 7, 7] [0, 0, 7, 7] _ (hr3.out.later (by go_grown)) (readsInts_blk (B := w3.heap.size) (xs := [0, 0, 7, 7]) (Blk.new _ _ _) rfl) (by decide)).mono ?_; rintro e w' ⟨rfl, rfl⟩))
  go_ret
  exact ⟨rfl, Below.trans (hb2.trans (hb3.mono hb2.size)) (by have := hb2.size; have := hb3.size; exact (Below.refl _ _).alloc (by omega) _)⟩
theorem list_ext_getD {xs ys : List Int} (hl : xs.length = ys.length) (h : ∀ j, j < xs.length → xs.getD j 0 = ys.getD j 0) : xs = ys := by
  apply List.ext_getElem hl
  intro j h1 h2
  have := h j h1
  simpa [List.getD_eq_getElem?_getD, List.getElem?_eq_getElem h1, List.getElem?_eq_getElem h2] using this
theorem setsL_halves (es : List Int) (p h : Nat) (x : Int) (hb : (2 * p + 2) * h ≤ es.length) : setsL (setsL es ((2 * p) * h) h x) ((2 * p + 1) * h) h x = setsL es (p * (2 * h)) (2 * h) x := by
  have e1 : (2 * p) * h = p * (2 * h) := by rw [Nat.mul_comm 2 p, Nat.mul_assoc]
  have e2 : (2 * p + 1) * h = p * (2 * h) + h := by rw [Nat.add_mul, e1, Nat.one_mul]
  have e3 : (2 * p + 2) * h = p * (2 * h) + 2 * h := by rw [Nat.add_mul, e1]
  rw [e1, e2]
  rw [e3] at hb
  generalize p * (2 * h) = a at *
  apply list_ext_getD (by simp [setsL_len])
  intro j hj
  simp only [setsL_len] at hj
  rw [setsL_get _ _ _ _ (by rw [setsL_len]; omega) _ (by rw [setsL_len]; omega), setsL_get _ _ _ _ (by omega) _ hj, setsL_get _ _ _ _ (by omega) _ hj]
  by_cases c1 : a + h ≤ j ∧ j < a + h + h
  · rw [if_pos c1, if_pos (by omega)]
  · rw [if_neg c1]
    by_cases c2 : a ≤ j ∧ j < a + h
    · rw [if_pos c2, if_pos (by omega)]
    · rw [if_neg c2, if_neg (by omega)]
/-- the first k prefixes of y entries each are numbered -/
def NumD (es : List Int) (y k : Nat) : Prop := ∀ j, j < k * y → es.getD j 0 = 100 + ((j / y : Nat) : Int)
theorem numD_next {es : List Int} {y k : Nat} (hy : 0 < y) (h : NumD es y k) (hb : k * y + y ≤ es.length) : NumD (setsL es (k * y) y (100 + (k : Int))) y (k + 1) := by
  intro j hj
  rw [Nat.add_mul, Nat.one_mul] at hj
  rw [setsL_get _ _ _ _ hb _ (by omega)]
  by_cases c : k * y ≤ j ∧ j < k * y + y
  · rw [if_pos c]
    have : j / y = k := by
      apply Nat.div_eq_of_lt_le
      · exact c.1
      · rw [Nat.add_mul, Nat.one_mul]; exact c.2
    rw [this]
  · rw [if_neg c]; exact h j (by omega)
theorem dnew_badI (a : Int) (ha : a < 0 ∨ 5 < a) (E : Nat → Addr) (w : World) (he : EC w E [1]) :
    Calls Tryd.prog 57 #[.int .i64 a] w fun e w' => e = .returned (.tuple #[.pointer none, .iface 173 (.pointer (some (E 1)))]) ∧ Below w.heap.size w w' := dnew_bad a ha E w he
theorem halves_facts (d k p : Nat) (hd5 : d ≤ 5) (hkd : k < d) (hp : p < 2 ^ k) : ∃ h y M : Nat, h = 2 ^ (d - (k + 1)) ∧ y = 2 ^ (d - k) ∧ M = 2 ^ k ∧ y = 2 * h ∧ 0 < h ∧ y ≤ 32 ∧ M ≤ 32 ∧ M * y = 2 ^ d ∧ p < M ∧ (2 * p + 2) * h ≤ 2 ^ d := by
  have hyh : 2 ^ (d - k) = 2 * 2 ^ (d - (k + 1)) := by rw [show d - k = d - (k + 1) + 1 by omega, Nat.pow_succ, Nat.mul_comm]
  have hMy : 2 ^ k * 2 ^ (d - k) = 2 ^ d := by rw [← Nat.pow_add]; congr 1; omega
  have h5 : ∀ m, m ≤ 5 → 2 ^ m ≤ 32 := fun m hm => Nat.pow_le_pow_right (by decide) hm
  refine ⟨_, _, _, rfl, rfl, rfl, hyh, Nat.two_pow_pos _, h5 _ (by omega), h5 _ (by omega), hMy, hp, ?_⟩
  rw [← hMy, hyh, show 2 * p + 2 = (p + 1) * 2 by omega, Nat.mul_assoc]
  exact Nat.mul_le_mul_right _ hp
end Go.Proofs.YtdlfkjpnbgobhaaDoor
