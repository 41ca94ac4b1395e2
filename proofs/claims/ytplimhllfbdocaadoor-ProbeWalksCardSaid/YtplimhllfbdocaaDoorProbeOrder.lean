/- probe.Order and the chapter's example. No condition. -/
import Derived.Test.YtplimhllfbdocaaDoorProbe
import Derived.Test.YtplimhllfbdocaaDoorCollect
import Derived.Test.YtplimhllfbdocaaDoorNum
namespace Go.Proofs.YtplimhllfbdocaaDoor
set_option linter.unusedVariables false
set_option linter.unusedSimpArgs false
open Go.RowKit Go.Proofs
attribute [local go_sem] Oper.semAt_some wide_depth round_depth wide_fn round_fn

/-- how many places a walk has -/
def ordN (n : Int) : Nat := if rightB n then n.toNat else 0
/-- Order's list -/
def ordL (h : Nat) (n : Int) : List Int := (List.range (ordN n)).map fun i => ((walkAt h n.toNat i : Nat) : Int)
theorem ordN_le (n : Int) : ordN n ≤ 64 := by
  unfold ordN; split
  · rename_i h; rw [rightB_iff] at h; omega
  · omega
theorem ordL_length (h : Nat) (n : Int) : (ordL h n).length = ordN n := by simp [ordL]
theorem ordL_map (h : Nat) (n : Int) : (ordL h n).map (Value.int .i64) = (List.range (ordN n)).map (encI (fun i => ((walkAt h n.toNat i : Nat) : Int))) := by
  simp [ordL, encI]

theorem enters_walk (args : Array Value) (w : World) : (callFunc 110 args).run Tryd.prog w = .ok (.enter 110 args) w :=
  enters_of Tryd.func110 (by kernel_rfl) rfl args w

/-- what Walk hands back goes over the walk's places, in whatever later world -/
theorem walk_any_gives (h : Nat) (n : Int) (hh : h < 18446744073709551616) (w : World) :
    GivesAt Tryd.prog 110 #[.pointer (some ⟨w.heap.size + 1, 0, none⟩), .pointer (some ⟨w.heap.size, 0, none⟩)] (fun i => #[.int .i64 ((walkAt h n.toNat i : Nat) : Int)]) (ordN n) (fun b => b = w.heap.size ∨ b = w.heap.size + 1)
      ((w.alloc (.cells #[.int .u64 (h : Int)] 22)).alloc (.cells #[.int .i64 n] 3)) := by
  have c1 : ((w.alloc (.cells #[.int .u64 (h : Int)] 22)).alloc (.cells #[.int .i64 n] 3)).cell? ⟨w.heap.size + 1, 0, none⟩ = some (.int .i64 n) := by
    rw [(Blk.new_at (by simp)).cell]; rfl
  have c0 : ((w.alloc (.cells #[.int .u64 (h : Int)] 22)).alloc (.cells #[.int .i64 n] 3)).cell? ⟨w.heap.size, 0, none⟩ = some (.int .u64 (h : Int)) := by
    rw [((Blk.new_at rfl).alloc _).cell]; rfl
  unfold ordN
  split
  · rename_i hr
    obtain ⟨g, rfl⟩ := Int.eq_ofNat_of_zero_le (show 0 ≤ n by rw [rightB_iff] at hr; omega)
    exact walk_gives h g hr hh w.heap.size (w.heap.size + 1) _ c0 c1
  · rename_i hr
    exact walk_gives_none n (by simpa using hr) w.heap.size (w.heap.size + 1) _ _ c1

set_option maxHeartbeats 1000000 in
theorem order_any (h : Nat) (n : Int) (hh : h < 18446744073709551616) (w : World) :
    Calls Tryd.prog 40 #[.int .u64 (h : Int), .int .i64 n] w fun e w' => ∃ v, e = .returned v ∧
      w'.ownsRow w.heap.size 3 1 v (ordN n) ((ordL h n).map (Value.int .i64)) ∧ Below w.heap.size w w' := by
  have hc := Lib.hid (collect_any _ _ (fun i => ((walkAt h n.toNat i : Nat) : Int)) (ordN n) (fun b => b = w.heap.size ∨ b = w.heap.size + 1) _ (fun b hb => by simp; omega) (by have := ordN_le n; omega) enters_walk (walk_any_gives h n hh w))
  go_enter Tryd.func40, Tryd.ntmps40
  go_wp2_with (first
    | (go_at_call 37; refine (walk_any _ _ _).mono ?_; rintro e w' ⟨rfl, rfl⟩)
    | (go_at_call 111; refine hc.out.mono ?_; rintro e w' ⟨v, rfl, h1, h2, h3⟩; have H1 := Lib.hid h1; clear h1 h2))
  go_ret
  have h1 := H1.out
  rw [← ordL_map] at h1
  refine ⟨v, rfl, ?_, (((Below.refl _ w).alloc (Nat.le_refl _) _).alloc (by simp) _).trans (h3.mono (by simp; omega))⟩
  obtain ⟨k1, k2⟩ := h1
  refine ⟨k1, ?_⟩
  rcases k2 with k2 | ⟨g, cap, cur, q1, q2, q3⟩
  · exact .inl k2
  · exact .inr ⟨g, cap, cur, q1, by simp at q2; omega, q3⟩

/-- Order, as what its list reads as -/
theorem order_rd (x n : Int) (h0 : 0 ≤ x) (h1 : x < 18446744073709551616) (w : World) :
    Calls Tryd.prog 40 #[.int .u64 x, .int .i64 n] w fun e w' => ∃ a cap, e = .returned (.slice a (ordN n) cap) ∧
      ReadsInts w' (.slice a (ordN n) cap) (ordL x.toNat n) ∧ Below w.heap.size w w' := by
  obtain ⟨h, rfl⟩ := Int.eq_ofNat_of_zero_le h0
  refine (order_any h n (by omega) w).mono ?_
  rintro e w' ⟨v, rfl, hv, hb⟩
  have hr := readsInts_own hv
  obtain ⟨a, cap, rfl, hx⟩ := hr
  rw [ordL_length]
  exact ⟨a, cap, rfl, ⟨a, cap, by rw [Int.toNat_natCast, ordL_length], by rw [Int.toNat_natCast]; exact hx⟩, hb⟩
theorem ordL_get (h : Nat) (n : Int) (k : Nat) (hk : k < (ordL h n).length) : (ordL h n)[k] = ((walkAt h n.toNat k : Nat) : Int) := by simp [ordL]

theorem ordL_14 : ordL 1 4 = [1, 2, 0, 3] := by decide
theorem readsInts_later_alloc {w : World} {v : Value} {xs : List Int} (h : ReadsInts w v xs) (o : Obj) : ReadsInts (w.alloc o) v xs := h.later ((Below.refl _ w).alloc (Nat.le_refl _) _)

set_option maxHeartbeats 1000000 in
theorem alive04_any (w : World) :
    Calls Tryd.prog 31 #[] w fun e w' => e = .returned (.bool true) ∧ Below w.heap.size w w' := by
  go_enter Tryd.func31, Tryd.ntmps31
  go_wp2_with (first
    | (go_at_call 40; refine (order_any 1 4 (by decide) _).mono ?_; rintro e w' ⟨v, rfl, h1, h2⟩; have H1 := Lib.hid h1; clear h1)
    | (go_at_call 39; refine (sameInts_any _ _ (ordL 1 4) [1, 2, 0, 3] _ (readsInts_later_alloc (readsInts_own H1.out) _) (readsInts_blk (Blk.new _ _ _) rfl) (by rw [ordL_length]; have := ordN_le 4; omega)).mono ?_; rw [ordL_14]; rintro e w' ⟨rfl, rfl⟩)
    | (go_at_call 35; refine (right_any _ _).mono ?_; rintro e w' ⟨rfl, rfl⟩))
  go_ret
  exact ⟨rfl, h2.alloc h2.size _⟩

end Go.Proofs.YtplimhllfbdocaaDoor
