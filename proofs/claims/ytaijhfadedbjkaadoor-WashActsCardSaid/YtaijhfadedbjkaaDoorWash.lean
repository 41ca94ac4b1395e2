/- The walks of credit's ledger and of wash. No condition. -/
import Derived.Test.YtaijhfadedbjkaaDoorMeter
import Derived.LoopTactic
namespace Go.Proofs.YtaijhfadedbjkaaDoor
set_option linter.unusedVariables false
set_option linter.unusedSimpArgs false
open Go.RowKit Go.Proofs
attribute [local go_sem high] run_minZ run_maxZ

theorem balance_any (B off : Nat) (b : Int) (w : World) (hc : w.cell? ⟨B, off, none⟩ = some (.int .i64 b)) :
    Calls Tryd.prog 16 #[.pointer (some ⟨B, off, none⟩)] w fun e w' => e = .returned (.int .i64 b) ∧ w = w' := by
  go_enter Tryd.func16, Tryd.ntmps16
  go_wp2
  go_ret
  exact ⟨rfl, rfl⟩
/-- how many are really deposited -/
def depZ (b n : Int) : Int := mnZ (mxZ n 0) (1099511627776 - b)
theorem depZ_bd {b n : Int} (h0 : 0 ≤ b) (h1 : b ≤ 1099511627776) : 0 ≤ depZ b n ∧ b + depZ b n ≤ 1099511627776 := by unfold depZ mnZ mxZ; omega
set_option maxHeartbeats 800000 in
theorem deposit_any (B off : Nat) (b n : Int) (h0 : 0 ≤ b) (h1 : b ≤ 1099511627776) (w : World) (hc : w.cell? ⟨B, off, none⟩ = some (.int .i64 b)) (hf : w.frozen? ⟨B, off, none⟩ = false) :
    Calls Tryd.prog 13 #[.pointer (some ⟨B, off, none⟩), .int .i64 n] w fun e w' => e = .returned (.int .i64 (depZ b n)) ∧ w.setCell ⟨B, off, none⟩ (.int .i64 (b + depZ b n)) = w' := by
  have hd := depZ_bd (n := n) h0 h1
  have he : mnZ (mxZ n 0) (1099511627776 - b) = depZ b n := rfl
  go_enter Tryd.func13, Tryd.ntmps13
  go_wp2
  go_ret
  exact ⟨rfl, rfl⟩
theorem ledgerSpend_no (B off : Nat) (b n : Int) (hn : b < n) (h0 : 0 ≤ n) (w : World) (hc : w.cell? ⟨B, off, none⟩ = some (.int .i64 b)) :
    Calls Tryd.prog 14 #[.pointer (some ⟨B, off, none⟩), .int .i64 n] w fun e w' => e = .returned (.bool false) ∧ w = w' := by
  have h2 : decide (n < 0) = false := by simp; omega
  go_enter Tryd.func14, Tryd.ntmps14
  go_wp2
  go_ret
  exact ⟨rfl, rfl⟩
theorem ledgerSpend_yes (B off : Nat) (b n : Int) (hn : n ≤ b) (h0 : 0 ≤ n) (hb : b ≤ 1099511627776) (w : World) (hc : w.cell? ⟨B, off, none⟩ = some (.int .i64 b)) (hf : w.frozen? ⟨B, off, none⟩ = false) :
    Calls Tryd.prog 14 #[.pointer (some ⟨B, off, none⟩), .int .i64 n] w fun e w' => e = .returned (.bool true) ∧ w.setCell ⟨B, off, none⟩ (.int .i64 (b - n)) = w' := by
  have h2 : decide (n < 0) = false := by simp; omega
  have h3 : decide (b < n) = false := by simp; omega
  go_enter Tryd.func14, Tryd.ntmps14
  go_wp2
  go_ret
  exact ⟨rfl, rfl⟩

/-- a wash's cells -/
def washC (L G : Int) (x y : Value) : Array Value := #[.int .i64 L, x, .int .i64 G, y]
theorem wash_cells {w : World} {B : Nat} {T : TypeId} {L G : Int} {x y : Value} (h : Blk w B T (washC L G x y)) :
    w.cell? ⟨B, 0, none⟩ = some (.int .i64 L) ∧ w.cell? ⟨B, 2, none⟩ = some (.int .i64 G) ∧ w.frozen? ⟨B, 0, none⟩ = false ∧ w.frozen? ⟨B, 2, none⟩ = false := ⟨h.cell 0, h.cell 2, h.frozen 0, h.frozen 2⟩

theorem left_any (B : Nat) (T : TypeId) (L G : Int) (x y : Value) (w : World) (h : Blk w B T (washC L G x y)) :
    Calls Tryd.prog 10 #[.pointer (some ⟨B, 0, none⟩)] w fun e w' => e = .returned (.int .i64 L) ∧ w = w' := by
  have hb := balance_any B 0 L w (h.cell 0)
  clear h
  go_enter Tryd.func10, Tryd.ntmps10
  go_wp2_with (go_at_call 16; refine hb.mono ?_; rintro e w' ⟨rfl, rfl⟩)
  go_ret
  exact ⟨rfl, rfl⟩
theorem gone_any (B : Nat) (T : TypeId) (L G : Int) (x y : Value) (w : World) (h : Blk w B T (washC L G x y)) :
    Calls Tryd.prog 11 #[.pointer (some ⟨B, 0, none⟩)] w fun e w' => e = .returned (.int .i64 G) ∧ w = w' := by
  have hb := balance_any B 2 G w (h.cell 2)
  clear h
  go_enter Tryd.func11, Tryd.ntmps11
  go_wp2_with (go_at_call 16; refine hb.mono ?_; rintro e w' ⟨rfl, rfl⟩)
  go_ret
  exact ⟨rfl, rfl⟩
theorem washAdd_any (B : Nat) (T : TypeId) (L G n : Int) (x y : Value) (h0 : 0 ≤ L) (h1 : L ≤ 1099511627776) (w : World) (h : Blk w B T (washC L G x y)) :
    Calls Tryd.prog 5 #[.pointer (some ⟨B, 0, none⟩), .int .i64 n] w fun e w' => e = .returned (.int .i64 (depZ L n)) ∧ Blk w' B T (washC (L + depZ L n) G x y) ∧ Chg (fun b => b = B) w w' := by
  have hb := deposit_any B 0 L n h0 h1 w (h.cell 0) (h.frozen 0)
  have H := Lib.hid h
  clear h
  go_enter Tryd.func5, Tryd.ntmps5
  go_wp2_with (go_at_call 13; refine hb.mono ?_; rintro e w' ⟨rfl, rfl⟩)
  go_ret
  exact ⟨rfl, H.out.set 0 _, (Chg.refl _ _).set1 _ _⟩

/-- the meter behind G units -/
def mtrS (G : Int) : MeterS := ⟨0, 0, G, 0, 0, G, false, 0⟩
theorem mtrS_add {G : Int} (h0 : 0 ≤ G) (h1 : G < 1099511627776) : (mtrS G).add 0 0 1 = mtrS (G + 1) := by
  unfold mtrS MeterS.add
  rw [show sumZ 0 0 = 0 by decide, sumZ_add h0 (by omega) (by omega)]

theorem washStep_no (B : Nat) (T : TypeId) (L G : Int) (x y m : Value) (h0 : L < 1) (w : World) (h : Blk w B T (washC L G x y)) :
    Calls Tryd.prog 9 #[.pointer (some ⟨B, 0, none⟩), m] w fun e w' => e = .returned (.bool false) ∧ w = w' := by
  have hb := ledgerSpend_no B 0 L 1 (by omega) (by decide) w (h.cell 0)
  clear h
  go_enter Tryd.func9, Tryd.ntmps9
  go_wp2_with (go_at_call 14; refine hb.mono ?_; rintro e w' ⟨rfl, rfl⟩)
  go_ret
  exact ⟨rfl, rfl⟩
/-- wash and meter, both -/
def WM (w : World) (B M : Nat) (T TM : TypeId) (L G : Int) (x y : Value) : Prop := Blk w B T (washC L G x y) ∧ Blk w M TM (mtrS G).cells
set_option maxHeartbeats 1600000 in
theorem washStep_yes (B M : Nat) (T TM : TypeId) (L G : Int) (x y : Value) (hne : B ≠ M) (h0 : 1 ≤ L) (h1 : L ≤ 1099511627776) (h2 : 0 ≤ G) (h3 : G < 1099511627776) (w : World) (h : WM w B M T TM L G x y) :
    Calls Tryd.prog 9 #[.pointer (some ⟨B, 0, none⟩), .pointer (some ⟨M, 0, none⟩)] w fun e w' => e = .returned (.bool true) ∧ WM w' B M T TM (L - 1) (G + 1) x y ∧ Chg (fun b => b = B ∨ b = M) w w' := by
  obtain ⟨hw, hm⟩ := h
  have hb := ledgerSpend_yes B 0 L 1 (by omega) (by decide) h1 w (hw.cell 0) (hw.frozen 0)
  have k1 := hw.set 0 (.int .i64 (L - 1))
  have k2 := hm.other (B' := B) (Ne.symm hne) 0 (.int .i64 (L - 1))
  have hu := unit_free (mtrS G) 1 (by decide) rfl M TM _ k2
  rw [mtrS_add h2 h3] at hu
  replace hu := Lib.hid hu
  have K1 := Lib.hid k1
  have hd : depZ G 1 = 1 := by unfold depZ mnZ mxZ; omega
  replace hd := Lib.hid hd
  have HNE := Lib.hid hne
  clear k1 k2 hw hm hne
  go_enter Tryd.func9, Tryd.ntmps9
  go_wp2_with (first
    | (go_at_call 14; refine hb.mono ?_; rintro e w' ⟨rfl, rfl⟩)
    | (go_at_call 15; refine hu.out.mono ?_; rintro e w1 ⟨rfl, h1, h2⟩; have k3 := Lib.hid (show Blk w1 B T (washC (L - 1) G x y) from Blk.chg K1.out h2 HNE.out))
    | (go_at_call 13; refine (deposit_any B 2 G 1 (by omega) (by omega) _ (k3.out.cell 2) (k3.out.frozen 2)).mono ?_; rw [hd.out]; rintro e w' ⟨rfl, rfl⟩))
  go_ret
  refine ⟨rfl, ⟨k3.out.set 2 _, h1.other (Ne.symm HNE.out) _ _⟩, ?_⟩
  exact Chg.setCell ((Chg.setCell (Chg.refl _ _) (.inl (.inl rfl)) _).trans (h2.mono fun i _ e => .inr e)) (.inl (.inl rfl)) _

/-- how many a Spend lets go -/
def spentZ (L n : Int) : Int := mnZ (mxZ n 0) L
set_option maxHeartbeats 1600000 in
theorem washSpend_any (B M : Nat) (T TM : TypeId) (L G n : Int) (x y : Value) (hne : B ≠ M) (h0 : 0 ≤ L) (h1 : L ≤ 1099511627776) (h2 : 0 ≤ G) (h3 : G ≤ 1000000) (hn : n ≤ 5000) (w : World) (h : WM w B M T TM L G x y) :
    Calls Tryd.prog 7 #[.pointer (some ⟨B, 0, none⟩), .pointer (some ⟨M, 0, none⟩), .int .i64 n] w fun e w' => e = .returned (.int .i64 (spentZ L n)) ∧ WM w' B M T TM (L - spentZ L n) (G + spentZ L n) x y ∧ Chg (fun b => b = B ∨ b = M) w w' := by
  have H := Lib.hid h
  have HNE := Lib.hid hne
  clear h hne
  go_enter Tryd.func7, Tryd.ntmps7
  go_wp2
  go_loopw [7] (fun v7 wr => ∃ k : Int, 0 ≤ k ∧ (k = 0 ∨ k ≤ n) ∧ k ≤ L ∧ v7 = .int .i64 k ∧ WM wr B M T TM (L - k) (G + k) x y ∧ Chg (fun b => b = B ∨ b = M) w wr) (fun v7 _ => (5000 - intOf v7).toNat)
  case atStart => exact ⟨0, by omega, by omega, h0, rfl, by simpa using H.out, Chg.refl _ _⟩
  case round =>
    obtain ⟨k, hk0, hk1, hk2, rfl, hW, hC⟩ := hrel
    have HW := Lib.hid hW
    clear hW
    by_cases c1 : k < n
    · by_cases c2 : L - k < 1
      · have hs := washStep_no B T (L - k) (G + k) x y (.pointer (some ⟨M, 0, none⟩)) c2 wr HW.out.1
        have he : spentZ L n = k := by unfold spentZ mnZ mxZ; omega
        replace he := Lib.hid he
        go_wp2_with (go_at_call 9; refine hs.mono ?_; rintro e w' ⟨rfl, rfl⟩)
        go_ret
        exact ⟨by rw [he.out]; rfl, by rw [he.out]; exact HW.out, hC⟩
      · have hs := washStep_yes B M T TM (L - k) (G + k) x y HNE.out (by omega) (by omega) (by omega) (by omega) wr HW.out
        replace hs := Lib.hid hs
        go_wp2_with (go_at_call 9; refine hs.out.mono ?_; rintro e w1 ⟨rfl, h1, h2⟩)
        go_roundw
        case rel => exact ⟨k + 1, by omega, by omega, by omega, rfl, by rw [show L - (k + 1) = L - k - 1 by omega, ← Int.add_assoc]; exact h1, hC.trans h2⟩
        case measure => simp [intOf]; omega
    · have he : spentZ L n = k := by unfold spentZ mnZ mxZ; omega
      replace he := Lib.hid he
      go_wp2
      go_ret
      exact ⟨by rw [he.out]; rfl, by rw [he.out]; exact HW.out, hC⟩
end Go.Proofs.YtaijhfadedbjkaaDoor
