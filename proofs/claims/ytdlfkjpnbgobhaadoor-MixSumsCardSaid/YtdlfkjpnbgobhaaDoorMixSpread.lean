/- Package mix: words, and how many keys have a hash of each prefix. Condition: the errors' cells and the table of words. -/
import Derived.Test.YtdlfkjpnbgobhaaDoorMix
import Derived.Test.YtdlfkjpnbgobhaaDoorRef03d
import Derived.Test.YtdlfkjpnbgobhaaDoorDir
import Derived.Test.YtdlfkjpnbgobhaaDoorCtrlPaths
namespace Go.Proofs.YtdlfkjpnbgobhaaDoor
set_option linter.unusedVariables false
set_option linter.unusedSimpArgs false
open Go.RowKit Go.Proofs

/-! ### whole numbers as cells -/
def arrF (n : Nat) (f : Nat → Nat) : Array Value := ((List.range n).map fun i => Value.int .i64 (f i : Int)).toArray
theorem arrF_size (n : Nat) (f : Nat → Nat) : (arrF n f).size = n := by simp [arrF]
theorem arrF_get (n : Nat) (f : Nat → Nat) (j : Nat) (hj : j < n) : (arrF n f)[j]? = some (.int .i64 (f j : Int)) := by simp [arrF, hj]
theorem arrF_set (n : Nat) (f : Nat → Nat) (k b : Nat) (hk : k < n) : (arrF n f).setIfInBounds k (.int .i64 (b : Int)) = arrF n (fun j => if j = k then b else f j) := by
  apply Array.ext_getElem?
  intro j
  by_cases hj : j < n
  · rw [arrF_get _ _ _ hj, Array.getElem?_setIfInBounds]
    by_cases e : k = j
    · subst e; simp [arrF_size, hj]
    · rw [if_neg e, arrF_get _ _ _ hj, if_neg (Ne.symm e)]
  · rw [Array.getElem?_eq_none (by rw [Array.size_setIfInBounds, arrF_size]; omega), Array.getElem?_eq_none (by rw [arrF_size]; omega)]
theorem arrF_reads {w : World} {R n : Nat} {f : Nat → Nat} (h : Blk w R 3 (arrF n f)) : ReadsInts w (.slice (some ⟨R, 0, none⟩) n n) ((List.range n).map fun i => (f i : Int)) := by
  refine ⟨some ⟨R, 0, none⟩, n, by simp, fun _ => ⟨R, 0, rfl, fun j hj => ?_⟩⟩
  have hj' : j < n := by simpa using hj
  rw [Nat.zero_add, h.cell, arrF_get _ _ _ hj']
  simp
/-- how many of the first m keys have the top i -/
def cntF (key : Nat → Nat) (k d : Nat) : Nat → Nat → Nat
  | 0, _ => 0
  | m + 1, i => if i = topN (mixN k (key m)) d then cntF key k d m i + 1 else cntF key k d m i
theorem cntF_succ (key : Nat → Nat) (k d m : Nat) : cntF key k d (m + 1) = fun i => if i = topN (mixN k (key m)) d then cntF key k d m (topN (mixN k (key m)) d) + 1 else cntF key k d m i := by
  funext i
  show (if i = topN (mixN k (key m)) d then cntF key k d m i + 1 else cntF key k d m i) = _
  by_cases e : i = topN (mixN k (key m)) d
  · subst e; rw [if_pos rfl]
  · rw [if_neg e, if_neg e]
theorem arrF_zero (n : Nat) : arrF n (fun _ => 0) = (List.replicate n (Value.int .i64 0)).toArray := by simp [arrF, List.map_const']
theorem cntF_le (key : Nat → Nat) (k d m : Nat) : ∀ i, cntF key k d m i ≤ m := by
  induction m with
  | zero => intro i; exact Nat.le_refl _
  | succ m ih =>
    intro i
    rw [cntF_succ]
    dsimp only
    split
    · exact Nat.succ_le_succ (ih _)
    · exact Nat.le_succ_of_le (ih _)

/-! ### words -/
def wordL (k : Nat) : List UInt8 := ([[115, 97, 109, 101], [111, 110, 101], [109, 117, 108, 116], [102, 110, 118], [116, 117, 114, 110], [116, 111, 112]] : List (List UInt8)).getD k []
/-- the table of words -/
def MixW (w : World) : Prop := ∀ k : Nat, k < 6 → w.cell? ⟨3, k, none⟩ = some (.string ⟨(wordL k).toArray⟩)
theorem MixW.below {w w' : World} (h : MixW w) (hb : Below w.heap.size w w') : MixW w' := fun k hk => (hb.cell (World.block_lt_of_cell? _ _ (h k hk))).trans (h k hk)
theorem mixWord_ok (k : Nat) (hk : k ≤ 5) (w : World) (h : MixW w) : Calls Tryd.prog 47 #[.int .i64 (k : Int)] w fun e w' => e = .returned (.string ⟨(wordL k).toArray⟩) ∧ w = w' := by
  have hc := h k (by omega)
  have e1 : decide ((k : Int) < 0) = false := by simp
  have e2 : decide ((k : Int) > 5) = false := by simp; omega
  generalize (⟨(wordL k).toArray⟩ : ByteArray) = s at *
  clear h
  go_enter Tryd.func47, Tryd.ntmps47
  go_wp2
  go_ret
  exact ⟨rfl, rfl⟩
theorem mixWord_bad (k : Int) (hk : k < 0 ∨ 5 < k) (w : World) : Calls Tryd.prog 47 #[.int .i64 k] w fun e w' => e = .returned (.string ⟨#[]⟩) ∧ w = w' := by
  by_cases h1 : k < 0
  · have e1 : decide (k < 0) = true := by simpa using h1
    clear hk h1
    go_enter Tryd.func47, Tryd.ntmps47
    go_wp2
    go_ret
    exact ⟨rfl, rfl⟩
  · have e1 : decide (k < 0) = false := by simpa using h1
    have e2 : decide (k > 5) = true := by simp; omega
    clear hk h1
    go_enter Tryd.func47, Tryd.ntmps47
    go_wp2
    go_ret
    exact ⟨rfl, rfl⟩
theorem wordL_ne (k : Nat) (hk : k ≤ 5) : ((⟨(wordL k).toArray⟩ : ByteArray).toList.isEmpty) = false := by
  have h : k = 0 ∨ k = 1 ∨ k = 2 ∨ k = 3 ∨ k = 4 ∨ k = 5 := by omega
  rcases h with rfl | rfl | rfl | rfl | rfl | rfl <;> decide +kernel

/-! ### Spread -/
/-- keys as cells -/
def KeysAt (w : World) (a : Option Addr) (n : Nat) (key : Nat → Nat) : Prop := n ≠ 0 → ∃ b off, a = some ⟨b, off, none⟩ ∧ b < w.heap.size ∧ ∀ w', Below w.heap.size w w' → ∀ i, i < n → w'.cell? ⟨b, off + i, none⟩ = some (.int .u64 (key i : Int))
/-- counts, newly made -/
def GivesC (key : Nat → Nat) (k d n : Nat) (bad : Value) (w : World) (e : Ending) (w' : World) : Prop := ∃ R, e = .returned (.tuple #[.slice (some ⟨R, 0, none⟩) (2 ^ d) (2 ^ d), bad]) ∧ Blk w' R 3 (arrF (2 ^ d) (cntF key k d n)) ∧ w.heap.size ≤ R ∧ Below w.heap.size w w'
set_option maxRecDepth 100000 in
set_option maxHeartbeats 4000000 in
theorem spread_ok (k d n : Nat) (a : Option Addr) (cap : Nat) (key : Nat → Nat) (hk : k ≤ 5) (hd : d ≤ 16) (hn : n ≤ 1000) (hkey : ∀ i, key i < 18446744073709551616) (w0 : World) (hW : MixW w0) (hK : KeysAt w0 a n key) :
    Calls Tryd.prog 32 #[.int .i64 (k : Int), .slice a n cap, .int .i64 (d : Int)] w0 (GivesC key k d n .nilIface w0) := by
  obtain ⟨i0, hi, hz0, hz1, hz2⟩ := info_parts infoD
  have WD := mixWord_ok k hk w0 hW
  have hne := wordL_ne k hk
  generalize (⟨(wordL k).toArray⟩ : ByteArray) = s at *
  replace WD := Lib.hid WD
  have T0 := top_ok 0 d (by decide) hd
  have HK := Lib.hid hK
  have OF := Lib.hid (fun i w => of_ok k (key i) hk (hkey i) w)
  have TP := Lib.hid (fun i w => top_ok (mixN k (key i)) d (mixN_lt k _ (hkey i)) hd w)
  have TL := Lib.hid (fun i => topN_lt (d := d) (mixN_lt k _ (hkey i)) (by omega))
  have CS := Lib.hid (cntF_succ key k d)
  have CL := Lib.hid (cntF_le key k d)
  have hs := pow_wrap d hd
  have hs2 := pow_wrapI d hd
  have hshift : ∀ w : World, (Op.shift .shl .i64 1 .i64 (d : Int)).run Tryd.prog w = .ok (.int .i64 ((2 ^ d : Nat) : Int)) w := fun w => by
    have := shl_i64 (P := Tryd.prog) (w := w) 1 d .i64 (by omega) (by have := pow_le16 hd; omega)
    simpa using this
  have hy0 := Nat.two_pow_pos d
  have hy := pow_le16 hd
  unfold GivesC
  generalize 2 ^ d = y at *
  generalize topN 0 d = t0 at *
  replace T0 := Lib.hid T0
  clear hK hW hkey
  go_enter Tryd.func32, Tryd.ntmps32
  go_wp2_with (first
    | (go_at_call 47; refine WD.out.mono ?_; rintro e w' ⟨rfl, rfl⟩)
    | (go_at_call 88; refine (T0.out _).mono ?_; rintro e w' ⟨rfl, rfl⟩)
    | (at_make; refine wpList_make_full _ rfl _ _ 41 rfl w0.heap.size 3 i0 (.int .i64 0) 1 Tryd.underlying41 hi hz0 hz1 .i64 .i64 _ _ y rfl rfl rfl rfl (by rw [hz2]; omega) (by unfold maxLen; omega) (Nat.le_refl _) ?_; intro w1 hown1 hgrow1; have hb1 := Lib.hid (ownsRowD_blk hown1); have hB1 : Below w0.heap.size w0 w1 := (Below.refl _ _).grown hgrow1 (Nat.le_refl _) (fun k e => by cases e); clear hgrow1 hown1))
  have q1 : Blk w1 w0.heap.size 3 (arrF y (fun _ => 0)) := by
    have := hb1.out
    rw [show (madeCells (Value.int .i64 0).cells (y * 1)).toList = List.replicate y (Value.int .i64 0) by rw [Nat.mul_one]; exact toList_madeCells_one _ _] at this
    rw [arrF_zero]; exact this
  replace hb1 := Lib.hid q1
  clear q1
  go_loopw [12, 13, 14, 15, 33] (fun _ _ _ _ v33 wr => ∃ m : Nat, m ≤ n ∧ v33 = .int .i64 (m : Int) ∧ Blk wr w0.heap.size 3 (arrF y (cntF key k d m)) ∧ Below w0.heap.size w0 wr) (fun _ _ _ _ v33 _ => n - (intOf v33).toNat)
  case atStart => exact ⟨0, Nat.zero_le _, rfl, hb1.out, hB1⟩
  case round =>
    clear hb1 hB1
    obtain ⟨m, hm, rfl, hQ, hB⟩ := hrel
    have HQ := Lib.hid hQ
    clear hQ
    by_cases hlt : m < n
    · obtain ⟨b, off, rfl, -, hcells⟩ := HK.out (by omega)
      have c0 := hcells wr hB m hlt
      have of := OF.out m
      have tp := TP.out m
      have tl := TL.out m
      have cs := CS.out m
      have cl := CL.out m
      clear hcells
      generalize mixN k (key m) = h at *
      generalize key m = x at *
      generalize topN h d = t at *
      have c1 := HQ.out.cell t
      rw [arrF_get _ _ _ tl] at c1
      have f1 := HQ.out.frozen t
      have hst := HQ.out.set t (.int .i64 ((cntF key k d m t + 1 : Nat) : Int))
      rw [arrF_set _ _ _ _ tl, ← cs] at hst
      replace hst := Lib.hid hst
      have clt := cl t
      clear cl cs HQ
      generalize cntF key k d m t = c at *
      replace of := Lib.hid of
      replace tp := Lib.hid tp
      have tly : (t : Int) < (y : Int) := by omega
      go_wp2_with (first
        | (go_at_call 43; refine (of.out _).mono ?_; rintro e w' ⟨rfl, rfl⟩)
        | (go_at_call 88; refine (tp.out _).mono ?_; rintro e w' ⟨rfl, rfl⟩))
      go_roundw
      case rel => exact ⟨m + 1, by omega, by go_num, hst.out, hB.setCell (Nat.le_refl _) _⟩
      case measure => simp [intOf]; omega
    · obtain rfl : m = n := by omega
      go_wp2
      go_ret2
      exact ⟨w0.heap.size, rfl, HQ.out, Nat.le_refl _, hB⟩
end Go.Proofs.YtdlfkjpnbgobhaaDoor
