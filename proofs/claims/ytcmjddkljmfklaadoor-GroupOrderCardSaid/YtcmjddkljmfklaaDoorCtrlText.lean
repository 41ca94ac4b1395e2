/- A word's text. No condition. -/
import Derived.Test.YtcmjddkljmfklaaDoorCtrl
import Derived.Laws.IdiomStrings
namespace Go.Proofs.YtcmjddkljmfklaaDoor
set_option linter.unusedVariables false
set_option linter.unusedSimpArgs false
open Go.RowKit Go.Proofs

set_option maxRecDepth 100000 in
theorem zv8b (w : World) : (zeroValue 166).run Tryd.prog w = .ok (.agg (byteL fun _ => 0).toArray) w := by kernel_rfl
set_option maxRecDepth 100000 in
theorem slice8b (B : Nat) (w : World) :
    (Instr.sliceAt 166 (.pointer (some ⟨B, 0, none⟩)) none none none).run Tryd.prog w = .ok (.slice (some ⟨B, 0, none⟩) 8 8) w := by kernel_rfl
/-- a sign as a number -/
def sgn (b : Nat) : Nat := (signK (kindN b)).toNat
theorem sgn_lt (b : Nat) : sgn b < 256 := (signK (kindN b)).toNat_lt
theorem text_conv (m B : Nat) (w : World) (h : Blk w B 166 (byteL (fun j => sgn (ln m j))).toArray) :
    (convert 169 9 (.slice (some ⟨B, 0, none⟩) 8 8)).run Tryd.prog w = .ok (.string (textW m)) w := by
  have := run_convert_bytes_back (P := Tryd.prog) w 169 9 5 ⟨B, 0, none⟩ 8 ((List.range 8).map fun i => signK (kindN (ln m i))) Tryd.underlying169 Tryd.underlying5 Tryd.underlying9 (by
    intro j hj
    have hj' : j < 8 := by simpa using hj
    rw [show (⟨B, 0, none⟩ : Addr).add j = ⟨B, j, none⟩ by simp [Addr.add]; intro e; exact e.symm, h.cell, byteL_get _ j hj']
    simp [sgn])
  simpa [textW, textTo] using this
theorem signs_next (m k : Nat) : (fun j => if j = k then sgn (ln m k) else if j < k then sgn (ln m j) else ln m j) = fun j => if j < k + 1 then sgn (ln m j) else ln m j := by
  funext j
  by_cases e : j = k
  · subst e; rw [if_pos rfl, if_pos (by omega)]
  · rw [if_neg e]
    by_cases c : j < k
    · rw [if_pos c, if_pos (by omega)]
    · rw [if_neg c, if_neg (by omega)]
theorem byteL_congr {f g : Nat → Nat} (h : ∀ i, i < 8 → f i = g i) : byteL f = byteL g := by
  simp only [byteL, h 0 (by decide), h 1 (by decide), h 2 (by decide), h 3 (by decide), h 4 (by decide), h 5 (by decide), h 6 (by decide), h 7 (by decide)]
set_option maxRecDepth 100000 in
set_option maxHeartbeats 4000000 in
theorem ctext_any (m : Nat) (hm : m < 18446744073709551616) (w0 : World) :
    Calls Tryd.prog 90 #[.int .u64 (m : Int)] w0 fun e w' => e = .returned (.string (textW m)) ∧ Below w0.heap.size w0 w' := by
  have hu := Lib.hid (unfold_any m hm)
  have IX := Lib.hid (ix_byte (ln m))
  have SG := Lib.hid (fun (k : Nat) (w : World) => sign_any (ln m k) (ln_lt m k) w)
  go_enter Tryd.func90, Tryd.ntmps90
  go_wp2_with (first
    | (go_at_call 116; refine (hu.out _).mono ?_; rintro e w1 ⟨rfl, hb1⟩)
    | (refine wpList_value rfl (exec_alloc (t := 166) rfl zv8b) ?_)
    | (refine wpList_unit rfl (exec_storeAll (t := 166) rfl rfl rfl (Blk.new _ _ _) (by rfl) (Tryd.sizeOf166 _) (by exact byteL_one _)) ?_; rw [setRow_new rfl])
    | (refine wpList_value rfl (exec_loadAll (t := 166) rfl rfl Tryd.underlying166 rfl (Blk.new w1 _ (byteL (ln m)).toArray) (Tryd.sizeOf166 _)) ?_))
  have hs := hb1.size
  have q0 : Blk (w1.alloc (.cells (byteL (ln m)).toArray 166)) w1.heap.size 166 (byteL (ln m)).toArray := Blk.new _ _ _
  have hB1 : Below w0.heap.size w0 (w1.alloc (.cells (byteL (ln m)).toArray 166)) := hb1.alloc hs _
  generalize w1.alloc (.cells (byteL (ln m)).toArray 166) = W2 at q0 hB1 ⊢
  obtain ⟨B, hB⟩ : ∃ B, B = w1.heap.size := ⟨_, rfl⟩
  rw [← hB] at q0 hs ⊢
  clear hB hb1
  go_loopw [4, 5, 9] (fun _ _ v9 wr => ∃ k : Nat, k ≤ 8 ∧ v9 = .int .i64 (k : Int) ∧ Blk wr B 166 (byteL (fun j => if j < k then sgn (ln m j) else ln m j)).toArray ∧ Below w0.heap.size w0 wr) (fun _ _ v9 _ => 8 - (intOf v9).toNat)
  case atStart => exact ⟨0, by omega, rfl, by simpa using q0, hB1⟩
  case round =>
    clear q0 hB1
    obtain ⟨k, hk, rfl, h1, h3⟩ := hrel
    by_cases hlt : k < 8
    · have ix := IX.out k hlt
      have c1 := h1.cell k
      rw [byteL_get _ k hlt] at c1
      have f1 := h1.frozen k
      have sg := SG.out k
      rw [show (signK (kindN (ln m k))).toNat = sgn (ln m k) from rfl] at sg
      have hst := Lib.hid (show Blk (wr.setCell ⟨B, k, none⟩ (.int .u8 (sgn (ln m k) : Int))) B 166 (byteL (fun j => if j < k + 1 then sgn (ln m j) else ln m j)).toArray by
        have := h1.set k (.int .u8 (sgn (ln m k) : Int)); rw [byteL_set _ _ _ hlt, signs_next] at this; exact this)
      replace sg := Lib.hid sg
      generalize sgn (ln m k) = s at *
      generalize (if k < k then sgn (ln m k) else ln m k) = z at c1
      clear h1
      go_wp2_with (go_at_call 117; refine (sg.out _).mono ?_; rintro e w' ⟨rfl, rfl⟩)
      go_roundw
      case rel => exact ⟨k + 1, by omega, by go_num, hst.out, h3.setCell (by simp; omega) _⟩
      case measure => simp [intOf]; omega
    · obtain rfl : k = 8 := by omega
      rw [byteL_congr (g := fun j => sgn (ln m j)) (fun i hi => by rw [if_pos hi])] at h1
      have hc := text_conv m B wr h1
      have hs := slice8b B wr
      clear h1
      go_wp2
      go_ret
      exact ⟨rfl, h3⟩
end Go.Proofs.YtcmjddkljmfklaaDoor
