/- Chapter 08's example. Condition: the errors' cells 1 and 5. -/
import Derived.Test.YtcmjddkljmfklaaDoorGroupErase
import Derived.Test.YtcmjddkljmfklaaDoorEnt
namespace Go.Proofs.YtcmjddkljmfklaaDoor
set_option linter.unusedVariables false
set_option linter.unusedSimpArgs false
open Go.RowKit Go.Proofs
attribute [local go_sem] neq_nilG

theorem glookM_any (G o M : Nat) (mt : MeterS) (x y z : Int) (w : World) (hM : Blk w M 45 mt.cells) :
    Calls Tryd.prog 32 #[.pointer (some ⟨G, o, none⟩), .agg #[.pointer (some ⟨M, 0, none⟩), .int .i64 x, .int .i64 y, .int .i64 z]] w fun e w' => e = .returned (.agg #[.pointer (some ⟨G, o, none⟩)]) ∧ Blk w' M 45 (mt.add x y z).cells ∧ Chg (fun b => b = M) w w' := glook_m G o M mt x y z w hM
theorem glookN_any (G o : Nat) (x y z : Int) (w : World) :
    Calls Tryd.prog 32 #[.pointer (some ⟨G, o, none⟩), .agg #[.pointer none, .int .i64 x, .int .i64 y, .int .i64 z]] w fun e w' => e = .returned (.agg #[.pointer (some ⟨G, o, none⟩)]) ∧ Below w.heap.size w w' := glook_none G o x y z w
theorem field_probes (a b c : Value) (w : World) : (Instr.field 43 (.agg #[a, b, c]) 0).run Tryd.prog w = .ok a w := by kernel_rfl
theorem alive_text : textW (setL (rep 128) 3 (0 % 128)) = ⟨#[46, 46, 46, 35, 46, 46, 46, 46]⟩ := by kernel_rfl
theorem one_cells (M : Nat) (w : World) (h : Blk w M 45 #[.int .i64 0, .int .i64 0, .int .i64 0, .int .i64 0, .int .i64 0, .int .i64 0, .bool false, .int .i64 0]) : Blk w M 45 MeterS.zero.cells := h
theorem eql_nilG (w : World) : (binOp .eql 25 .nilIface .nilIface).run Tryd.prog w = .ok (.bool true) w := run_eql_nil_nil _ _ (by kernel_rfl)
attribute [local go_sem] eql_nilG
set_option maxRecDepth 100000 in
set_option maxHeartbeats 4000000 in
theorem alive08_any (E : Nat → Addr) (w : World) (he : EC w E [1, 5]) :
    Calls Tryd.prog 30 #[] w fun e w' => e = .returned (.bool true) ∧ Below w.heap.size w w' := by
  have hfu := field_probes
  have e0 : ((MeterS.zero.add 1 0 0).add 1 0 0).l0 = 2 := by decide
  have HT := Lib.hid alive_text
  have hw3 : (ln (rep 128) 3 == 254) = false := by decide
  have HE := Lib.hid (fun w' (hb : Below w.heap.size w w') => he.below hb)
  have PT := Lib.hid (fun (G : Nat) (w' : World) (hg : GW w' G 0 (rep 128) (fun _ => EntS.zero)) (hb : Below w.heap.size w w') => gput_ok G 0 (rep 128) 3 0 (fun _ => EntS.zero) 1 0 (by decide) (by decide) (by decide) (by decide) E w' hg (he.below hb))
  rw [hw3] at PT
  have TX := Lib.hid (fun (G : Nat) (s : Nat → EntS) (w' : World) (h : GW w' G 0 (setL (rep 128) 3 (0 % 128)) s) => gtext_any G 0 _ s (setL_lt _ _ _ (by decide)) w' h)
  rw [HT.out] at TX
  generalize setL (rep 128) 3 (0 % 128) = m1 at *
  clear hw3 he
  go_enter Tryd.func30, Tryd.ntmps30
  go_wp2_with (first
    | (go_at_call 31; refine (gnew_any _).mono ?_; rintro e w1 ⟨rfl, g1, hb1⟩; have G1 := Lib.hid g1; have hlG := g1.lt; clear g1)
    | (go_at_call 38; refine (probing_any _ _).mono ?_; rintro e w2 ⟨rfl, hb2⟩; have hs2 := hb2.size; have HB2 := Lib.hid (Below.trans (show Below w.heap.size w (w1.alloc (.cells #[.int .i64 0, .int .i64 0, .int .i64 0, .int .i64 0, .int .i64 0, .int .i64 0, .bool false, .int .i64 0] 45)) from hb1.alloc hb1.size _) (hb2.mono (by have := hb1.size; simp; omega))); have M2 := Lib.hid (one_cells _ _ ((Blk.new w1 _ _).below hb2 (by simp))); have G2 := Lib.hid ((G1.out.alloc (.cells #[.int .i64 0, .int .i64 0, .int .i64 0, .int .i64 0, .int .i64 0, .int .i64 0, .bool false, .int .i64 0] 45)).below hb2 (by simp; omega)); clear G1)
    | (go_at_call 32; refine (glookM_any _ _ _ _ _ _ _ _ M2.out).mono ?_; rintro e w3 ⟨rfl, m3, c3⟩; have M3 := Lib.hid m3; have G3 := Lib.hid (G2.out.chg c3 (by omega)); have HB3 := Lib.hid (HB2.out.trans (c3.below (n := w.heap.size) HB2.out.size (fun k hk e => by have := hb1.size; omega))); have hs3 := c3.size; clear m3 M2 G2 HB2)
    | (go_at_call 33; refine (PT.out _ _ G3.out HB3.out).mono ?_; rintro e w4 ⟨rfl, g4, c4⟩; have G4 := Lib.hid g4; have M4 := Lib.hid (M3.out.chg c4.chg (by omega)); have HB4 := Lib.hid (HB3.out.trans (c4.chg.below (n := w.heap.size) HB3.out.size (fun k hk e => by omega))); have hs4 := c4.chg.size; clear g4 M3 G3 HB3)
    | (go_at_call 38; refine (probing_any _ _).mono ?_; rintro e w5 ⟨rfl, hb5⟩; have hs5 := hb5.size; have HB5 := Lib.hid (HB4.out.trans (hb5.mono HB4.out.size)); have M5 := Lib.hid (M4.out.below hb5 M4.out.lt); have G5 := Lib.hid (G4.out.below hb5 G4.out.lt); clear M4 G4 HB4)
    | (go_at_call 32; refine (glookM_any _ _ _ _ _ _ _ _ M5.out).mono ?_; rintro e w6 ⟨rfl, m6, c6⟩; have M6 := Lib.hid m6; have G6 := Lib.hid (G5.out.chg c6 (by omega)); have HB6 := Lib.hid (HB5.out.trans (c6.below (n := w.heap.size) HB5.out.size (fun k hk e => by have := hb1.size; omega))); clear m6 M5 G5 HB5)
    | (go_at_call 34; refine (TX.out _ _ _ G6.out).mono ?_; rintro e w7 ⟨rfl, hb7⟩; have M7 := Lib.hid (M6.out.below hb7 M6.out.lt); have HB7 := Lib.hid (HB6.out.trans (hb7.mono HB6.out.size)); clear M6)
    | (go_at_call 28; refine (meterLast_any _ _ 45 _ M7.out).mono ?_; rintro e w8 ⟨rfl, hb8⟩))
  go_ret
  exact ⟨by rfl, HB7.out.trans (hb8.mono HB7.out.size)⟩
end Go.Proofs.YtcmjddkljmfklaaDoor
