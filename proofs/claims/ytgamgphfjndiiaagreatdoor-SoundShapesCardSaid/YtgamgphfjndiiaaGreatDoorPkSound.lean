/- Texts joined: SoundNew. No condition but those that stand within. -/
import Derived.Lib.Strings
import Derived.Lib.Slices
import Derived.Lib.Bytealg
import Derived.Carry
import Derived.Laws.AppendOwnNone
import Derived.Test.YtgamgphfjndiiaaGreatDoorPkSwar
import Derived.Test.YtgamgphfjndiiaaGreatDoorPkMeter
import Derived.Test.YtgamgphfjndiiaaGreatDoorPkErrs
import Derived.Test.YtgamgphfjndiiaaGreatDoorPkGroup
import Derived.Test.YtgamgphfjndiiaaGreatDoorPkTab
import Derived.Test.YtgamgphfjndiiaaGreatDoorPkTab2
import Derived.Test.YtgamgphfjndiiaaGreatDoorPkTab3
import Derived.Test.YtgamgphfjndiiaaGreatDoorPkTake
import Derived.Test.YtgamgphfjndiiaaGreatDoorPkTabM
import Derived.Test.YtgamgphfjndiiaaGreatDoorPkEvac
set_option linter.unusedVariables false
set_option linter.unusedSimpArgs false
namespace Go.Proofs.YtgamgphfjndiiaaGreatDoor
open Go.RowKit Go.Proofs
attribute [local go_sem] neq_nilG eql_nilG
set_option maxRecDepth 100000 in
theorem count_one (s : ByteArray) (c : UInt8) (w : World) :
    Calls Tryz.prog 80 #[.string s, .string ⟨#[c]⟩] w fun e w' => e = .returned (.int .i64 (Lib.countByte s.data.toList c)) ∧ w = w' := by
  go_enter Tryz.func80, Tryz.ntmps80
  go_wp2
  rw [run_callFunc_extern Tryz.func118 (by kernel_rfl) (by kernel_rfl) (by kernel_rfl) (e := Extern.BytealgCount.count) (by kernel_rfl), Lib.run_countString]
  simp only [Result.andThen]
  rw [Oper.upon_value]
  go_wp2
  go_ret
  exact ⟨rfl, rfl⟩
theorem empty_text : Lib.countByte (textW (rep 128)).data.toList 35 = 0 ∧ Lib.countByte (textW (rep 128)).data.toList 120 = 0 ∧ Lib.countByte (textW (rep 128)).data.toList 46 = 8 := by decide +kernel
theorem empty_ents (s : Nat → EntS) : entsL (rep 128) s = [] := by
  unfold entsL
  rw [show lanesL (fullB (rep 128)) = [] by decide +kernel]
  rfl
theorem infoET : (Tryz.prog.info? 47).map (fun i => (i.zero, i.size, i.bytes)) = some (some (.agg #[.int .u64 0, .int .u64 0, .int .u64 0]), 3, 24) := by kernel_rfl
section
variable {w w' w0 : World} {B Q : Nat} {n : Nat} {E : Nat → Addr}
set_option maxRecDepth 100000 in
set_option maxHeartbeats 2000000 in
theorem sentries_new (h : TN w B Q (TabS.new n) E w0) :
    Calls Tryz.prog 81 #[.pointer (some ⟨B, 0, none⟩)] w fun e w' => ∃ a cap, e = .returned (.slice a 0 cap) ∧ Below w.heap.size w w' := by
  obtain ⟨i0, hi, hz0, hz1, hz2⟩ := info_parts infoET
  have GR := Lib.hid (fun (w' : World) (h : TN w' B Q (TabS.new n) E w0) => TMW.groups h)
  have SC := Lib.hid (fun (k : Nat) (hk : k < n) (w' : World) (h : TN w' B Q (TabS.new n) E w0) => TMW.scan h k hk none LensAt.n 0 0 0)
  simp only [show (TabS.new n).n = n from rfl] at GR
  have hbd := h.good.bounds
  have hn : n ≤ 64 := hbd.1
  have HH := Lib.hid h
  clear h hbd
  go_enter Tryz.func81, Tryz.ntmps81
  go_wp2_with (go_at_call 21; (with_reducible refine (GR.out _ HH.out).mono ?_); rintro e w' ⟨rfl, rfl⟩)
  go_loopw [9, 3] (fun v9 v3 wr => ∃ k : Nat, k ≤ n ∧ v9 = .int .i64 (k : Int) ∧ wr.ownsRow w.heap.size 47 3 v3 0 [] ∧ Below w.heap.size w wr) (fun v9 _ _ => n - (intOf v9).toNat)
  case atStart => exact ⟨0, Nat.zero_le _, rfl, ⟨rfl, .inl ⟨rfl, rfl⟩⟩, Below.refl _ _⟩
  case round =>
    obtain ⟨k, hk, rfl, hrow, hB⟩ := hrel
    obtain ⟨a3, cap3, rfl⟩ := ownsRow_slice hrow
    have KR := Lib.hid hrow
    have KB := Lib.hid hB
    clear hrow hB
    by_cases hlt : k < n
    · have hltI : (k : Int) < (n : Int) := by omega
      have SK := Lib.hid (SC.out k hlt)
      go_upto_region 8 with (go_at_call 63; (with_reducible refine (SK.out _ (HH.out.later KB.out)).mono ?_); rintro e w3 ⟨v, rfl, hr3, hs3, hc3⟩; have C3 := Lib.hid (Below.of_chg (hc3.mono (fun _ _ e => by cases e))); have R3 := Lib.hid hr3; clear hr3 hs3 hc3)
      have hr3 := R3.out
      rw [show (TabS.new n).M k = rep 128 from rfl, empty_ents] at hr3
      simp only [List.length_nil, entV_nil] at hr3
      have hwz : w.heap.size ≤ wr.heap.size := KB.out.size
      rcases hr3.2 with ⟨rfl, -⟩ | ⟨g, cap, cur, rfl, -⟩
      · clear hr3 R3
        go_wp2_with (at_builtin; refine wpList_append_own_none rfl _ _ 91 rfl w.heap.size 47 i0 3 Tryz.underlying91 hi _ 0 [] rfl (ownsRow_later KR.out C3.out) rfl ?_)
        go_roundw
        case rel => exact ⟨k + 1, by omega, by go_num, ownsRow_later KR.out C3.out, KB.out.trans (C3.out.mono hwz)⟩
        case measure => simp [intOf]; omega
      · clear hr3 R3
        go_wp2_with (at_builtin; refine wpList_append_own _ rfl _ _ 91 rfl w.heap.size 47 i0 (.agg #[.int .u64 0, .int .u64 0, .int .u64 0]) 3 24 Tryz.underlying91 hi hz0 hz1 hz2 rfl (by decide) _ _ _ rfl (ownsRow_later KR.out C3.out) ⟨g, 0, none⟩ 0 cap [] rfl rfl (fun j u h => by simp at h) (by simp) (by unfold maxLen; omega) (by omega) (by have := C3.out.size; omega) ?_; intro v' w4 hown4 hgrow4 _; have hb4 := Lib.hid ((C3.out.mono hwz).grown hgrow4 (by have := C3.out.size; omega) (fun q eq => ((ownsRow_later KR.out C3.out).lt q eq).1)); clear hgrow4; replace hown4 := Lib.hid hown4)
        go_roundw
        case rel => exact ⟨k + 1, by omega, by go_num, by simpa using hown4.out, KB.out.trans hb4.out⟩
        case measure => simp [intOf]; omega
    · obtain rfl : k = n := by omega
      go_wp2
      go_ret
      exact ⟨a3, cap3, rfl, KB.out⟩
def shp (f d e o l s : Int) : Array Value := #[.int .i64 f, .int .i64 d, .int .i64 e, .int .i64 o, .int .i64 l, .int .i64 s]
theorem shp_cells {w : World} {S : Nat} {T : TypeId} {f d e o l s : Int} (h : Blk w S T (shp f d e o l s)) : w.cell? ⟨S, 0, none⟩ = some (.int .i64 f) ∧ w.cell? ⟨S, 1, none⟩ = some (.int .i64 d) ∧ w.cell? ⟨S, 2, none⟩ = some (.int .i64 e) ∧ w.cell? ⟨S, 3, none⟩ = some (.int .i64 o) ∧ w.cell? ⟨S, 4, none⟩ = some (.int .i64 l) ∧ w.cell? ⟨S, 5, none⟩ = some (.int .i64 s) ∧ S < w.heap.size ∧ (∀ j, w.frozen? ⟨S, j, none⟩ = false) :=
  ⟨h.cell 0, h.cell 1, h.cell 2, h.cell 3, h.cell 4, h.cell 5, h.lt, fun j => h.frozen j⟩
theorem shp_int (a b c d e f : Int) (j : Nat) (s : ByteArray) : (shp a b c d e f)[j]? ≠ some (.string s) := by
  intro h
  unfold shp at h
  rcases j with _ | _ | _ | _ | _ | _ | j <;> simp at h
set_option maxRecDepth 100000 in
set_option maxHeartbeats 4000000 in
theorem slook_new (h : TN w B Q (TabS.new n) E w0) :
    Calls Tryz.prog 37 #[.pointer (some ⟨B, 0, none⟩)] w fun e w' => e = .returned (.agg (shp 0 0 ((8 * n : Nat) : Int) (n : Int) 0 0)) ∧ Below w.heap.size w w' := by
  have HH := Lib.hid h
  have hbd := h.good.bounds
  have hn : n ≤ 64 := hbd.1
  have TX := Lib.hid (fun (w' : World) (h : TN w' B Q (TabS.new n) E w0) => TMW.text h)
  have EN := Lib.hid (fun (w' : World) (h : TN w' B Q (TabS.new n) E w0) => sentries_new h)
  have hlen : (TabS.new n).texts.length = n := TabS.texts_len _
  have hget : ∀ i (hi : i < (TabS.new n).texts.length), (TabS.new n).texts[i] = textW (rep 128) := fun i hi => by simp [TabS.texts, TabS.new]
  have CT := Lib.hid (fun (c : UInt8) (w' : World) => count_one (textW (rep 128)) c w')
  have HLEN := Lib.hid hlen
  have HGET := Lib.hid hget
  obtain ⟨t35, t120, t46⟩ := empty_text
  have C35 := Lib.hid (CT.out 35)
  have C120 := Lib.hid (CT.out 120)
  have C46 := Lib.hid (CT.out 46)
  rw [t35] at C35
  rw [t120] at C120
  rw [t46] at C46
  generalize textW (rep 128) = tx at *
  clear h hbd hlen hget t35 t120 t46 CT
  go_enter Tryz.func37, Tryz.ntmps37
  go_wp2_with (go_at_call 24; (with_reducible refine (TX.out _ ((HH.out.alloc _).alloc _)).mono ?_); rintro e w1 ⟨tv, rfl, ht1, hb1⟩; obtain ⟨ta, tcap, rfl, hrd⟩ := ht1; have RD := Lib.hid hrd; have B1 := Lib.hid hb1; clear hrd hb1)
  refine wp_at (fun wL hwL => ?_)
  obtain ⟨z, hz⟩ : ∃ z, z = w.heap.size := ⟨_, rfl⟩
  have hz1 := B1.out.size
  have hzL : w.heap.size + 1 + 1 ≤ w1.heap.size := by simp at hz1; omega
  have S0 := Lib.hid (show Blk wL (z + 1) 79 (shp 0 0 ((8 * 0 : Nat) : Int) ((0 : Nat) : Int) 0 0) by rw [hwL, hz]; exact Blk.below (Blk.new_at (by simp)) B1.out (by simp))
  have R0 := Lib.hid (show Blk wL z 79 (shp 0 0 0 0 0 0) by rw [hwL, hz]; exact Blk.below ((Blk.new w _ _).alloc _) B1.out (by simp; omega))
  have T0 := Lib.hid (show ∀ i, i < n → ∃ b off, ta = some ⟨b, off, none⟩ ∧ b < wL.heap.size ∧ wL.cell? ⟨b, off + i, none⟩ = some (.string tx) from fun i hi => by
    have hl := HLEN.out
    obtain ⟨b, off, e1, e2, e3⟩ := RD.out (fun e => by rw [e] at hl; simp at hl; omega)
    have := e3 i (by omega)
    rw [HGET.out i (by omega)] at this
    rw [hwL]; exact ⟨b, off, e1, e2, this⟩)
  have BL := Lib.hid (show Below w.heap.size w wL by rw [hwL]; exact (show Below w.heap.size w _ by go_grown).trans (B1.out.mono (by simp; omega)))
  rw [← hz]
  rw [HLEN.out]
  have HZ := Lib.hid hz
  replace hwL := Lib.hid hwL
  clear hz hz1 hzL B1 RD
  go_loopw [18] (fun v18 wr => ∃ k : Nat, k ≤ n ∧ v18 = .int .i64 (k : Int) ∧ Blk wr (z + 1) 79 (shp 0 0 ((8 * k : Nat) : Int) (k : Int) 0 0) ∧ Blk wr z 79 (shp 0 0 0 0 0 0) ∧ Chg (fun b => b = z + 1) wL wr) (fun v18 _ => n - (intOf v18).toNat)
  case atStart => exact ⟨0, Nat.zero_le _, rfl, S0.out, R0.out, Chg.refl _ _⟩
  case round =>
    obtain ⟨k, hk, rfl, hS, hR, hC⟩ := hrel
    have KS := Lib.hid hS
    have KR := Lib.hid hR
    have KC := Lib.hid hC
    have zRL := R0.out.lt
    have zSL := S0.out.lt
    have hLr := hC.size
    clear hS hR hC
    by_cases hlt : k < n
    · have hltI : (k : Int) < (n : Int) := by omega
      obtain ⟨b, off, rfl, hbz, hbc⟩ := T0.out k hlt
      have hbS : b ≠ z + 1 := fun e => by
        subst e
        rw [S0.out.cell (off + k)] at hbc
        exact shp_int _ _ _ _ _ _ _ _ hbc
      have g0 := (KC.out.cell (p := ⟨b, off + k, none⟩) hbz hbS).trans hbc
      have zb : b < wr.heap.size := Nat.lt_of_lt_of_le hbz hLr
      have e2 : IntKind.i64.wrap (((8 * k : Nat) : Int) + 8) = ((8 * (k + 1) : Nat) : Int) := by rw [IntKind.wrap_i64]; omega
      clear hbz hbc
      go_upto_region 7 with (fail)
      obtain ⟨s0, s1, s2, s3, s4, s5, zS, fS⟩ := shp_cells KS.out
      refine wp_region_seq (fun _ => False) #[⟨0, 0, 4194304, 8, 0⟩, ⟨1, 1, 8388608, 4194304, 1⟩, ⟨0, 0, 16777216, 32, 0⟩, ⟨4, 4, 33554432, 16777216, 2⟩, ⟨10, 15, 67108864, 41943040, 0⟩, ⟨31, 31, 134217728, 8, 0⟩, ⟨63, 63, 0, 201326592, 3⟩] 2 [(0, 0), (1, 1), (2, 0), (3, 2), (4, 0), (5, 0), (6, 3)] (by kernel_rfl) (by kernel_rfl) (by kernel_rfl) (by kernel_rfl) (by kernel_rfl) (by kernel_rfl) (fun c a d v w h => by cases d <;> exact h) ?_
      refine seq_calcA (h := ?_)
      try simp only [Act.put, List.setIfInBounds_toArray, List.set_cons_zero, List.set_cons_succ]
      refine seq_load1A (hu := Tryz.underlying3) (h := ?_)
      try simp only [Act.put, List.setIfInBounds_toArray, List.set_cons_zero, List.set_cons_succ]
      refine seq_calcA (h := ?_)
      try simp only [Act.put, List.setIfInBounds_toArray, List.set_cons_zero, List.set_cons_succ]
      refine seq_doA (h := fun K hK => ?_); go_wp2_with (go_at_call 80; (with_reducible refine (C35.out _).mono ?_); rintro e w' ⟨rfl, rfl⟩); refine hkA hK (h := ?_); clear hK K
      try simp only [Act.put, List.setIfInBounds_toArray, List.set_cons_zero, List.set_cons_succ]
      refine seq_calcA (h := ?_)
      try simp only [Act.put, List.setIfInBounds_toArray, List.set_cons_zero, List.set_cons_succ]
      refine seq_calcA (h := ?_)
      try simp only [Act.put, List.setIfInBounds_toArray, List.set_cons_zero, List.set_cons_succ]
      refine seq_lastA (h := fun K hK => ?_); go_wp2_with (fail); refine hK.out _ _ ?_; clear hK K
      try simp only [Act.put, List.setIfInBounds_toArray, List.set_cons_zero, List.set_cons_succ]
      refine seq_nil ?_
      go_upto_region 8 with (fail)
      refine wp_at (fun w7 hw7 => ?_)
      have S7 := Lib.hid (show Blk w7 (z + 1) 79 (shp 0 0 ((8 * k : Nat) : Int) (k : Int) 0 0) by rw [hw7]; exact Blk.drew (KS.out.set 0 _))
      have C7 := Lib.hid (show Chg (fun b => b = z + 1) wL w7 by rw [hw7]; exact (KC.out.set1 _ _).drew)
      have R7 := Lib.hid (show Blk w7 z 79 (shp 0 0 0 0 0 0) by rw [hw7]; exact Blk.drew (KR.out.other (by omega) _ _))
      replace hw7 := Lib.hid hw7
      clear KS KC KR s0 s1 s2 s3 s4 s5 zS fS g0 zb
      obtain ⟨s0, s1, s2, s3, s4, s5, zS, fS⟩ := shp_cells S7.out
      refine wp_region_seq (fun _ => False) #[⟨0, 0, 268435456, 8, 0⟩, ⟨1, 1, 536870912, 268435456, 1⟩, ⟨0, 0, 1073741824, 32, 0⟩, ⟨4, 4, 2147483648, 1073741824, 2⟩, ⟨10, 15, 4294967296, 2684354560, 0⟩, ⟨31, 31, 8589934592, 8, 0⟩, ⟨63, 63, 0, 12884901888, 3⟩] 2 [(0, 0), (1, 1), (2, 0), (3, 2), (4, 0), (5, 0), (6, 3)] (by kernel_rfl) (by kernel_rfl) (by kernel_rfl) (by kernel_rfl) (by kernel_rfl) (by kernel_rfl) (fun c a d v w h => by cases d <;> exact h) ?_
      refine seq_calcA (h := ?_)
      try simp only [Act.put, List.setIfInBounds_toArray, List.set_cons_zero, List.set_cons_succ]
      refine seq_load1A (hu := Tryz.underlying3) (h := ?_)
      try simp only [Act.put, List.setIfInBounds_toArray, List.set_cons_zero, List.set_cons_succ]
      refine seq_calcA (h := ?_)
      try simp only [Act.put, List.setIfInBounds_toArray, List.set_cons_zero, List.set_cons_succ]
      refine seq_doA (h := fun K hK => ?_); go_wp2_with (go_at_call 80; (with_reducible refine (C120.out _).mono ?_); rintro e w' ⟨rfl, rfl⟩); refine hkA hK (h := ?_); clear hK K
      try simp only [Act.put, List.setIfInBounds_toArray, List.set_cons_zero, List.set_cons_succ]
      refine seq_calcA (h := ?_)
      try simp only [Act.put, List.setIfInBounds_toArray, List.set_cons_zero, List.set_cons_succ]
      refine seq_calcA (h := ?_)
      try simp only [Act.put, List.setIfInBounds_toArray, List.set_cons_zero, List.set_cons_succ]
      refine seq_lastA (h := fun K hK => ?_); go_wp2_with (fail); refine hK.out _ _ ?_; clear hK K
      try simp only [Act.put, List.setIfInBounds_toArray, List.set_cons_zero, List.set_cons_succ]
      refine seq_nil ?_
      go_upto_region 9 with (fail)
      refine wp_at (fun w8 hw8 => ?_)
      have S8 := Lib.hid (show Blk w8 (z + 1) 79 (shp 0 0 ((8 * k : Nat) : Int) (k : Int) 0 0) by rw [hw8]; exact Blk.drew (S7.out.set 1 _))
      have C8 := Lib.hid (show Chg (fun b => b = z + 1) wL w8 by rw [hw8]; exact (C7.out.set1 _ _).drew)
      have R8 := Lib.hid (show Blk w8 z 79 (shp 0 0 0 0 0 0) by rw [hw8]; exact Blk.drew (R7.out.other (by omega) _ _))
      replace hw8 := Lib.hid hw8
      clear S7 C7 R7 s0 s1 s2 s3 s4 s5 zS fS
      obtain ⟨s0, s1, s2, s3, s4, s5, zS, fS⟩ := shp_cells S8.out
      go_wp2_with (go_at_call 80; (with_reducible refine (C46.out _).mono ?_); rintro e w' ⟨rfl, rfl⟩)
      go_roundw
      case rel => exact ⟨k + 1, by omega, by go_num, (S8.out.set 2 _).set 3 _, (R8.out.other (by omega) _ _).other (by omega) _ _, (C8.out.set1 _ _).set1 _ _⟩
      case measure => simp [intOf]; omega
    · obtain rfl : k = n := by omega
      have HBr := Lib.hid (BL.out.trans (KC.out.below (n := w.heap.size) BL.out.size (fun b hb e => by have := HZ.out; omega)))
      have HN := Lib.hid (show TN wr B Q (TabS.new k) E w0 from HH.out.later HBr.out)
      go_wp2_with (go_at_call 81; (with_reducible refine (EN.out _ HN.out).mono ?_); rintro e w9 ⟨ea, ecap, rfl, hb9⟩; have S9 := Lib.hid (KS.out.below hb9 KS.out.lt); have R9 := Lib.hid (KR.out.below hb9 KR.out.lt); have B9 := Lib.hid (HBr.out.trans (hb9.mono HBr.out.size)))
      refine wp_loop_rounds 1 ?_
      rw [rounds_succ]
      obtain ⟨s0, s1, s2, s3, s4, s5, zS, fS⟩ := shp_cells S9.out
      obtain ⟨r0, r1, r2, r3, r4, r5, zR, fR⟩ := shp_cells R9.out
      go_wp2
      refine wp_end_at (fun Wf hWf => ?_)
      have hR : Blk Wf z 79 (shp 0 0 ((8 * k : Nat) : Int) (k : Int) 0 0) := by
        rw [hWf, show ((8 * k : Nat) : Int) = 8 * (k : Int) by omega]
        exact (((((R9.out.set 0 _).set 1 _).set 2 _).set 3 _).set 4 _).set 5 _
      have hC : Chg (fun b => b = z) w9 Wf := by rw [hWf]; exact ((((((Chg.refl _ _).set1 _ _).set1 _ _).set1 _ _).set1 _ _).set1 _ _).set1 _ _
      obtain ⟨x0, x1, x2, x3, x4, x5, -, -⟩ := shp_cells hR
      exact bodyPost_ret (v := .agg (shp 0 0 ((8 * k : Nat) : Int) (k : Int) 0 0)) (by simp [results, Tryz.results37, go_sem, x0, x1, x2, x3, x4, x5, shp]) rfl ⟨rfl, B9.out.trans (hC.below (n := w.heap.size) B9.out.size (fun b hb e => by have := HZ.out; omega))⟩
set_option maxRecDepth 100000 in
set_option maxHeartbeats 4000000 in
theorem scheck_new (h : TN w B Q (TabS.new n) E w0) :
    Calls Tryz.prog 38 #[.pointer (some ⟨B, 0, none⟩)] w fun e w' => e = .returned .nilIface ∧ Below w.heap.size w w' := by
  have HH := Lib.hid h
  have LK := Lib.hid (fun (w' : World) (h : TN w' B Q (TabS.new n) E w0) => slook_new h)
  have EN := Lib.hid (fun (w' : World) (h : TN w' B Q (TabS.new n) E w0) => sentries_new h)
  have LN := Lib.hid (fun (w' : World) (h : TN w' B Q (TabS.new n) E w0) => TMW.len h)
  have TB := Lib.hid (fun (w' : World) (h : TN w' B Q (TabS.new n) E w0) => TMW.tombs h)
  have LF := Lib.hid (fun (w' : World) (h : TN w' B Q (TabS.new n) E w0) => TMW.left h)
  rw [show (TabS.new n).lv = 0 from rfl] at LN
  rw [show (TabS.new n).tb = 0 from rfl] at TB
  rw [show (TabS.new n).left = 7 * (n : Int) by unfold TabS.left; show 7 * (n : Int) - 0 - 0 = _; omega] at LF
  have hmm := @run_makeMap Tryz.prog
  simp only [shp] at LK
  have hn0 : decide (7 * (n : Int) < 0) = false := by simp; omega
  clear h
  go_enter Tryz.func38, Tryz.ntmps38
  go_wp2_with (go_at_call 37; (with_reducible refine (LK.out _ HH.out).mono ?_); rintro e w1 ⟨rfl, hb1⟩; have H1 := Lib.hid (HH.out.later hb1); have B1 := Lib.hid hb1; clear hb1)
  refine wp_at (fun w2 hw2 => ?_)
  have S2 := Lib.hid (show Blk w2 w1.heap.size 79 (shp 0 0 ((8 * n : Nat) : Int) (n : Int) 0 0) by rw [hw2]; exact Blk.new _ _ _)
  have hb2 : Below w1.heap.size w1 w2 := by rw [hw2]; exact (Below.refl _ _).alloc (Nat.le_refl _) _
  have H2 := Lib.hid (H1.out.later hb2)
  have B2 := Lib.hid (B1.out.trans (hb2.mono B1.out.size))
  obtain ⟨s0, s1, s2, s3, s4, s5, zS, fS⟩ := shp_cells S2.out
  replace hw2 := Lib.hid hw2
  clear hb2 H1 B1 S2
  refine wp_region_seq (fun _ => False) #[⟨0, 0, 32768, 8, 0⟩, ⟨1, 1, 65536, 32768, 1⟩, ⟨0, 0, 131072, 1, 0⟩, ⟨4, 4, 262144, 131072, 2⟩, ⟨10, 15, 524288, 327680, 0⟩, ⟨24, 31, 1048576, 524288, 0⟩, ⟨32, 63, 2097152, 1048584, 0⟩, ⟨96, 127, 4194304, 3145728, 1⟩, ⟨32, 63, 8388608, 1048577, 0⟩, ⟨288, 319, 16777216, 9437184, 2⟩, ⟨672, 1023, 33554432, 22020096, 0⟩, ⟨1056, 2047, 67108864, 34603008, 0⟩, ⟨2560, 4095, 134217728, 67108864, 0⟩, ⟨4096, 8191, 268435456, 134217729, 0⟩, ⟨12288, 16383, 536870912, 402653184, 3⟩, ⟨20480, 32767, 1073741824, 671088640, 0⟩, ⟨36864, 65535, 2147483648, 1207959552, 0⟩] 130 [(0, 0), (1, 1), (2, 0), (3, 2), (4, 0), (5, 0), (6, 0), (7, 1), (8, 0), (9, 2), (10, 0), (11, 0), (12, 0), (13, 0), (14, 3), (15, 0), (16, 0)] (by kernel_rfl) (by kernel_rfl) (by kernel_rfl) (by kernel_rfl) (by kernel_rfl) (by kernel_rfl) (fun c a d v w h => by cases d <;> exact h) ?_
  refine seq_calcA (h := ?_)
  try simp only [Act.put, List.setIfInBounds_toArray, List.set_cons_zero, List.set_cons_succ]
  refine seq_load1A (hu := Tryz.underlying3) (h := ?_)
  try simp only [Act.put, List.setIfInBounds_toArray, List.set_cons_zero, List.set_cons_succ]
  refine seq_calcA (h := ?_)
  try simp only [Act.put, List.setIfInBounds_toArray, List.set_cons_zero, List.set_cons_succ]
  refine seq_doA (h := fun K hK => ?_); go_wp2_with (first | (go_at_call 16; (with_reducible refine (LN.out _ H2.out.drew).mono ?_); rintro e w' ⟨rfl, rfl⟩) | (go_at_call 18; (with_reducible refine (TB.out _ H2.out.drew).mono ?_); rintro e w' ⟨rfl, rfl⟩) | (go_at_call 19; (with_reducible refine (LF.out _ H2.out.drew).mono ?_); rintro e w3 ⟨rfl, hb3⟩; have H3 := Lib.hid (H2.out.drew.later hb3); have B3 := Lib.hid (B2.out.trans ((Below.undrew hb3).mono B2.out.size)))); refine hkA hK (h := ?_); clear hK K
  try simp only [Act.put, List.setIfInBounds_toArray, List.set_cons_zero, List.set_cons_succ]
  refine seq_calcA (h := ?_)
  try simp only [Act.put, List.setIfInBounds_toArray, List.set_cons_zero, List.set_cons_succ]
  refine seq_calcA (h := ?_)
  try simp only [Act.put, List.setIfInBounds_toArray, List.set_cons_zero, List.set_cons_succ]
  first
    | (refine seq_skipA (h := ?_))
    | (refine seq_calcA (h := ?_))
  try simp only [Act.put, List.setIfInBounds_toArray, List.set_cons_zero, List.set_cons_succ]
  first
    | (refine seq_skipA (h := ?_))
    | (refine seq_load1A (hu := Tryz.underlying3) (h := ?_))
  try simp only [Act.put, List.setIfInBounds_toArray, List.set_cons_zero, List.set_cons_succ]
  first
    | (refine seq_skipA (h := ?_))
    | (refine seq_calcA (h := ?_))
  try simp only [Act.put, List.setIfInBounds_toArray, List.set_cons_zero, List.set_cons_succ]
  first
    | (refine seq_skipA (h := ?_))
    | (refine seq_doA (h := fun K hK => ?_); go_wp2_with (first | (go_at_call 16; (with_reducible refine (LN.out _ H2.out.drew).mono ?_); rintro e w' ⟨rfl, rfl⟩) | (go_at_call 18; (with_reducible refine (TB.out _ H2.out.drew).mono ?_); rintro e w' ⟨rfl, rfl⟩) | (go_at_call 19; (with_reducible refine (LF.out _ H2.out.drew).mono ?_); rintro e w3 ⟨rfl, hb3⟩; have H3 := Lib.hid (H2.out.drew.later hb3); have B3 := Lib.hid (B2.out.trans ((Below.undrew hb3).mono B2.out.size)))); refine hkA hK (h := ?_); clear hK K)
  try simp only [Act.put, List.setIfInBounds_toArray, List.set_cons_zero, List.set_cons_succ]
  first
    | (refine seq_skipA (h := ?_))
    | (refine seq_calcA (h := ?_))
  try simp only [Act.put, List.setIfInBounds_toArray, List.set_cons_zero, List.set_cons_succ]
  refine seq_calcA (h := ?_)
  try simp only [Act.put, List.setIfInBounds_toArray, List.set_cons_zero, List.set_cons_succ]
  refine seq_calcA (h := ?_)
  try simp only [Act.put, List.setIfInBounds_toArray, List.set_cons_zero, List.set_cons_succ]
  first
    | (refine seq_skipA (h := ?_))
    | (refine seq_calcA (h := ?_))
  try simp only [Act.put, List.setIfInBounds_toArray, List.set_cons_zero, List.set_cons_succ]
  first
    | (refine seq_skipA (h := ?_))
    | (refine seq_lastA (h := fun K hK => ?_); go_wp2_with (first | (go_at_call 16; (with_reducible refine (LN.out _ H2.out.drew).mono ?_); rintro e w' ⟨rfl, rfl⟩) | (go_at_call 18; (with_reducible refine (TB.out _ H2.out.drew).mono ?_); rintro e w' ⟨rfl, rfl⟩) | (go_at_call 19; (with_reducible refine (LF.out _ H2.out.drew).mono ?_); rintro e w3 ⟨rfl, hb3⟩; have H3 := Lib.hid (H2.out.drew.later hb3); have B3 := Lib.hid (B2.out.trans ((Below.undrew hb3).mono B2.out.size)))); refine hK.out _ _ ?_; clear hK K)
  try simp only [Act.put, List.setIfInBounds_toArray, List.set_cons_zero, List.set_cons_succ]
  first
    | (refine seq_skipA (h := ?_))
    | (refine seq_calcA (h := ?_))
  try simp only [Act.put, List.setIfInBounds_toArray, List.set_cons_zero, List.set_cons_succ]
  refine seq_calcA (h := ?_)
  try simp only [Act.put, List.setIfInBounds_toArray, List.set_cons_zero, List.set_cons_succ]
  refine seq_nil ?_
  go_wp2_with (go_at_call 81; (with_reducible refine (EN.out _ (H3.out.alloc _)).mono ?_); rintro e w4 ⟨ea, ecap, rfl, hb4⟩; have B4 := Lib.hid (B3.out.trans (((Below.refl _ _).alloc (Nat.le_refl _) _ |>.trans (hb4.mono (by simp))).mono B3.out.size)))
  refine wp_loop_rounds 1 ?_
  rw [rounds_succ]
  go_wp2
  go_ret
  exact ⟨rfl, B4.out⟩
end
end Go.Proofs.YtgamgphfjndiiaaGreatDoor
