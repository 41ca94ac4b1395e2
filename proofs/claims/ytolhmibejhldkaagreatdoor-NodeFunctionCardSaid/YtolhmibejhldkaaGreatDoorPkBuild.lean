/- Texts joined: Build. No condition but those that stand within. -/
import Derived.Test.YtolhmibejhldkaaGreatDoorPkSwar
import Derived.Test.YtolhmibejhldkaaGreatDoorPkMeter
import Derived.Test.YtolhmibejhldkaaGreatDoorPkErrs
import Derived.Test.YtolhmibejhldkaaGreatDoorPkGroup
import Derived.Test.YtolhmibejhldkaaGreatDoorPkTab
import Derived.Test.YtolhmibejhldkaaGreatDoorPkTab2
import Derived.Test.YtolhmibejhldkaaGreatDoorPkTab3
import Derived.Test.YtolhmibejhldkaaGreatDoorPkTab4
import Derived.Test.YtolhmibejhldkaaGreatDoorPkTake
import Derived.Test.YtolhmibejhldkaaGreatDoorPkTabM
set_option linter.unusedVariables false
set_option linter.unusedSimpArgs false
namespace Go.Proofs.YtolhmibejhldkaaGreatDoor
open Go.RowKit Go.Proofs
attribute [local go_sem] neq_nilG eql_nilG
def rawT (n k : Nat) : TabS := ⟨n, fun i => if i < k then rep 128 else 0, fun _ _ => EntS.zero, 0, 0⟩
theorem TS.congr {w : World} {B Q : Nat} {T T' : TabS} (h : TS w B Q T) (hn : T'.n = T.n) (hM : ∀ i, i < T.n → T'.M i = T.M i) (hS : ∀ i, i < T.n → T'.S i = T.S i) (hl : T'.lv = T.lv) (ht : T'.tb = T.tb) : TS w B Q T' := by
  refine ⟨?_, h.ne, fun i hi => ?_, h.lt⟩
  · rw [hn, hl, ht]; exact h.head
  · rw [hn] at hi; rw [hM i hi, hS i hi]; exact h.at' i hi
theorem rawT_clr (n k : Nat) : ∀ i, ((rawT n k).clr k).M i = (rawT n (k + 1)).M i := fun i => by
  show (if i = k then rep 128 else if i < k then rep 128 else 0) = if i < k + 1 then rep 128 else 0
  by_cases e : i = k
  · rw [if_pos e, if_pos (by omega)]
  · rw [if_neg e]
    by_cases e2 : i < k
    · rw [if_pos e2, if_pos (by omega)]
    · rw [if_neg e2, if_neg (by omega)]
theorem rawT_step {w : World} {B Q n k : Nat} (h : TS w B Q ((rawT n k).clr k)) : TS w B Q (rawT n (k + 1)) :=
  h.congr rfl (fun i _ => (rawT_clr n k i).symm) (fun i _ => by
    show (fun _ => EntS.zero) = upd (fun _ => fun _ => EntS.zero) k (fun _ => EntS.zero) i
    unfold upd; split <;> rfl) rfl rfl
theorem rawT_full {w : World} {B Q n : Nat} (h : TS w B Q (rawT n n)) : TS w B Q (TabS.new n) :=
  h.congr rfl (fun i hi => (if_pos hi).symm) (fun i _ => rfl) rfl rfl
structure BW (w : World) (D B Q n k : Nat) (tk : Bool) : Prop where
  b : Blk w D 211 #[.pointer (if tk = true then none else some ⟨B, 0, none⟩), .int .i64 (n : Int), .int .i64 (k : Int)]
  t : tk = false → TS w B Q (rawT n k)
  hk : k ≤ n
  hr : rightB (n : Int) = true
  ne : D ≠ B ∧ D ≠ Q
theorem BW.hn {w : World} {D B Q n k : Nat} {tk : Bool} (h : BW w D B Q n k tk) : n ≤ 64 ∧ 1 ≤ n := by have := right_bd h.hr; omega
theorem BW.later {w w' : World} {D B Q n k : Nat} {tk : Bool} (h : BW w D B Q n k tk) (hb : Below w.heap.size w w') : BW w' D B Q n k tk := ⟨h.b.below hb h.b.lt, fun e => (h.t e).later hb, h.hk, h.hr, h.ne⟩
theorem BW.chg {X : Nat → Prop} {w w' : World} {D B Q n k : Nat} {tk : Bool} (h : BW w D B Q n k tk) (hc : Chg X w w') (hD : ¬ X D) (hB : ¬ X B) (hQ : ¬ X Q) : BW w' D B Q n k tk := ⟨h.b.chg hc hD, fun e => (h.t e).chg hc hB hQ, h.hk, h.hr, h.ne⟩
theorem BW.alloc {w : World} {D B Q n k : Nat} {tk : Bool} (h : BW w D B Q n k tk) (o : Obj) : BW (w.alloc o) D B Q n k tk := h.later ((Below.refl _ _).alloc (Nat.le_refl _) o)
theorem BW.drew {w : World} {D B Q n k : Nat} {tk : Bool} (h : BW w D B Q n k tk) : BW w.drew D B Q n k tk := h.later (Below.refl _ _).drew
theorem bcells {w : World} {D B Q n k : Nat} {tk : Bool} (h : BW w D B Q n k tk) : w.cell? ⟨D, 0, none⟩ = some (.pointer (if tk = true then none else some ⟨B, 0, none⟩)) ∧ w.cell? ⟨D, 1, none⟩ = some (.int .i64 (n : Int)) ∧ w.cell? ⟨D, 2, none⟩ = some (.int .i64 (k : Int)) ∧ D < w.heap.size ∧ (∀ j, w.frozen? ⟨D, j, none⟩ = false) := ⟨h.b.cell 0, h.b.cell 1, h.b.cell 2, h.b.lt, fun j => h.b.frozen j⟩
set_option maxRecDepth 100000 in
set_option maxHeartbeats 1000000 in
theorem bnew_ok (n : Nat) (hr : rightB (n : Int) = true) (w : World) :
    Calls Tryz.prog 105 #[.int .i64 (n : Int)] w fun e w' => ∃ D B Q, e = .returned (.tuple #[.pointer (some ⟨D, 0, none⟩), .nilIface]) ∧ w.heap.size ≤ D ∧ w.heap.size ≤ B ∧ w.heap.size ≤ Q ∧ BW w' D B Q n 0 false ∧ Below w.heap.size w w' := by
  have RW := Lib.hid (fun (w' : World) => traw_ok n hr w')
  have HR := Lib.hid hr
  clear hr
  go_enter Tryz.func105, Tryz.ntmps105
  go_wp2_with (go_at_call 87; refine (RW.out _).mono ?_; rintro e w1 ⟨B, Q, rfl, hB, hQ, ht, hb1⟩; have hz1 := hb1.size; have T1 := Lib.hid ht; clear ht)
  go_ret2
  have hlB := T1.out.head.lt
  have hlQ := T1.out.lt
  refine ⟨w1.heap.size, B, Q, rfl, hz1, hB, hQ, ⟨Blk.new _ _ _, fun _ => TS.later (T := rawT n 0) ?_ ((Below.refl _ _).alloc (Nat.le_refl _) _), Nat.zero_le _, HR.out, by omega, by omega⟩, hb1.alloc hz1 _⟩
  exact TS.congr (T := ⟨n, fun _ => 0, fun _ _ => EntS.zero, 0, 0⟩) T1.out rfl (fun i _ => show (if i < 0 then rep 128 else 0) = 0 from if_neg (by omega)) (fun _ _ => rfl) rfl rfl
set_option maxRecDepth 100000 in
set_option maxHeartbeats 1000000 in
theorem bleft_any (D B Q n k : Nat) (tk : Bool) (w : World) (h : BW w D B Q n k tk) :
    Calls Tryz.prog 109 #[.pointer (some ⟨D, 0, none⟩)] w fun e w' => e = .returned (.int .i64 ((n - k : Nat) : Int)) ∧ Below w.heap.size w w' := by
  obtain ⟨c0, c1, c2, hl, hf⟩ := bcells h
  have hn := h.hn
  have hk := h.hk
  have e1 : IntKind.i64.wrap ((n : Int) - (k : Int)) = ((n - k : Nat) : Int) := by rw [IntKind.wrap_i64]; omega
  clear h c0 hf
  go_enter Tryz.func109, Tryz.ntmps109
  go_wp2
  refine wp_region_seq (fun _ => False) #[⟨0, 0, 8, 1, 0⟩, ⟨1, 1, 16, 8, 0⟩, ⟨2, 3, 32, 16, 0⟩, ⟨4, 7, 64, 32, 1⟩, ⟨0, 0, 128, 1, 0⟩, ⟨16, 16, 256, 128, 0⟩, ⟨32, 48, 512, 256, 0⟩, ⟨64, 112, 1024, 512, 1⟩, ⟨136, 255, 2048, 1088, 0⟩, ⟨511, 511, 4, 2048, 0⟩] 136 [(0, 0), (1, 0), (2, 0), (3, 1), (4, 0), (5, 0), (6, 0), (7, 1), (8, 0), (9, 0)] (by kernel_rfl) (by kernel_rfl) (by kernel_rfl) (by kernel_rfl) (by kernel_rfl) (by kernel_rfl) (fun c a d v w h => by cases d <;> exact h) ?_
  refine zqC ?_; refine zqC ?_; refine zqC ?_
  refine zq1 Tryz.underlying3 ?_
  try refine zqP ?_; refine zqC ?_; refine zqC ?_; refine zqC ?_
  refine zq1 Tryz.underlying3 ?_
  try refine zqP ?_; refine zqC ?_; refine zqC ?_
  refine seq_nil ?_
  go_wp2
  go_ret
  exact ⟨rfl, (Below.refl _ _).drew⟩
set_option maxRecDepth 100000 in
set_option maxHeartbeats 1000000 in
theorem bgroups_any (D B Q n k : Nat) (tk : Bool) (w : World) (h : BW w D B Q n k tk) :
    Calls Tryz.prog 134 #[.pointer (some ⟨D, 0, none⟩)] w fun e w' => e = .returned (.int .i64 (n : Int)) ∧ w = w' := by
  obtain ⟨c0, c1, c2, hl, hf⟩ := bcells h
  clear h c0 hf
  go_enter Tryz.func134, Tryz.ntmps134
  go_wp2
  go_ret
  exact ⟨rfl, rfl⟩
set_option maxRecDepth 100000 in
set_option maxHeartbeats 2000000 in
theorem bstep_no (D B Q n : Nat) (tk : Bool) (p : Option Addr) (w : World) (h : BW w D B Q n n tk) :
    Calls Tryz.prog 108 #[.pointer (some ⟨D, 0, none⟩), .pointer p] w fun e w' => e = .returned (.bool false) ∧ Below w.heap.size w w' := by
  have LF := Lib.hid (fun (w' : World) (h : BW w' D B Q n n tk) => bleft_any D B Q n n tk w' h)
  simp only [Nat.sub_self] at LF
  have HB := Lib.hid h
  clear h
  go_enter Tryz.func108, Tryz.ntmps108
  go_wp2
  refine wp_region_seq (fun _ => False) #[⟨0, 0, 32, 1, 0⟩, ⟨1, 1, 64, 32, 2⟩, ⟨2, 3, 128, 64, 0⟩, ⟨6, 7, 256, 128, 0⟩, ⟨8, 15, 512, 257, 0⟩, ⟨24, 31, 1024, 768, 0⟩, ⟨40, 63, 2048, 1280, 0⟩, ⟨72, 127, 4096, 2304, 1⟩, ⟨8, 15, 8192, 258, 0⟩, ⟨264, 271, 16384, 8448, 2⟩, ⟨8, 15, 32768, 257, 0⟩, ⟨1032, 1039, 65536, 33024, 0⟩, ⟨2056, 3087, 131072, 65792, 0⟩, ⟨4104, 7183, 262144, 131328, 1⟩, ⟨8840, 16383, 524288, 282880, 3⟩, ⟨16392, 32767, 1048576, 524544, 0⟩, ⟨32776, 65535, 2097152, 1048832, 0⟩] 8320 [(0, 0), (1, 2), (2, 0), (3, 0), (4, 0), (5, 0), (6, 0), (7, 1), (8, 0), (10, 0), (11, 0), (12, 0), (13, 1), (9, 2), (14, 3), (15, 0), (16, 0)] (by kernel_rfl) (by kernel_rfl) (by kernel_rfl) (by kernel_rfl) (by kernel_rfl) (by kernel_rfl) (fun c a d v w h => by cases d <;> exact h) ?_
  refine zqC ?_
  refine zqD fun K hK => ?_; go_wp2_with (go_at_call 109; (with_reducible refine (LF.out _ HB.out.drew).mono ?_); rintro e w1 ⟨rfl, hb1⟩); refine hkA hK (h := ?_); clear hK K
  try refine zqP ?_; refine zqC ?_; refine zqC ?_
  first
    | (refine zqK ?_)
    | (refine zqA ?_)
  try refine zqP ?_
  first
    | (refine zqK ?_)
    | (refine zqA ?_)
  try refine zqP ?_
  first
    | (refine zqK ?_)
    | (refine zqA ?_)
  try refine zqP ?_
  first
    | (refine zqK ?_)
    | (refine zq1 Tryz.underlying85 ?_)
  try refine zqP ?_
  first
    | (refine zqK ?_)
    | (refine zqA ?_)
  try refine zqP ?_
  first
    | (refine zqK ?_)
    | (refine zqA ?_)
  try refine zqP ?_
  first
    | (refine zqK ?_)
    | (refine zqA ?_)
  try refine zqP ?_
  first
    | (refine zqK ?_)
    | (refine zqA ?_)
  try refine zqP ?_
  first
    | (refine zqK ?_)
    | (refine zq1 Tryz.underlying3 ?_)
  try refine zqP ?_
  first
    | (refine zqK ?_)
    | (refine zqD fun K hK => ?_; go_wp2_with (go_at_call 109; (with_reducible refine (LF.out _ HB.out.drew).mono ?_); rintro e w1 ⟨rfl, hb1⟩); refine hkA hK (h := ?_); clear hK K)
  try refine zqP ?_
  first
    | (refine zqK ?_)
    | (refine zqE fun K hK => ?_; go_wp2_with (go_at_call 109; (with_reducible refine (LF.out _ HB.out.drew).mono ?_); rintro e w1 ⟨rfl, hb1⟩); refine hK.out _ _ ?_; clear hK K)
  try refine zqP ?_
  first
    | (refine zqK ?_)
    | (refine zqA ?_)
  try refine zqP ?_; refine zqC ?_
  refine seq_nil ?_
  go_wp2
  go_ret
  exact ⟨rfl, Below.undrew hb1⟩
set_option maxRecDepth 100000 in
set_option maxHeartbeats 4000000 in
theorem bstep_ok (D B Q n k : Nat) (hk : k < n) (M : Nat) (mt : MeterS) (hm : mt.limited = false) (w : World) (h : BW w D B Q n k false) (hM : Blk w M 37 mt.cells) (hMD : M ≠ B ∧ M ≠ Q ∧ M ≠ D) :
    Calls Tryz.prog 108 #[.pointer (some ⟨D, 0, none⟩), .pointer (some ⟨M, 0, none⟩)] w fun e w' =>
      e = .returned (.bool true) ∧ BW w' D B Q n (k + 1) false ∧ Blk w' M 37 ((mt.add 0 1 0).add 0 0 1).cells ∧ Chg (fun b => b = M ∨ b = Q ∨ b = D) w w' := by
  have hn := h.hn
  have LF := Lib.hid (fun (w' : World) (h : BW w' D B Q n k false) => bleft_any D B Q n k false w' h)
  have WK := Lib.hid (fun (w' : World) => working_any (some ⟨M, 0, none⟩) w')
  have PR := Lib.hid (fun (w' : World) (h : TS w' B Q (rawT n k)) (hM : LW w' (some M) mt) => tprepare_ok B Q (rawT n k) hn.1 k hk _ _ (LensAt.m M) mt 0 1 0 w' h hM (fun b e => by cases e; exact ⟨(hM M rfl).lt, hMD.1, hMD.2.1⟩))
  have UN := Lib.hid (fun (w' : World) hm' => unit_free (mt.add 0 1 0) 1 (by decide) hm M 37 w' hm')
  have hnk : (((n - k : Nat) : Int) == 0) = false := by simp; omega
  have e1 : IntKind.i64.wrap ((k : Int) + 1) = ((k + 1 : Nat) : Int) := by rw [IntKind.wrap_i64]; omega
  obtain ⟨c0, c1, c2, hl, hf⟩ := bcells h
  simp only [Bool.false_eq_true, if_false] at c0
  have HB := Lib.hid h
  have HM := Lib.hid hM
  have hMl := hM.lt
  obtain ⟨hM1, hM2, hM3⟩ := hMD
  have hD1 := h.ne.1
  have hD2 := h.ne.2
  clear h hM hn hf
  go_enter Tryz.func108, Tryz.ntmps108
  go_wp2
  refine wp_region_seq (fun b => b = M ∨ b = Q) #[⟨0, 0, 32, 1, 0⟩, ⟨1, 1, 64, 32, 2⟩, ⟨2, 3, 128, 64, 0⟩, ⟨6, 7, 256, 128, 0⟩, ⟨8, 15, 512, 257, 0⟩, ⟨24, 31, 1024, 768, 0⟩, ⟨40, 63, 2048, 1280, 0⟩, ⟨72, 127, 4096, 2304, 1⟩, ⟨8, 15, 8192, 258, 0⟩, ⟨264, 271, 16384, 8448, 2⟩, ⟨8, 15, 32768, 257, 0⟩, ⟨1032, 1039, 65536, 33024, 0⟩, ⟨2056, 3087, 131072, 65792, 0⟩, ⟨4104, 7183, 262144, 131328, 1⟩, ⟨8840, 16383, 524288, 282880, 3⟩, ⟨16392, 32767, 1048576, 524544, 0⟩, ⟨32776, 65535, 2097152, 1048832, 0⟩] 8320 [(0, 0), (1, 2), (2, 0), (3, 0), (4, 0), (5, 0), (6, 0), (7, 1), (8, 0), (10, 0), (11, 0), (12, 0), (13, 1), (9, 2), (14, 3), (15, 0), (16, 0)] (by kernel_rfl) (by kernel_rfl) (by kernel_rfl) (by kernel_rfl) (by kernel_rfl) (by kernel_rfl) (fun c a d v w h => by cases d <;> exact h) ?_
  refine zqC ?_
  refine zqD fun K hK => ?_; go_wp2_with (first | (go_at_call 109; (with_reducible refine (LF.out _ HB.out.drew).mono ?_); rintro e w1 ⟨rfl, hb1⟩; have B1 := Lib.hid (HB.out.drew.later hb1); have M1 := Lib.hid (HM.out.drew.below hb1 HM.out.lt); obtain ⟨d0, d1, d2, dl, df⟩ := bcells B1.out; simp only [Bool.false_eq_true, if_false] at d0) | (go_at_call 153; (with_reducible refine (WK.out _).mono ?_); rintro e w2 ⟨rfl, hb2⟩; have B2 := Lib.hid (B1.out.later hb2); have M2 := Lib.hid (M1.out.below hb2 M1.out.lt); obtain ⟨d20, d21, d22, dl2, df2⟩ := bcells B2.out; simp only [Bool.false_eq_true, if_false] at d20) | (go_at_call 156; (have L2 : LW w2 (some M) mt := (fun M' e => by cases e; exact M2.out); (with_reducible refine (PR.out _ (B2.out.t rfl) L2).mono ?_); rintro e w3 ⟨rfl, ht3, hl3, hc3⟩; have M3 := Lib.hid (hl3 M rfl); have T3 := Lib.hid (rawT_step ht3); have D3 := Lib.hid (B2.out.b.chg hc3 (by rintro (e | e); exact hM3 (Option.some.inj e); exact hD2 e)); have C3 := Lib.hid hc3; clear ht3 hl3))); refine hkA hK (h := ?_); clear hK K
  try refine zqP ?_; refine zqC ?_; refine zqC ?_
  first
    | (refine zqK ?_)
    | (refine zqA ?_)
  try refine zqP ?_
  first
    | (refine zqK ?_)
    | (refine zqA ?_)
  try refine zqP ?_
  first
    | (refine zqK ?_)
    | (refine zqA ?_)
  try refine zqP ?_
  first
    | (refine zqK ?_)
    | (refine zq1 Tryz.underlying85 ?_)
  try refine zqP ?_
  first
    | (refine zqK ?_)
    | (refine zqA ?_)
  try refine zqP ?_
  first
    | (refine zqK ?_)
    | (refine zqA ?_)
  try refine zqP ?_
  first
    | (refine zqK ?_)
    | (refine zqA ?_)
  try refine zqP ?_
  first
    | (refine zqK ?_)
    | (refine zqA ?_)
  try refine zqP ?_
  first
    | (refine zqK ?_)
    | (refine zq1 Tryz.underlying3 ?_)
  try refine zqP ?_
  first
    | (refine zqK ?_)
    | (refine zqD fun K hK => ?_; go_wp2_with (first | (go_at_call 109; (with_reducible refine (LF.out _ HB.out.drew).mono ?_); rintro e w1 ⟨rfl, hb1⟩; have B1 := Lib.hid (HB.out.drew.later hb1); have M1 := Lib.hid (HM.out.drew.below hb1 HM.out.lt); obtain ⟨d0, d1, d2, dl, df⟩ := bcells B1.out; simp only [Bool.false_eq_true, if_false] at d0) | (go_at_call 153; (with_reducible refine (WK.out _).mono ?_); rintro e w2 ⟨rfl, hb2⟩; have B2 := Lib.hid (B1.out.later hb2); have M2 := Lib.hid (M1.out.below hb2 M1.out.lt); obtain ⟨d20, d21, d22, dl2, df2⟩ := bcells B2.out; simp only [Bool.false_eq_true, if_false] at d20) | (go_at_call 156; (have L2 : LW w2 (some M) mt := (fun M' e => by cases e; exact M2.out); (with_reducible refine (PR.out _ (B2.out.t rfl) L2).mono ?_); rintro e w3 ⟨rfl, ht3, hl3, hc3⟩; have M3 := Lib.hid (hl3 M rfl); have T3 := Lib.hid (rawT_step ht3); have D3 := Lib.hid (B2.out.b.chg hc3 (by rintro (e | e); exact hM3 (Option.some.inj e); exact hD2 e)); have C3 := Lib.hid hc3; clear ht3 hl3))); refine hkA hK (h := ?_); clear hK K)
  try refine zqP ?_
  first
    | (refine zqK ?_)
    | (refine zqE fun K hK => ?_; go_wp2_with (first | (go_at_call 109; (with_reducible refine (LF.out _ HB.out.drew).mono ?_); rintro e w1 ⟨rfl, hb1⟩; have B1 := Lib.hid (HB.out.drew.later hb1); have M1 := Lib.hid (HM.out.drew.below hb1 HM.out.lt); obtain ⟨d0, d1, d2, dl, df⟩ := bcells B1.out; simp only [Bool.false_eq_true, if_false] at d0) | (go_at_call 153; (with_reducible refine (WK.out _).mono ?_); rintro e w2 ⟨rfl, hb2⟩; have B2 := Lib.hid (B1.out.later hb2); have M2 := Lib.hid (M1.out.below hb2 M1.out.lt); obtain ⟨d20, d21, d22, dl2, df2⟩ := bcells B2.out; simp only [Bool.false_eq_true, if_false] at d20) | (go_at_call 156; (have L2 : LW w2 (some M) mt := (fun M' e => by cases e; exact M2.out); (with_reducible refine (PR.out _ (B2.out.t rfl) L2).mono ?_); rintro e w3 ⟨rfl, ht3, hl3, hc3⟩; have M3 := Lib.hid (hl3 M rfl); have T3 := Lib.hid (rawT_step ht3); have D3 := Lib.hid (B2.out.b.chg hc3 (by rintro (e | e); exact hM3 (Option.some.inj e); exact hD2 e)); have C3 := Lib.hid hc3; clear ht3 hl3))); refine hK.out _ _ ?_; clear hK K)
  try refine zqP ?_
  first
    | (refine zqK ?_)
    | (refine zqA ?_)
  try refine zqP ?_; refine zqC ?_
  refine seq_nil ?_
  go_wp2_with (go_at_call 150; (with_reducible refine (UN.out _ M3.out).mono ?_); rintro e w4 ⟨rfl, hm4, hc4⟩; have M4 := Lib.hid hm4; have D4 := Lib.hid (D3.out.chg hc4 (fun e => hM3 e.symm)); have T4 := Lib.hid (T3.out.chg hc4 (fun e => hM1 e.symm) (fun e => hM2 e.symm)); have g2 := D4.out.cell 2; have gf := fun j => D4.out.frozen j; have gl := D4.out.lt; have C4 := Lib.hid hc4; clear hm4)
  go_ret
  have hC : Chg (fun b => b = D) w4 (w4.setCell ⟨D, 2, none⟩ (.int .i64 ((k + 1 : Nat) : Int))) := (Chg.refl _ _).set1 _ _
  refine ⟨rfl, ⟨D4.out.set 2 _, fun _ => T4.out.chg hC (fun e => hD1 e.symm) (fun e => hD2 e.symm), hk, HB.out.hr, hD1, hD2⟩, M4.out.chg hC hM3, ?_⟩
  refine Chg.trans (Chg.trans (Chg.trans (Chg.of_below (show Below w.heap.size w w2 from (Below.undrew hb1).trans (hb2.mono hb1.size))) (C3.out.mono (fun b _ e => ?_))) (C4.out.mono (fun b _ e => .inl e))) (hC.mono (fun b _ e => .inr (.inr e)))
  rcases e with e | e
  · exact .inl (Option.some.inj e).symm
  · exact .inr (.inl e)
set_option maxRecDepth 100000 in
set_option maxHeartbeats 2000000 in
theorem btake_ok (D B Q n : Nat) (w : World) (h : BW w D B Q n n false) :
    Calls Tryz.prog 158 #[.pointer (some ⟨D, 0, none⟩)] w fun e w' => e = .returned (.tuple #[.pointer (some ⟨B, 0, none⟩), .nilIface]) ∧ BW w' D B Q n n true ∧ TS w' B Q (TabS.new n) ∧ Chg (fun b => b = D) w w' := by
  have LF := Lib.hid (fun (w' : World) (h : BW w' D B Q n n false) => bleft_any D B Q n n false w' h)
  simp only [Nat.sub_self] at LF
  have HB := Lib.hid h
  clear h
  go_enter Tryz.func158, Tryz.ntmps158
  go_wp2_with (go_at_call 109; (with_reducible refine (LF.out _ HB.out).mono ?_); rintro e w1 ⟨rfl, hb1⟩; have B1 := Lib.hid (HB.out.later hb1); obtain ⟨d0, d1, d2, dl, df⟩ := bcells B1.out; simp only [Bool.false_eq_true, if_false] at d0)
  go_ret2
  have hC : Chg (fun b => b = D) w1 (w1.setCell ⟨D, 0, none⟩ (.pointer none)) := (Chg.refl _ _).set1 _ _
  have hT : TS (w1.setCell ⟨D, 0, none⟩ (.pointer none)) B Q (TabS.new n) := (rawT_full (B1.out.t rfl)).chg hC (fun e => HB.out.ne.1 e.symm) (fun e => HB.out.ne.2 e.symm)
  exact ⟨rfl, ⟨B1.out.b.set 0 _, (fun e => by cases e), HB.out.hk, HB.out.hr, HB.out.ne⟩, hT, (Chg.of_below hb1).trans hC⟩
end Go.Proofs.YtolhmibejhldkaaGreatDoor
