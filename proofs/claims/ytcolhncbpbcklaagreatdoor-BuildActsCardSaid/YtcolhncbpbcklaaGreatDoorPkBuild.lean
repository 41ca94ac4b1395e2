/- Texts joined: Build BuildScene BuildAlive. No condition but those that stand within. -/
import Derived.Test.YtcolhncbpbcklaaGreatDoorPkSwar
import Derived.Test.YtcolhncbpbcklaaGreatDoorPkMeter
import Derived.Test.YtcolhncbpbcklaaGreatDoorPkErrs
import Derived.Test.YtcolhncbpbcklaaGreatDoorPkGroup
import Derived.Test.YtcolhncbpbcklaaGreatDoorPkTab
import Derived.Test.YtcolhncbpbcklaaGreatDoorPkTab2
import Derived.Test.YtcolhncbpbcklaaGreatDoorPkTake
import Derived.Test.YtcolhncbpbcklaaGreatDoorPkTabM
namespace Go.Proofs.YtcolhncbpbcklaaGreatDoor
set_option linter.unusedVariables false
set_option linter.unusedSimpArgs false
open Go.RowKit Go.Proofs
attribute [local go_sem] neq_nilG eql_nilG

/-- a table of which k groups are prepared -/
def rawT (n k : Nat) : TabS := ⟨n, fun i => if i < k then rep 128 else 0, fun _ _ => EntS.zero, 0, 0⟩
theorem TS.congr {w : World} {B Q : Nat} {T T' : TabS} (h : TS w B Q T) (hn : T'.n = T.n) (hM : ∀ i, i < T.n → T'.M i = T.M i) (hS : ∀ i, i < T.n → T'.S i = T.S i) (hl : T'.lv = T.lv) (ht : T'.tb = T.tb) : TS w B Q T' := by
  refine ⟨?_, h.ne, fun i hi => ?_, h.lt⟩
  · rw [hn, hl, ht]; exact h.head
  · rw [hn] at hi; rw [hM i hi, hS i hi]; exact h.at' i hi
theorem rawT_clr (n k : Nat) : ∀ i, ((rawT n k).clr k).M i = (rawT n (k + 1)).M i := fun i => by
  show (if i = k then rep 128 else if i < k then rep 128 else 0) = if i < k + 1 then rep 128 else 0
  by_cases e : i = k
  · rw [if_pos e, if_pos (by omega)]
  · rw [if_neg e]
    by_cases e2 : i < k
    · rw [if_pos e2, if_pos (by omega)]
    · rw [if_neg e2, if_neg (by omega)]
theorem rawT_step {w : World} {B Q n k : Nat} (h : TS w B Q ((rawT n k).clr k)) : TS w B Q (rawT n (k + 1)) :=
  h.congr rfl (fun i _ => (rawT_clr n k i).symm) (fun i _ => by
    show (fun _ => EntS.zero) = upd (fun _ => fun _ => EntS.zero) k (fun _ => EntS.zero) i
    unfold upd; split <;> rfl) rfl rfl
theorem rawT_full {w : World} {B Q n : Nat} (h : TS w B Q (rawT n n)) : TS w B Q (TabS.new n) :=
  h.congr rfl (fun i hi => (if_pos hi).symm) (fun i _ => rfl) rfl rfl
/-- a build at block D of a table at B and Q -/
structure BW (w : World) (D B Q n k : Nat) (tk : Bool) : Prop where
  b : Blk w D 128 #[.pointer (if tk = true then none else some ⟨B, 0, none⟩), .int .i64 (n : Int), .int .i64 (k : Int)]
  t : tk = false → TS w B Q (rawT n k)
  hk : k ≤ n
  hr : rightB (n : Int) = true
  ne : D ≠ B ∧ D ≠ Q
theorem BW.hn {w : World} {D B Q n k : Nat} {tk : Bool} (h : BW w D B Q n k tk) : n ≤ 64 ∧ 1 ≤ n := by have := right_bd h.hr; omega
theorem BW.later {w w' : World} {D B Q n k : Nat} {tk : Bool} (h : BW w D B Q n k tk) (hb : Below w.heap.size w w') : BW w' D B Q n k tk := ⟨h.b.below hb h.b.lt, fun e => (h.t e).later hb, h.hk, h.hr, h.ne⟩
theorem BW.chg {X : Nat → Prop} {w w' : World} {D B Q n k : Nat} {tk : Bool} (h : BW w D B Q n k tk) (hc : Chg X w w') (hD : ¬ X D) (hB : ¬ X B) (hQ : ¬ X Q) : BW w' D B Q n k tk := ⟨h.b.chg hc hD, fun e => (h.t e).chg hc hB hQ, h.hk, h.hr, h.ne⟩
theorem BW.alloc {w : World} {D B Q n k : Nat} {tk : Bool} (h : BW w D B Q n k tk) (o : Obj) : BW (w.alloc o) D B Q n k tk := h.later ((Below.refl _ _).alloc (Nat.le_refl _) o)
theorem BW.drew {w : World} {D B Q n k : Nat} {tk : Bool} (h : BW w D B Q n k tk) : BW w.drew D B Q n k tk := h.later (Below.refl _ _).drew
theorem bcells {w : World} {D B Q n k : Nat} {tk : Bool} (h : BW w D B Q n k tk) : w.cell? ⟨D, 0, none⟩ = some (.pointer (if tk = true then none else some ⟨B, 0, none⟩)) ∧ w.cell? ⟨D, 1, none⟩ = some (.int .i64 (n : Int)) ∧ w.cell? ⟨D, 2, none⟩ = some (.int .i64 (k : Int)) ∧ D < w.heap.size ∧ (∀ j, w.frozen? ⟨D, j, none⟩ = false) := ⟨h.b.cell 0, h.b.cell 1, h.b.cell 2, h.b.lt, fun j => h.b.frozen j⟩
set_option maxRecDepth 100000 in
set_option maxHeartbeats 1000000 in
theorem bnew_ok (n : Nat) (hr : rightB (n : Int) = true) (w : World) :
    Calls Tryz.prog 25 #[.int .i64 (n : Int)] w fun e w' => ∃ D B Q, e = .returned (.tuple #[.pointer (some ⟨D, 0, none⟩), .nilIface]) ∧ w.heap.size ≤ D ∧ w.heap.size ≤ B ∧ w.heap.size ≤ Q ∧ BW w' D B Q n 0 false ∧ Below w.heap.size w w' := by
  have RW := Lib.hid (fun (w' : World) => traw_ok n hr w')
  have HR := Lib.hid hr
  clear hr
  go_enter Tryz.func25, Tryz.ntmps25
  go_wp2_with (go_at_call 47; refine (RW.out _).mono ?_; rintro e w1 ⟨B, Q, rfl, hB, hQ, ht, hb1⟩; have hz1 := hb1.size; have T1 := Lib.hid ht; clear ht)
  go_ret2
  have hlB := T1.out.head.lt
  have hlQ := T1.out.lt
  refine ⟨w1.heap.size, B, Q, rfl, hz1, hB, hQ, ⟨Blk.new _ _ _, fun _ => TS.later (T := rawT n 0) ?_ ((Below.refl _ _).alloc (Nat.le_refl _) _), Nat.zero_le _, HR.out, by omega, by omega⟩, hb1.alloc hz1 _⟩
  exact TS.congr (T := ⟨n, fun _ => 0, fun _ _ => EntS.zero, 0, 0⟩) T1.out rfl (fun i _ => show (if i < 0 then rep 128 else 0) = 0 from if_neg (by omega)) (fun _ _ => rfl) rfl rfl
set_option maxRecDepth 100000 in
set_option maxHeartbeats 1000000 in
theorem bnew_bad (n : Int) (hr : rightB n = false) (E : Nat → Addr) (w : World) (he : EC w E [1]) :
    Calls Tryz.prog 25 #[.int .i64 n] w fun e w' => e = .returned (.tuple #[.pointer none, errAt E 1]) ∧ Below w.heap.size w w' := by
  have RW := Lib.hid (traw_bad n hr E w he)
  unfold errAt at *
  clear hr he
  go_enter Tryz.func25, Tryz.ntmps25
  go_wp2_with (go_at_call 47; (with_reducible refine RW.out.mono ?_); rintro e w1 ⟨rfl, hb1⟩)
  go_ret2
  exact ⟨rfl, hb1⟩
set_option maxRecDepth 100000 in
set_option maxHeartbeats 1000000 in
theorem bleft_any (D B Q n k : Nat) (tk : Bool) (w : World) (h : BW w D B Q n k tk) :
    Calls Tryz.prog 32 #[.pointer (some ⟨D, 0, none⟩)] w fun e w' => e = .returned (.int .i64 ((n - k : Nat) : Int)) ∧ Below w.heap.size w w' := by
  obtain ⟨c0, c1, c2, hl, hf⟩ := bcells h
  have hn := h.hn
  have hk := h.hk
  have e1 : IntKind.i64.wrap ((n : Int) - (k : Int)) = ((n - k : Nat) : Int) := by rw [IntKind.wrap_i64]; omega
  clear h c0 hf
  go_enter Tryz.func32, Tryz.ntmps32
  go_wp2
  refine wp_region_seq (fun _ => False) #[⟨0, 0, 8, 1, 0⟩, ⟨1, 1, 16, 8, 0⟩, ⟨2, 3, 32, 16, 0⟩, ⟨4, 7, 64, 32, 1⟩, ⟨0, 0, 128, 1, 0⟩, ⟨16, 16, 256, 128, 0⟩, ⟨32, 48, 512, 256, 0⟩, ⟨64, 112, 1024, 512, 1⟩, ⟨136, 255, 2048, 1088, 0⟩, ⟨511, 511, 4, 2048, 0⟩] 136 [(0, 0), (1, 0), (2, 0), (3, 1), (4, 0), (5, 0), (6, 0), (7, 1), (8, 0), (9, 0)] (by kernel_rfl) (by kernel_rfl) (by kernel_rfl) (by kernel_rfl) (by kernel_rfl) (by kernel_rfl) (fun c a d v w h => by cases d <;> exact h) ?_
  refine seq_calc (by simp only [List.getElem?_toArray, List.getElem?_cons_succ, List.getElem?_cons_zero]; rfl) (by rfl) (fun u => by go_simp <;> with_reducible rfl) ?_
  try simp only [Act.put, List.setIfInBounds_toArray, List.set_cons_zero, List.set_cons_succ]
  refine seq_calc (by simp only [List.getElem?_toArray, List.getElem?_cons_succ, List.getElem?_cons_zero]; rfl) (by rfl) (fun u => by go_simp <;> with_reducible rfl) ?_
  try simp only [Act.put, List.setIfInBounds_toArray, List.set_cons_zero, List.set_cons_succ]
  refine seq_calc (by simp only [List.getElem?_toArray, List.getElem?_cons_succ, List.getElem?_cons_zero]; rfl) (by rfl) (fun u => by go_simp <;> with_reducible rfl) ?_
  try simp only [Act.put, List.setIfInBounds_toArray, List.set_cons_zero, List.set_cons_succ]
  refine seq_load1 (by simp only [List.getElem?_toArray, List.getElem?_cons_succ, List.getElem?_cons_zero]; rfl) (by rfl) rfl rfl Tryz.underlying3 rfl (by go_simp <;> with_reducible rfl) (by first | exact id | assumption | (simp; done) | (simp; omega)) ?_
  try simp only [Act.put, List.setIfInBounds_toArray, List.set_cons_zero, List.set_cons_succ]
  refine seq_calc (by simp only [List.getElem?_toArray, List.getElem?_cons_succ, List.getElem?_cons_zero]; rfl) (by rfl) (fun u => by go_simp <;> with_reducible rfl) ?_
  try simp only [Act.put, List.setIfInBounds_toArray, List.set_cons_zero, List.set_cons_succ]
  refine seq_calc (by simp only [List.getElem?_toArray, List.getElem?_cons_succ, List.getElem?_cons_zero]; rfl) (by rfl) (fun u => by go_simp <;> with_reducible rfl) ?_
  try simp only [Act.put, List.setIfInBounds_toArray, List.set_cons_zero, List.set_cons_succ]
  refine seq_calc (by simp only [List.getElem?_toArray, List.getElem?_cons_succ, List.getElem?_cons_zero]; rfl) (by rfl) (fun u => by go_simp <;> with_reducible rfl) ?_
  try simp only [Act.put, List.setIfInBounds_toArray, List.set_cons_zero, List.set_cons_succ]
  refine seq_load1 (by simp only [List.getElem?_toArray, List.getElem?_cons_succ, List.getElem?_cons_zero]; rfl) (by rfl) rfl rfl Tryz.underlying3 rfl (by go_simp <;> with_reducible rfl) (by first | exact id | assumption | (simp; done) | (simp; omega)) ?_
  try simp only [Act.put, List.setIfInBounds_toArray, List.set_cons_zero, List.set_cons_succ]
  refine seq_calc (by simp only [List.getElem?_toArray, List.getElem?_cons_succ, List.getElem?_cons_zero]; rfl) (by rfl) (fun u => by go_simp <;> with_reducible rfl) ?_
  try simp only [Act.put, List.setIfInBounds_toArray, List.set_cons_zero, List.set_cons_succ]
  refine seq_calc (by simp only [List.getElem?_toArray, List.getElem?_cons_succ, List.getElem?_cons_zero]; rfl) (by rfl) (fun u => by go_simp <;> with_reducible rfl) ?_
  try simp only [Act.put, List.setIfInBounds_toArray, List.set_cons_zero, List.set_cons_succ]
  refine seq_nil ?_
  go_wp2
  go_ret
  exact ⟨rfl, (Below.refl _ _).drew⟩
set_option maxRecDepth 100000 in
set_option maxHeartbeats 1000000 in
theorem bgroups_any (D B Q n k : Nat) (tk : Bool) (w : World) (h : BW w D B Q n k tk) :
    Calls Tryz.prog 33 #[.pointer (some ⟨D, 0, none⟩)] w fun e w' => e = .returned (.int .i64 (n : Int)) ∧ w = w' := by
  obtain ⟨c0, c1, c2, hl, hf⟩ := bcells h
  clear h c0 hf
  go_enter Tryz.func33, Tryz.ntmps33
  go_wp2
  go_ret
  exact ⟨rfl, rfl⟩
set_option maxRecDepth 100000 in
set_option maxHeartbeats 2000000 in
theorem bstep_no (D B Q n : Nat) (tk : Bool) (p : Option Addr) (w : World) (h : BW w D B Q n n tk) :
    Calls Tryz.prog 27 #[.pointer (some ⟨D, 0, none⟩), .pointer p] w fun e w' => e = .returned (.bool false) ∧ Below w.heap.size w w' := by
  have LF := Lib.hid (fun (w' : World) (h : BW w' D B Q n n tk) => bleft_any D B Q n n tk w' h)
  simp only [Nat.sub_self] at LF
  have HB := Lib.hid h
  clear h
  go_enter Tryz.func27, Tryz.ntmps27
  go_wp2
  refine wp_region_seq (fun _ => False) #[⟨0, 0, 32, 1, 0⟩, ⟨1, 1, 64, 32, 2⟩, ⟨2, 3, 128, 64, 0⟩, ⟨6, 7, 256, 128, 0⟩, ⟨8, 15, 512, 257, 0⟩, ⟨24, 31, 1024, 768, 0⟩, ⟨40, 63, 2048, 1280, 0⟩, ⟨72, 127, 4096, 2304, 1⟩, ⟨8, 15, 8192, 258, 0⟩, ⟨264, 271, 16384, 8448, 2⟩, ⟨8, 15, 32768, 257, 0⟩, ⟨1032, 1039, 65536, 33024, 0⟩, ⟨2056, 3087, 131072, 65792, 0⟩, ⟨4104, 7183, 262144, 131328, 1⟩, ⟨8840, 16383, 524288, 282880, 3⟩, ⟨16392, 32767, 1048576, 524544, 0⟩, ⟨32776, 65535, 2097152, 1048832, 0⟩] 8320 [(0, 0), (1, 2), (2, 0), (3, 0), (4, 0), (5, 0), (6, 0), (7, 1), (8, 0), (10, 0), (11, 0), (12, 0), (13, 1), (9, 2), (14, 3), (15, 0), (16, 0)] (by kernel_rfl) (by kernel_rfl) (by kernel_rfl) (by kernel_rfl) (by kernel_rfl) (by kernel_rfl) (fun c a d v w h => by cases d <;> exact h) ?_
  refine seq_calc (by simp only [List.getElem?_toArray, List.getElem?_cons_succ, List.getElem?_cons_zero]; rfl) (by rfl) (fun u => by go_simp <;> with_reducible rfl) ?_
  try simp only [Act.put, List.setIfInBounds_toArray, List.set_cons_zero, List.set_cons_succ]
  refine seq_do (by simp only [List.getElem?_toArray, List.getElem?_cons_succ, List.getElem?_cons_zero]; rfl) (by rfl) (fun K hK => ?_); go_wp2_with (go_at_call 32; (with_reducible refine (LF.out _ HB.out.drew).mono ?_); rintro e w1 ⟨rfl, hb1⟩); refine hK.out _ _ (by first | (with_reducible exact Chg.refl _ _) | (with_reducible assumption) | (refine Chg.of_below ?_; with_reducible assumption) | (with_reducible exact (Chg.refl _ _).alloc _) | (with_reducible exact (Chg.refl _ _).drewN _) | (with_reducible exact (Chg.refl _ _).drew) | exact ⟨rfl, rfl, rfl, Nat.le_refl _, fun _ _ _ => rfl⟩ | exact (Chg.refl _ _).setCell (.inl (.inl rfl)) _ | exact (Chg.refl _ _).setCell (.inl (.inr rfl)) _ | exact ((Chg.refl _ _).setCell (.inl (.inl rfl)) _).setCell (.inl (.inl rfl)) _ | exact ((Chg.refl _ _).setCell (.inl (.inr rfl)) _).setCell (.inl (.inr rfl)) _ | exact Chg.drew (Chg.setCell ⟨rfl, rfl, rfl, Nat.le_refl _, fun _ _ _ => rfl⟩ (.inl (.inl rfl)) _) | exact Chg.drew (Chg.setCell ⟨rfl, rfl, rfl, Nat.le_refl _, fun _ _ _ => rfl⟩ (.inl (.inr rfl)) _)) ?_; clear hK K
  try simp only [Act.put, List.setIfInBounds_toArray, List.set_cons_zero, List.set_cons_succ]
  refine seq_calc (by simp only [List.getElem?_toArray, List.getElem?_cons_succ, List.getElem?_cons_zero]; rfl) (by rfl) (fun u => by go_simp <;> with_reducible rfl) ?_
  try simp only [Act.put, List.setIfInBounds_toArray, List.set_cons_zero, List.set_cons_succ]
  refine seq_calc (by simp only [List.getElem?_toArray, List.getElem?_cons_succ, List.getElem?_cons_zero]; rfl) (by rfl) (fun u => by go_simp <;> with_reducible rfl) ?_
  try simp only [Act.put, List.setIfInBounds_toArray, List.set_cons_zero, List.set_cons_succ]
  first
    | (refine seq_skip (by simp only [List.getElem?_toArray, List.getElem?_cons_succ, List.getElem?_cons_zero]; rfl) (by rfl) ?_)
    | (refine seq_calc (by simp only [List.getElem?_toArray, List.getElem?_cons_succ, List.getElem?_cons_zero]; rfl) (by rfl) (fun u => by go_simp <;> with_reducible rfl) ?_)
  try simp only [Act.put, List.setIfInBounds_toArray, List.set_cons_zero, List.set_cons_succ]
  first
    | (refine seq_skip (by simp only [List.getElem?_toArray, List.getElem?_cons_succ, List.getElem?_cons_zero]; rfl) (by rfl) ?_)
    | (refine seq_calc (by simp only [List.getElem?_toArray, List.getElem?_cons_succ, List.getElem?_cons_zero]; rfl) (by rfl) (fun u => by go_simp <;> with_reducible rfl) ?_)
  try simp only [Act.put, List.setIfInBounds_toArray, List.set_cons_zero, List.set_cons_succ]
  first
    | (refine seq_skip (by simp only [List.getElem?_toArray, List.getElem?_cons_succ, List.getElem?_cons_zero]; rfl) (by rfl) ?_)
    | (refine seq_calc (by simp only [List.getElem?_toArray, List.getElem?_cons_succ, List.getElem?_cons_zero]; rfl) (by rfl) (fun u => by go_simp <;> with_reducible rfl) ?_)
  try simp only [Act.put, List.setIfInBounds_toArray, List.set_cons_zero, List.set_cons_succ]
  first
    | (refine seq_skip (by simp only [List.getElem?_toArray, List.getElem?_cons_succ, List.getElem?_cons_zero]; rfl) (by rfl) ?_)
    | (refine seq_load1 (by simp only [List.getElem?_toArray, List.getElem?_cons_succ, List.getElem?_cons_zero]; rfl) (by rfl) rfl rfl Tryz.underlying25 rfl (by go_simp <;> with_reducible rfl) (by first | exact id | assumption | (simp; done) | (simp; omega)) ?_)
  try simp only [Act.put, List.setIfInBounds_toArray, List.set_cons_zero, List.set_cons_succ]
  first
    | (refine seq_skip (by simp only [List.getElem?_toArray, List.getElem?_cons_succ, List.getElem?_cons_zero]; rfl) (by rfl) ?_)
    | (refine seq_calc (by simp only [List.getElem?_toArray, List.getElem?_cons_succ, List.getElem?_cons_zero]; rfl) (by rfl) (fun u => by go_simp <;> with_reducible rfl) ?_)
  try simp only [Act.put, List.setIfInBounds_toArray, List.set_cons_zero, List.set_cons_succ]
  first
    | (refine seq_skip (by simp only [List.getElem?_toArray, List.getElem?_cons_succ, List.getElem?_cons_zero]; rfl) (by rfl) ?_)
    | (refine seq_calc (by simp only [List.getElem?_toArray, List.getElem?_cons_succ, List.getElem?_cons_zero]; rfl) (by rfl) (fun u => by go_simp <;> with_reducible rfl) ?_)
  try simp only [Act.put, List.setIfInBounds_toArray, List.set_cons_zero, List.set_cons_succ]
  first
    | (refine seq_skip (by simp only [List.getElem?_toArray, List.getElem?_cons_succ, List.getElem?_cons_zero]; rfl) (by rfl) ?_)
    | (refine seq_calc (by simp only [List.getElem?_toArray, List.getElem?_cons_succ, List.getElem?_cons_zero]; rfl) (by rfl) (fun u => by go_simp <;> with_reducible rfl) ?_)
  try simp only [Act.put, List.setIfInBounds_toArray, List.set_cons_zero, List.set_cons_succ]
  first
    | (refine seq_skip (by simp only [List.getElem?_toArray, List.getElem?_cons_succ, List.getElem?_cons_zero]; rfl) (by rfl) ?_)
    | (refine seq_calc (by simp only [List.getElem?_toArray, List.getElem?_cons_succ, List.getElem?_cons_zero]; rfl) (by rfl) (fun u => by go_simp <;> with_reducible rfl) ?_)
  try simp only [Act.put, List.setIfInBounds_toArray, List.set_cons_zero, List.set_cons_succ]
  first
    | (refine seq_skip (by simp only [List.getElem?_toArray, List.getElem?_cons_succ, List.getElem?_cons_zero]; rfl) (by rfl) ?_)
    | (refine seq_load1 (by simp only [List.getElem?_toArray, List.getElem?_cons_succ, List.getElem?_cons_zero]; rfl) (by rfl) rfl rfl Tryz.underlying3 rfl (by go_simp <;> with_reducible rfl) (by first | exact id | assumption | (simp; done) | (simp; omega)) ?_)
  try simp only [Act.put, List.setIfInBounds_toArray, List.set_cons_zero, List.set_cons_succ]
  first
    | (refine seq_skip (by simp only [List.getElem?_toArray, List.getElem?_cons_succ, List.getElem?_cons_zero]; rfl) (by rfl) ?_)
    | (refine seq_do (by simp only [List.getElem?_toArray, List.getElem?_cons_succ, List.getElem?_cons_zero]; rfl) (by rfl) (fun K hK => ?_); go_wp2_with (go_at_call 32; (with_reducible refine (LF.out _ HB.out.drew).mono ?_); rintro e w1 ⟨rfl, hb1⟩); refine hK.out _ _ (by first | (with_reducible exact Chg.refl _ _) | (with_reducible assumption) | (refine Chg.of_below ?_; with_reducible assumption) | (with_reducible exact (Chg.refl _ _).alloc _) | (with_reducible exact (Chg.refl _ _).drewN _) | (with_reducible exact (Chg.refl _ _).drew) | exact ⟨rfl, rfl, rfl, Nat.le_refl _, fun _ _ _ => rfl⟩ | exact (Chg.refl _ _).setCell (.inl (.inl rfl)) _ | exact (Chg.refl _ _).setCell (.inl (.inr rfl)) _ | exact ((Chg.refl _ _).setCell (.inl (.inl rfl)) _).setCell (.inl (.inl rfl)) _ | exact ((Chg.refl _ _).setCell (.inl (.inr rfl)) _).setCell (.inl (.inr rfl)) _ | exact Chg.drew (Chg.setCell ⟨rfl, rfl, rfl, Nat.le_refl _, fun _ _ _ => rfl⟩ (.inl (.inl rfl)) _) | exact Chg.drew (Chg.setCell ⟨rfl, rfl, rfl, Nat.le_refl _, fun _ _ _ => rfl⟩ (.inl (.inr rfl)) _)) ?_; clear hK K)
  try simp only [Act.put, List.setIfInBounds_toArray, List.set_cons_zero, List.set_cons_succ]
  first
    | (refine seq_skip (by simp only [List.getElem?_toArray, List.getElem?_cons_succ, List.getElem?_cons_zero]; rfl) (by rfl) ?_)
    | (refine seq_last (by simp only [List.getElem?_toArray, List.getElem?_cons_succ, List.getElem?_cons_zero]; rfl) (by rfl) (fun K hK => ?_); go_wp2_with (go_at_call 32; (with_reducible refine (LF.out _ HB.out.drew).mono ?_); rintro e w1 ⟨rfl, hb1⟩); refine hK.out _ _ ?_; clear hK K)
  try simp only [Act.put, List.setIfInBounds_toArray, List.set_cons_zero, List.set_cons_succ]
  first
    | (refine seq_skip (by simp only [List.getElem?_toArray, List.getElem?_cons_succ, List.getElem?_cons_zero]; rfl) (by rfl) ?_)
    | (refine seq_calc (by simp only [List.getElem?_toArray, List.getElem?_cons_succ, List.getElem?_cons_zero]; rfl) (by rfl) (fun u => by go_simp <;> with_reducible rfl) ?_)
  try simp only [Act.put, List.setIfInBounds_toArray, List.set_cons_zero, List.set_cons_succ]
  refine seq_calc (by simp only [List.getElem?_toArray, List.getElem?_cons_succ, List.getElem?_cons_zero]; rfl) (by rfl) (fun u => by go_simp <;> with_reducible rfl) ?_
  try simp only [Act.put, List.setIfInBounds_toArray, List.set_cons_zero, List.set_cons_succ]
  refine seq_nil ?_
  go_wp2
  go_ret
  exact ⟨rfl, Below.undrew hb1⟩
set_option maxRecDepth 100000 in
set_option maxHeartbeats 4000000 in
theorem bstep_ok (D B Q n k : Nat) (hk : k < n) (M : Nat) (mt : MeterS) (hm : mt.limited = false) (w : World) (h : BW w D B Q n k false) (hM : Blk w M 38 mt.cells) (hMD : M ≠ B ∧ M ≠ Q ∧ M ≠ D) :
    Calls Tryz.prog 27 #[.pointer (some ⟨D, 0, none⟩), .pointer (some ⟨M, 0, none⟩)] w fun e w' =>
      e = .returned (.bool true) ∧ BW w' D B Q n (k + 1) false ∧ Blk w' M 38 ((mt.add 0 1 0).add 0 0 1).cells ∧ Chg (fun b => b = M ∨ b = Q ∨ b = D) w w' := by
  have hn := h.hn
  have LF := Lib.hid (fun (w' : World) (h : BW w' D B Q n k false) => bleft_any D B Q n k false w' h)
  have WK := Lib.hid (fun (w' : World) => working_any (some ⟨M, 0, none⟩) w')
  have PR := Lib.hid (fun (w' : World) (h : TS w' B Q (rawT n k)) (hM : LW w' (some M) mt) => tprepare_ok B Q (rawT n k) hn.1 k hk _ _ (LensAt.m M) mt 0 1 0 w' h hM (fun b e => by cases e; exact ⟨(hM M rfl).lt, hMD.1, hMD.2.1⟩))
  have UN := Lib.hid (fun (w' : World) hm' => unit_free (mt.add 0 1 0) 1 (by decide) hm M 38 w' hm')
  have hnk : (((n - k : Nat) : Int) == 0) = false := by simp; omega
  have e1 : IntKind.i64.wrap ((k : Int) + 1) = ((k + 1 : Nat) : Int) := by rw [IntKind.wrap_i64]; omega
  obtain ⟨c0, c1, c2, hl, hf⟩ := bcells h
  simp only [Bool.false_eq_true, if_false] at c0
  have HB := Lib.hid h
  have HM := Lib.hid hM
  have hMl := hM.lt
  obtain ⟨hM1, hM2, hM3⟩ := hMD
  have hD1 := h.ne.1
  have hD2 := h.ne.2
  clear h hM hn hf
  go_enter Tryz.func27, Tryz.ntmps27
  go_wp2
  refine wp_region_seq (fun b => b = M ∨ b = Q) #[⟨0, 0, 32, 1, 0⟩, ⟨1, 1, 64, 32, 2⟩, ⟨2, 3, 128, 64, 0⟩, ⟨6, 7, 256, 128, 0⟩, ⟨8, 15, 512, 257, 0⟩, ⟨24, 31, 1024, 768, 0⟩, ⟨40, 63, 2048, 1280, 0⟩, ⟨72, 127, 4096, 2304, 1⟩, ⟨8, 15, 8192, 258, 0⟩, ⟨264, 271, 16384, 8448, 2⟩, ⟨8, 15, 32768, 257, 0⟩, ⟨1032, 1039, 65536, 33024, 0⟩, ⟨2056, 3087, 131072, 65792, 0⟩, ⟨4104, 7183, 262144, 131328, 1⟩, ⟨8840, 16383, 524288, 282880, 3⟩, ⟨16392, 32767, 1048576, 524544, 0⟩, ⟨32776, 65535, 2097152, 1048832, 0⟩] 8320 [(0, 0), (1, 2), (2, 0), (3, 0), (4, 0), (5, 0), (6, 0), (7, 1), (8, 0), (10, 0), (11, 0), (12, 0), (13, 1), (9, 2), (14, 3), (15, 0), (16, 0)] (by kernel_rfl) (by kernel_rfl) (by kernel_rfl) (by kernel_rfl) (by kernel_rfl) (by kernel_rfl) (fun c a d v w h => by cases d <;> exact h) ?_
  refine seq_calc (by simp only [List.getElem?_toArray, List.getElem?_cons_succ, List.getElem?_cons_zero]; rfl) (by rfl) (fun u => by go_simp <;> with_reducible rfl) ?_
  try simp only [Act.put, List.setIfInBounds_toArray, List.set_cons_zero, List.set_cons_succ]
  refine seq_do (by simp only [List.getElem?_toArray, List.getElem?_cons_succ, List.getElem?_cons_zero]; rfl) (by rfl) (fun K hK => ?_); go_wp2_with (first | (go_at_call 32; (with_reducible refine (LF.out _ HB.out.drew).mono ?_); rintro e w1 ⟨rfl, hb1⟩; have B1 := Lib.hid (HB.out.drew.later hb1); have M1 := Lib.hid (HM.out.drew.below hb1 HM.out.lt); obtain ⟨d0, d1, d2, dl, df⟩ := bcells B1.out; simp only [Bool.false_eq_true, if_false] at d0) | (go_at_call 71; (with_reducible refine (WK.out _).mono ?_); rintro e w2 ⟨rfl, hb2⟩; have B2 := Lib.hid (B1.out.later hb2); have M2 := Lib.hid (M1.out.below hb2 M1.out.lt); obtain ⟨d20, d21, d22, dl2, df2⟩ := bcells B2.out; simp only [Bool.false_eq_true, if_false] at d20) | (go_at_call 70; go_loud (have L2 : LW w2 (some M) mt := (fun M' e => by cases e; exact M2.out); (with_reducible refine (PR.out _ (B2.out.t rfl) L2).mono ?_); rintro e w3 ⟨rfl, ht3, hl3, hc3⟩; have M3 := Lib.hid (hl3 M rfl); have T3 := Lib.hid (rawT_step ht3); have D3 := Lib.hid (B2.out.b.chg hc3 (by rintro (e | e); exact hM3 (Option.some.inj e); exact hD2 e)); have C3 := Lib.hid hc3; clear ht3 hl3))); refine hK.out _ _ (by first | (with_reducible exact Chg.refl _ _) | (with_reducible assumption) | (refine Chg.of_below ?_; with_reducible assumption) | (with_reducible exact (Chg.refl _ _).alloc _) | (with_reducible exact (Chg.refl _ _).drewN _) | (with_reducible exact (Chg.refl _ _).drew) | exact ⟨rfl, rfl, rfl, Nat.le_refl _, fun _ _ _ => rfl⟩ | exact (Chg.refl _ _).setCell (.inl (.inl rfl)) _ | exact (Chg.refl _ _).setCell (.inl (.inr rfl)) _ | exact ((Chg.refl _ _).setCell (.inl (.inl rfl)) _).setCell (.inl (.inl rfl)) _ | exact ((Chg.refl _ _).setCell (.inl (.inr rfl)) _).setCell (.inl (.inr rfl)) _ | exact Chg.drew (Chg.setCell ⟨rfl, rfl, rfl, Nat.le_refl _, fun _ _ _ => rfl⟩ (.inl (.inl rfl)) _) | exact Chg.drew (Chg.setCell ⟨rfl, rfl, rfl, Nat.le_refl _, fun _ _ _ => rfl⟩ (.inl (.inr rfl)) _)) ?_; clear hK K
  try simp only [Act.put, List.setIfInBounds_toArray, List.set_cons_zero, List.set_cons_succ]
  refine seq_calc (by simp only [List.getElem?_toArray, List.getElem?_cons_succ, List.getElem?_cons_zero]; rfl) (by rfl) (fun u => by go_simp <;> with_reducible rfl) ?_
  try simp only [Act.put, List.setIfInBounds_toArray, List.set_cons_zero, List.set_cons_succ]
  refine seq_calc (by simp only [List.getElem?_toArray, List.getElem?_cons_succ, List.getElem?_cons_zero]; rfl) (by rfl) (fun u => by go_simp <;> with_reducible rfl) ?_
  try simp only [Act.put, List.setIfInBounds_toArray, List.set_cons_zero, List.set_cons_succ]
  first
    | (refine seq_skip (by simp only [List.getElem?_toArray, List.getElem?_cons_succ, List.getElem?_cons_zero]; rfl) (by rfl) ?_)
    | (refine seq_calc (by simp only [List.getElem?_toArray, List.getElem?_cons_succ, List.getElem?_cons_zero]; rfl) (by rfl) (fun u => by go_simp <;> with_reducible rfl) ?_)
  try simp only [Act.put, List.setIfInBounds_toArray, List.set_cons_zero, List.set_cons_succ]
  first
    | (refine seq_skip (by simp only [List.getElem?_toArray, List.getElem?_cons_succ, List.getElem?_cons_zero]; rfl) (by rfl) ?_)
    | (refine seq_calc (by simp only [List.getElem?_toArray, List.getElem?_cons_succ, List.getElem?_cons_zero]; rfl) (by rfl) (fun u => by go_simp <;> with_reducible rfl) ?_)
  try simp only [Act.put, List.setIfInBounds_toArray, List.set_cons_zero, List.set_cons_succ]
  first
    | (refine seq_skip (by simp only [List.getElem?_toArray, List.getElem?_cons_succ, List.getElem?_cons_zero]; rfl) (by rfl) ?_)
    | (refine seq_calc (by simp only [List.getElem?_toArray, List.getElem?_cons_succ, List.getElem?_cons_zero]; rfl) (by rfl) (fun u => by go_simp <;> with_reducible rfl) ?_)
  try simp only [Act.put, List.setIfInBounds_toArray, List.set_cons_zero, List.set_cons_succ]
  first
    | (refine seq_skip (by simp only [List.getElem?_toArray, List.getElem?_cons_succ, List.getElem?_cons_zero]; rfl) (by rfl) ?_)
    | (refine seq_load1 (by simp only [List.getElem?_toArray, List.getElem?_cons_succ, List.getElem?_cons_zero]; rfl) (by rfl) rfl rfl Tryz.underlying25 rfl (by go_simp <;> with_reducible rfl) (by first | exact id | assumption | (simp; done) | (simp; omega)) ?_)
  try simp only [Act.put, List.setIfInBounds_toArray, List.set_cons_zero, List.set_cons_succ]
  first
    | (refine seq_skip (by simp only [List.getElem?_toArray, List.getElem?_cons_succ, List.getElem?_cons_zero]; rfl) (by rfl) ?_)
    | (refine seq_calc (by simp only [List.getElem?_toArray, List.getElem?_cons_succ, List.getElem?_cons_zero]; rfl) (by rfl) (fun u => by go_simp <;> with_reducible rfl) ?_)
  try simp only [Act.put, List.setIfInBounds_toArray, List.set_cons_zero, List.set_cons_succ]
  first
    | (refine seq_skip (by simp only [List.getElem?_toArray, List.getElem?_cons_succ, List.getElem?_cons_zero]; rfl) (by rfl) ?_)
    | (refine seq_calc (by simp only [List.getElem?_toArray, List.getElem?_cons_succ, List.getElem?_cons_zero]; rfl) (by rfl) (fun u => by go_simp <;> with_reducible rfl) ?_)
  try simp only [Act.put, List.setIfInBounds_toArray, List.set_cons_zero, List.set_cons_succ]
  first
    | (refine seq_skip (by simp only [List.getElem?_toArray, List.getElem?_cons_succ, List.getElem?_cons_zero]; rfl) (by rfl) ?_)
    | (refine seq_calc (by simp only [List.getElem?_toArray, List.getElem?_cons_succ, List.getElem?_cons_zero]; rfl) (by rfl) (fun u => by go_simp <;> with_reducible rfl) ?_)
  try simp only [Act.put, List.setIfInBounds_toArray, List.set_cons_zero, List.set_cons_succ]
  first
    | (refine seq_skip (by simp only [List.getElem?_toArray, List.getElem?_cons_succ, List.getElem?_cons_zero]; rfl) (by rfl) ?_)
    | (refine seq_calc (by simp only [List.getElem?_toArray, List.getElem?_cons_succ, List.getElem?_cons_zero]; rfl) (by rfl) (fun u => by go_simp <;> with_reducible rfl) ?_)
  try simp only [Act.put, List.setIfInBounds_toArray, List.set_cons_zero, List.set_cons_succ]
  first
    | (refine seq_skip (by simp only [List.getElem?_toArray, List.getElem?_cons_succ, List.getElem?_cons_zero]; rfl) (by rfl) ?_)
    | (refine seq_load1 (by simp only [List.getElem?_toArray, List.getElem?_cons_succ, List.getElem?_cons_zero]; rfl) (by rfl) rfl rfl Tryz.underlying3 rfl (by go_simp <;> with_reducible rfl) (by first | exact id | assumption | (simp; done) | (simp; omega)) ?_)
  try simp only [Act.put, List.setIfInBounds_toArray, List.set_cons_zero, List.set_cons_succ]
  first
    | (refine seq_skip (by simp only [List.getElem?_toArray, List.getElem?_cons_succ, List.getElem?_cons_zero]; rfl) (by rfl) ?_)
    | (refine seq_do (by simp only [List.getElem?_toArray, List.getElem?_cons_succ, List.getElem?_cons_zero]; rfl) (by rfl) (fun K hK => ?_); go_wp2_with (first | (go_at_call 32; (with_reducible refine (LF.out _ HB.out.drew).mono ?_); rintro e w1 ⟨rfl, hb1⟩; have B1 := Lib.hid (HB.out.drew.later hb1); have M1 := Lib.hid (HM.out.drew.below hb1 HM.out.lt); obtain ⟨d0, d1, d2, dl, df⟩ := bcells B1.out; simp only [Bool.false_eq_true, if_false] at d0) | (go_at_call 71; (with_reducible refine (WK.out _).mono ?_); rintro e w2 ⟨rfl, hb2⟩; have B2 := Lib.hid (B1.out.later hb2); have M2 := Lib.hid (M1.out.below hb2 M1.out.lt); obtain ⟨d20, d21, d22, dl2, df2⟩ := bcells B2.out; simp only [Bool.false_eq_true, if_false] at d20) | (go_at_call 70; go_loud (have L2 : LW w2 (some M) mt := (fun M' e => by cases e; exact M2.out); (with_reducible refine (PR.out _ (B2.out.t rfl) L2).mono ?_); rintro e w3 ⟨rfl, ht3, hl3, hc3⟩; have M3 := Lib.hid (hl3 M rfl); have T3 := Lib.hid (rawT_step ht3); have D3 := Lib.hid (B2.out.b.chg hc3 (by rintro (e | e); exact hM3 (Option.some.inj e); exact hD2 e)); have C3 := Lib.hid hc3; clear ht3 hl3))); refine hK.out _ _ (by first | (with_reducible exact Chg.refl _ _) | (with_reducible assumption) | (refine Chg.of_below ?_; with_reducible assumption) | (with_reducible exact (Chg.refl _ _).alloc _) | (with_reducible exact (Chg.refl _ _).drewN _) | (with_reducible exact (Chg.refl _ _).drew) | exact ⟨rfl, rfl, rfl, Nat.le_refl _, fun _ _ _ => rfl⟩ | exact (Chg.refl _ _).setCell (.inl (.inl rfl)) _ | exact (Chg.refl _ _).setCell (.inl (.inr rfl)) _ | exact ((Chg.refl _ _).setCell (.inl (.inl rfl)) _).setCell (.inl (.inl rfl)) _ | exact ((Chg.refl _ _).setCell (.inl (.inr rfl)) _).setCell (.inl (.inr rfl)) _ | exact Chg.drew (Chg.setCell ⟨rfl, rfl, rfl, Nat.le_refl _, fun _ _ _ => rfl⟩ (.inl (.inl rfl)) _) | exact Chg.drew (Chg.setCell ⟨rfl, rfl, rfl, Nat.le_refl _, fun _ _ _ => rfl⟩ (.inl (.inr rfl)) _)) ?_; clear hK K)
  try simp only [Act.put, List.setIfInBounds_toArray, List.set_cons_zero, List.set_cons_succ]
  first
    | (refine seq_skip (by simp only [List.getElem?_toArray, List.getElem?_cons_succ, List.getElem?_cons_zero]; rfl) (by rfl) ?_)
    | (refine seq_last (by simp only [List.getElem?_toArray, List.getElem?_cons_succ, List.getElem?_cons_zero]; rfl) (by rfl) (fun K hK => ?_); go_wp2_with (first | (go_at_call 32; (with_reducible refine (LF.out _ HB.out.drew).mono ?_); rintro e w1 ⟨rfl, hb1⟩; have B1 := Lib.hid (HB.out.drew.later hb1); have M1 := Lib.hid (HM.out.drew.below hb1 HM.out.lt); obtain ⟨d0, d1, d2, dl, df⟩ := bcells B1.out; simp only [Bool.false_eq_true, if_false] at d0) | (go_at_call 71; (with_reducible refine (WK.out _).mono ?_); rintro e w2 ⟨rfl, hb2⟩; have B2 := Lib.hid (B1.out.later hb2); have M2 := Lib.hid (M1.out.below hb2 M1.out.lt); obtain ⟨d20, d21, d22, dl2, df2⟩ := bcells B2.out; simp only [Bool.false_eq_true, if_false] at d20) | (go_at_call 70; go_loud (have L2 : LW w2 (some M) mt := (fun M' e => by cases e; exact M2.out); (with_reducible refine (PR.out _ (B2.out.t rfl) L2).mono ?_); rintro e w3 ⟨rfl, ht3, hl3, hc3⟩; have M3 := Lib.hid (hl3 M rfl); have T3 := Lib.hid (rawT_step ht3); have D3 := Lib.hid (B2.out.b.chg hc3 (by rintro (e | e); exact hM3 (Option.some.inj e); exact hD2 e)); have C3 := Lib.hid hc3; clear ht3 hl3))); refine hK.out _ _ ?_; clear hK K)
  try simp only [Act.put, List.setIfInBounds_toArray, List.set_cons_zero, List.set_cons_succ]
  first
    | (refine seq_skip (by simp only [List.getElem?_toArray, List.getElem?_cons_succ, List.getElem?_cons_zero]; rfl) (by rfl) ?_)
    | (refine seq_calc (by simp only [List.getElem?_toArray, List.getElem?_cons_succ, List.getElem?_cons_zero]; rfl) (by rfl) (fun u => by go_simp <;> with_reducible rfl) ?_)
  try simp only [Act.put, List.setIfInBounds_toArray, List.set_cons_zero, List.set_cons_succ]
  refine seq_calc (by simp only [List.getElem?_toArray, List.getElem?_cons_succ, List.getElem?_cons_zero]; rfl) (by rfl) (fun u => by go_simp <;> with_reducible rfl) ?_
  try simp only [Act.put, List.setIfInBounds_toArray, List.set_cons_zero, List.set_cons_succ]
  refine seq_nil ?_
  go_wp2_with (go_at_call 72; (with_reducible refine (UN.out _ M3.out).mono ?_); rintro e w4 ⟨rfl, hm4, hc4⟩; have M4 := Lib.hid hm4; have D4 := Lib.hid (D3.out.chg hc4 (fun e => hM3 e.symm)); have T4 := Lib.hid (T3.out.chg hc4 (fun e => hM1 e.symm) (fun e => hM2 e.symm)); have g2 := D4.out.cell 2; have gf := fun j => D4.out.frozen j; have gl := D4.out.lt; have C4 := Lib.hid hc4; clear hm4)
  go_ret
  have hC : Chg (fun b => b = D) w4 (w4.setCell ⟨D, 2, none⟩ (.int .i64 ((k + 1 : Nat) : Int))) := (Chg.refl _ _).set1 _ _
  refine ⟨rfl, ⟨D4.out.set 2 _, fun _ => T4.out.chg hC (fun e => hD1 e.symm) (fun e => hD2 e.symm), hk, HB.out.hr, hD1, hD2⟩, M4.out.chg hC hM3, ?_⟩
  refine Chg.trans (Chg.trans (Chg.trans (Chg.of_below (show Below w.heap.size w w2 from (Below.undrew hb1).trans (hb2.mono hb1.size))) (C3.out.mono (fun b _ e => ?_))) (C4.out.mono (fun b _ e => .inl e))) (hC.mono (fun b _ e => .inr (.inr e)))
  rcases e with e | e
  · exact .inl (Option.some.inj e).symm
  · exact .inr (.inl e)
set_option maxRecDepth 100000 in
set_option maxHeartbeats 2000000 in
theorem btake_no (D B Q n k : Nat) (tk : Bool) (hk : k < n ∨ tk = true) (E : Nat → Addr) (w : World) (h : BW w D B Q n k tk) (he : EC w E [5]) :
    Calls Tryz.prog 29 #[.pointer (some ⟨D, 0, none⟩)] w fun e w' => e = .returned (.tuple #[.pointer none, errAt E 5]) ∧ Below w.heap.size w w' := by
  have LF := Lib.hid (fun (w' : World) (h : BW w' D B Q n k tk) => bleft_any D B Q n k tk w' h)
  have e1 : w.cell? ⟨0, 0, none⟩ = some (errAt E 5) := he 5 (by decide)
  have l1 := World.block_lt_of_cell? _ _ e1
  have HB := Lib.hid h
  unfold errAt at *
  clear he
  obtain ⟨r, hr⟩ : ∃ r, r = n - k := ⟨_, rfl⟩
  rw [← hr] at LF
  by_cases h0 : k < n
  · have hd : decide ((r : Int) > 0) = true := by simp; omega
    have hd2 : 0 < r := by omega
    have hd3 : (0 : Int) < (r : Int) := by omega
    clear h h0 hk hr
    go_enter Tryz.func29, Tryz.ntmps29
    go_wp2_with (go_at_call 32; (with_reducible refine (LF.out _ HB.out).mono ?_); rintro e w1 ⟨rfl, hb1⟩; have e11 := (hb1.cell (p := ⟨0, 0, none⟩) l1).trans e1; have l11 := World.block_lt_of_cell? _ _ e11)
    refine wp_region_noPanic ?_
    refine wp_region_seq (fun _ => False) #[⟨0, 0, 32768, 0, 1⟩, ⟨0, 0, 4, 0, 0⟩, ⟨3, 3, 8, 32768, 0⟩] 1 [(0, 1), (1, 0), (2, 0)] (by kernel_rfl) (by kernel_rfl) (by kernel_rfl) (by kernel_rfl) (by kernel_rfl) (by kernel_rfl) (fun c a d v w h => by cases d <;> exact h) ?_
    refine seq_load1 (by simp only [List.getElem?_toArray, List.getElem?_cons_succ, List.getElem?_cons_zero]; rfl) (by rfl) rfl rfl Tryz.underlying27 rfl (by go_simp <;> with_reducible rfl) (by first | exact id | assumption | (simp; done) | (simp; omega)) ?_
    try simp only [Act.put, List.setIfInBounds_toArray, List.set_cons_zero, List.set_cons_succ]
    refine seq_calc (by simp only [List.getElem?_toArray, List.getElem?_cons_succ, List.getElem?_cons_zero]; rfl) (by rfl) (fun u => by go_simp <;> with_reducible rfl) ?_
    try simp only [Act.put, List.setIfInBounds_toArray, List.set_cons_zero, List.set_cons_succ]
    refine seq_calc (by simp only [List.getElem?_toArray, List.getElem?_cons_succ, List.getElem?_cons_zero]; rfl) (by rfl) (fun u => by go_simp <;> with_reducible rfl) ?_
    try simp only [Act.put, List.setIfInBounds_toArray, List.set_cons_zero, List.set_cons_succ]
    refine seq_nil ?_
    refine NoPanic.normal ?_
    go_wp2
    go_ret2
    exact ⟨rfl, hb1.drew⟩
  · obtain rfl : tk = true := by rcases hk with hk | hk; exact absurd hk h0; exact hk
    obtain rfl : r = 0 := by have := h.hk; omega
    clear h h0 hk hr
    go_enter Tryz.func29, Tryz.ntmps29
    go_wp2_with (go_at_call 32; (with_reducible refine (LF.out _ HB.out).mono ?_); rintro e w1 ⟨rfl, hb1⟩; have B1 := Lib.hid (HB.out.later hb1); obtain ⟨d0, d1, d2, dl, df⟩ := bcells B1.out; simp only [if_true] at d0; have e11 := (hb1.cell (p := ⟨0, 0, none⟩) l1).trans e1; have l11 := World.block_lt_of_cell? _ _ e11)
    refine wp_region_noPanic ?_
    refine wp_region_seq (fun _ => False) #[⟨0, 0, 32768, 0, 1⟩, ⟨0, 0, 4, 0, 0⟩, ⟨3, 3, 8, 32768, 0⟩] 1 [(0, 1), (1, 0), (2, 0)] (by kernel_rfl) (by kernel_rfl) (by kernel_rfl) (by kernel_rfl) (by kernel_rfl) (by kernel_rfl) (fun c a d v w h => by cases d <;> exact h) ?_
    refine seq_load1 (by simp only [List.getElem?_toArray, List.getElem?_cons_succ, List.getElem?_cons_zero]; rfl) (by rfl) rfl rfl Tryz.underlying27 rfl (by go_simp <;> with_reducible rfl) (by first | exact id | assumption | (simp; done) | (simp; omega)) ?_
    try simp only [Act.put, List.setIfInBounds_toArray, List.set_cons_zero, List.set_cons_succ]
    refine seq_calc (by simp only [List.getElem?_toArray, List.getElem?_cons_succ, List.getElem?_cons_zero]; rfl) (by rfl) (fun u => by go_simp <;> with_reducible rfl) ?_
    try simp only [Act.put, List.setIfInBounds_toArray, List.set_cons_zero, List.set_cons_succ]
    refine seq_calc (by simp only [List.getElem?_toArray, List.getElem?_cons_succ, List.getElem?_cons_zero]; rfl) (by rfl) (fun u => by go_simp <;> with_reducible rfl) ?_
    try simp only [Act.put, List.setIfInBounds_toArray, List.set_cons_zero, List.set_cons_succ]
    refine seq_nil ?_
    refine NoPanic.normal ?_
    go_wp2
    go_ret2
    exact ⟨rfl, hb1.drew⟩
set_option maxRecDepth 100000 in
set_option maxHeartbeats 2000000 in
theorem btake_ok (D B Q n : Nat) (w : World) (h : BW w D B Q n n false) :
    Calls Tryz.prog 29 #[.pointer (some ⟨D, 0, none⟩)] w fun e w' => e = .returned (.tuple #[.pointer (some ⟨B, 0, none⟩), .nilIface]) ∧ BW w' D B Q n n true ∧ TS w' B Q (TabS.new n) ∧ Chg (fun b => b = D) w w' := by
  have LF := Lib.hid (fun (w' : World) (h : BW w' D B Q n n false) => bleft_any D B Q n n false w' h)
  simp only [Nat.sub_self] at LF
  have HB := Lib.hid h
  clear h
  go_enter Tryz.func29, Tryz.ntmps29
  go_wp2_with (go_at_call 32; (with_reducible refine (LF.out _ HB.out).mono ?_); rintro e w1 ⟨rfl, hb1⟩; have B1 := Lib.hid (HB.out.later hb1); obtain ⟨d0, d1, d2, dl, df⟩ := bcells B1.out; simp only [Bool.false_eq_true, if_false] at d0)
  go_ret2
  have hC : Chg (fun b => b = D) w1 (w1.setCell ⟨D, 0, none⟩ (.pointer none)) := (Chg.refl _ _).set1 _ _
  have hT : TS (w1.setCell ⟨D, 0, none⟩ (.pointer none)) B Q (TabS.new n) := (rawT_full (B1.out.t rfl)).chg hC (fun e => HB.out.ne.1 e.symm) (fun e => HB.out.ne.2 e.symm)
  exact ⟨rfl, ⟨B1.out.b.set 0 _, (fun e => by cases e), HB.out.hk, HB.out.hr, HB.out.ne⟩, hT, (Chg.of_below hb1).trans hC⟩
end Go.Proofs.YtcolhncbpbcklaaGreatDoor

namespace Go.Proofs.YtcolhncbpbcklaaGreatDoor
set_option linter.unusedVariables false
set_option linter.unusedSimpArgs false
open Go.RowKit Go.Proofs
attribute [local go_sem] neq_nilG eql_nilG

structure BM (w : World) (D B Q M n k : Nat) (tk : Bool) (mt : MeterS) (E : Nat → Addr) (w0 : World) : Prop where
  b : BW w D B Q n k tk
  m : Blk w M 38 mt.cells
  low : Low w E w0.heap.size [1, 2, 4, 5, 14, 16]
  bel : Below w0.heap.size w0 w
  ho : w0.heap.size ≤ D ∧ w0.heap.size ≤ B ∧ w0.heap.size ≤ Q ∧ w0.heap.size ≤ M
  hm : M ≠ B ∧ M ≠ Q ∧ M ≠ D
section
variable {w w' w0 : World} {D B Q M n k : Nat} {tk : Bool} {mt : MeterS} {E : Nat → Addr}
theorem BM.later (h : BM w D B Q M n k tk mt E w0) (hb : Below w.heap.size w w') : BM w' D B Q M n k tk mt E w0 :=
  ⟨h.b.later hb, h.m.below hb h.m.lt, h.low.below hb, h.bel.trans (hb.mono h.bel.size), h.ho, h.hm⟩
theorem BM.drew (h : BM w D B Q M n k tk mt E w0) : BM w.drew D B Q M n k tk mt E w0 := h.later (Below.refl _ _).drew
theorem BM.step (h : BM w D B Q M n k false mt E w0) (hk : k < n) (hl : mt.limited = false) :
    Calls Tryz.prog 27 #[.pointer (some ⟨D, 0, none⟩), .pointer (some ⟨M, 0, none⟩)] w fun e w' =>
      e = .returned (.bool true) ∧ BM w' D B Q M n (k + 1) false ((mt.add 0 1 0).add 0 0 1) E w0 ∧ Chg (fun b => b = M ∨ b = Q ∨ b = D) w w' := by
  refine (bstep_ok D B Q n k hk M mt hl w h.b h.m h.hm).mono ?_
  rintro e w' ⟨rfl, h1, h2, h3⟩
  have ho := h.ho
  exact ⟨rfl, ⟨h1, h2, h.low.chg h3 (by rintro b (rfl | rfl | rfl) <;> omega), h.bel.trans (h3.below (n := w0.heap.size) h.bel.size (fun k hk e => by rcases e with e | e | e <;> omega)), h.ho, h.hm⟩, h3⟩
theorem BM.stepNo (h : BM w D B Q M n n tk mt E w0) :
    Calls Tryz.prog 27 #[.pointer (some ⟨D, 0, none⟩), .pointer (some ⟨M, 0, none⟩)] w fun e w' =>
      e = .returned (.bool false) ∧ BM w' D B Q M n n tk mt E w0 ∧ Below w.heap.size w w' := by
  refine (bstep_no D B Q n tk _ w h.b).mono ?_
  rintro e w' ⟨rfl, h1⟩
  exact ⟨rfl, h.later h1, h1⟩
theorem BM.take (h : BM w D B Q M n n false mt E w0) :
    Calls Tryz.prog 29 #[.pointer (some ⟨D, 0, none⟩)] w fun e w' =>
      e = .returned (.tuple #[.pointer (some ⟨B, 0, none⟩), .nilIface]) ∧ BM w' D B Q M n n true mt E w0 ∧ TN w' B Q (TabS.new n) E w0 ∧ Chg (fun b => b = D) w w' := by
  refine (btake_ok D B Q n w h.b).mono ?_
  rintro e w' ⟨rfl, h1, h2, h3⟩
  have ho := h.ho
  have hlow := h.low.chg h3 (by rintro b rfl; omega)
  have hbel := h.bel.trans (h3.below (n := w0.heap.size) h.bel.size (fun k hk e => by omega))
  exact ⟨rfl, ⟨h1, h.m.chg h3 h.hm.2.2, hlow, hbel, h.ho, h.hm⟩, ⟨h2, TGood.new h.b.hr, (fun M e => by cases e), hlow, hbel, ho.2.1, ho.2.2.1, LensOk.none _ _ _⟩, h3⟩
theorem BM.takeNo (h : BM w D B Q M n k tk mt E w0) (hk : k < n ∨ tk = true) :
    Calls Tryz.prog 29 #[.pointer (some ⟨D, 0, none⟩)] w fun e w' =>
      e = .returned (.tuple #[.pointer none, errAt E 5]) ∧ BM w' D B Q M n k tk mt E w0 ∧ Below w.heap.size w w' := by
  refine (btake_no D B Q n k tk hk E w h.b (h.low.e.sub (by decide))).mono ?_
  rintro e w' ⟨rfl, h1⟩
  exact ⟨rfl, h.later h1, h1⟩
/-- a build that New has made, and a meter behind it -/
theorem BM.new {wb : World} (h : BW w D B Q n 0 false) (hM : Blk w M 38 mt.cells) (hE : EC w0 E [1, 2, 4, 5, 14, 16]) (hT : Tab64 w0) (hb : Below w0.heap.size w0 w) (ho : w0.heap.size ≤ D ∧ w0.heap.size ≤ B ∧ w0.heap.size ≤ Q ∧ w0.heap.size ≤ M) (hm : M ≠ B ∧ M ≠ Q ∧ M ≠ D) : BM w D B Q M n 0 false mt E w0 :=
  ⟨h, hM, ⟨hE.below hb, hT.below hb, fun k hk => World.block_lt_of_cell? _ _ (hE k hk), World.block_lt_of_cell? _ _ (hT 0 (by decide))⟩, hb, ho, hm⟩
end
end Go.Proofs.YtcolhncbpbcklaaGreatDoor

namespace Go.Proofs.YtcolhncbpbcklaaGreatDoor
set_option linter.unusedVariables false
set_option linter.unusedSimpArgs false
open Go.RowKit Go.Proofs
attribute [local go_sem] neq_nilG eql_nilG

/-- the meter behind k groups that a build has made ready -/
def mtB : Nat → MeterS
  | 0 => MeterS.zero
  | k + 1 => ((mtB k).add 0 1 0).add 0 0 1
theorem mtB_limited : ∀ k, (mtB k).limited = false
  | 0 => rfl
  | k + 1 => mtB_limited k
theorem mtB_is : ∀ k, k ≤ 1000 → (mtB k).a0 = 0 ∧ (mtB k).a1 = k ∧ (mtB k).a2 = k
  | 0, _ => ⟨rfl, rfl, rfl⟩
  | k + 1, h => by
    obtain ⟨h0, h1, h2⟩ := mtB_is k (by omega)
    refine ⟨?_, ?_, ?_⟩
    · show sumZ (sumZ (mtB k).a0 0) 0 = 0
      rw [h0]; decide
    · show sumZ (sumZ (mtB k).a1 1) 0 = _
      have e1 : sumZ (k : Int) 1 = ((k + 1 : Nat) : Int) := by rw [sumZ_add (by omega) (by decide) (by omega)]; omega
      rw [h1, e1, sumZ_add (by omega) (by decide) (by omega)]; omega
    · show sumZ (sumZ (mtB k).a2 0) 1 = _
      have e1 : sumZ (k : Int) 0 = (k : Int) := by rw [sumZ_add (by omega) (by decide) (by omega)]; omega
      rw [h2, e1, sumZ_add (by omega) (by decide) (by omega)]; omega
set_option maxRecDepth 100000 in
set_option maxHeartbeats 4000000 in
theorem alive11_any (E : Nat → Addr) (w : World) (he : EC w E [1, 2, 4, 5, 14, 16]) (hT : Tab64 w) :
    Calls Tryz.prog 24 #[] w fun e w' => e = .returned (.bool true) ∧ Below w.heap.size w w' := by
  have HE := Lib.hid he
  have HT := Lib.hid hT
  have NW := Lib.hid (fun (w' : World) => bnew_ok 2 (by decide) w')
  clear he hT
  go_enter Tryz.func24, Tryz.ntmps24
  have A0 := mtB_is 2 (by decide)
  have L0 := mtB_limited 0
  have L1 := mtB_limited 1
  have G2 := Lib.hid (fun (D B Q : Nat) (w' : World) (tk : Bool) (h : BW w' D B Q 2 2 tk) => h.b)
  have AM := Lib.hid (fun (M : Nat) (w' : World) (h : Blk w' M 38 (mtB 2).cells) => meterAll_any (mtB 2) M 38 w' h)
  rw [A0.1, A0.2.1, A0.2.2] at AM
  have ST0 := Lib.hid (fun (D B Q M : Nat) (w' : World) (h : BM w' D B Q M 2 0 false (mtB 0) E w) => h.step (by decide) L0)
  have ST1 := Lib.hid (fun (D B Q M : Nat) (w' : World) (h : BM w' D B Q M 2 1 false (mtB 1) E w) => h.step (by decide) L1)
  have GR := Lib.hid (fun (B Q : Nat) (w' : World) (h : TN w' B Q (TabS.new 2) E w) => TMW.groups h)
  clear A0 L0 L1 G2
  go_wp2_with (first
    | (go_at_call 25; refine (NW.out _).mono ?_; rintro e w1 ⟨D, B, Q, rfl, hD, hB, hQ, hb, hb1⟩; have hz1 := hb1.size; have hlD := hb.b.lt; have hlB := (hb.t rfl).head.lt; have hlQ := (hb.t rfl).lt; have S1 := Lib.hid (BM.new (wb := w) (mt := mtB 0) (hb.alloc (.cells (mtB 0).cells 38)) (Blk.new _ _ _) HE.out HT.out (hb1.alloc hz1 _) (by omega) (by omega)); simp only [MeterS.cells, mtB, MeterS.zero] at S1; clear hb)
    | (go_at_call 27; (with_reducible refine (ST0.out _ _ _ _ _ S1.out).mono ?_); rintro e w2 ⟨rfl, hs2, -⟩; have S2 := Lib.hid (show BM w2 D B Q _ 2 1 false (mtB 1) E w from hs2); clear hs2)
    | (go_at_call 27; (with_reducible refine (ST1.out _ _ _ _ _ S2.out).mono ?_); rintro e w3 ⟨rfl, hs3, -⟩; have S3 := Lib.hid (show BM w3 D B Q _ 2 2 false (mtB 2) E w from hs3); clear hs3)
    | (go_at_call 29; (with_reducible refine (S3.out.take).mono ?_); rintro e w4 ⟨rfl, hs4, ht4, -⟩; have S4 := Lib.hid hs4; have T4 := Lib.hid ht4; clear hs4 ht4)
    | (go_at_call 19; (with_reducible refine (GR.out _ _ _ T4.out).mono ?_); rintro e w' ⟨rfl, rfl⟩)
    | (go_at_call 20; (with_reducible refine (AM.out _ _ S4.out.m).mono ?_); rintro e w5 ⟨rfl, hb5⟩))
  go_ret
  exact ⟨rfl, S4.out.bel.trans (hb5.mono S4.out.bel.size)⟩
/-- a key's hash as chapter 11 makes it -/
def mixH (k : Nat) : Nat := k * 11400714819323198485 % 18446744073709551616
theorem mixH_lt (k : Nat) : mixH k < 18446744073709551616 := Nat.mod_lt _ (by decide)
end Go.Proofs.YtcolhncbpbcklaaGreatDoor
