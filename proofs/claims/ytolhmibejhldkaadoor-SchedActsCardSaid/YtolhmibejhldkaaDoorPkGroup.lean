/- Texts joined: Group ProbePlain GroupPut GroupErase GroupFree RangeM SeqIn GroupFind GroupPlain Ref08 Ent Ref08b GroupAny GroupAlive GroupMore. No condition but those that stand within. -/
import Derived.WalkKit
import Derived.Deep.DeepCutAuto
import Derived.OrdersIn
import Derived.Test.YtolhmibejhldkaaDoorPkSwar
import Derived.Test.YtolhmibejhldkaaDoorPkMeter
import Derived.Test.YtolhmibejhldkaaDoorPkErrs
set_option linter.unusedVariables false
set_option linter.unusedSimpArgs false
namespace Go.Proofs.YtolhmibejhldkaaDoor
open Go.RowKit Go.Proofs
def arrV (n : Nat) (F : Nat → Value) : Array Value := ((List.range n).map F).toArray
theorem arrV_get (n : Nat) (F : Nat → Value) (j : Nat) (hj : j < n) : (arrV n F)[j]? = some (F j) := by simp [arrV, hj]
structure EntS where
  key : Int
  val : Int
  hash : Int
def EntS.zero : EntS := ⟨0, 0, 0⟩
def gF (m : Nat) (s : Nat → EntS) (j : Nat) : Value :=
  if j = 0 then .int .u64 (m : Int) else if (j - 1) % 3 = 0 then .int .u64 (s ((j - 1) / 3)).key else if (j - 1) % 3 = 1 then .int .u64 (s ((j - 1) / 3)).val else .int .u64 (s ((j - 1) / 3)).hash
def putS (s : Nat → EntS) (i : Nat) (e : EntS) : Nat → EntS := fun q => if q = i then e else s q
def GW (w : World) (G o m : Nat) (s : Nat → EntS) : Prop := ∃ T A, Blk w G T A ∧ ∀ j, j < 25 → A[o + j]? = some (gF m s j)
theorem GW.lt {w : World} {G o m : Nat} {s : Nat → EntS} (h : GW w G o m s) : G < w.heap.size := by obtain ⟨T, A, h, -⟩ := h; exact h.lt
theorem GW.below {n : Nat} {w w' : World} {G o m : Nat} {s : Nat → EntS} (h : GW w G o m s) (hb : Below n w w') (hG : G < n) : GW w' G o m s := by obtain ⟨T, A, h, k⟩ := h; exact ⟨T, A, h.below hb hG, k⟩
theorem GW.chg {X : Nat → Prop} {w w' : World} {G o m : Nat} {s : Nat → EntS} (h : GW w G o m s) (hb : Chg X w w') (hG : ¬ X G) : GW w' G o m s := by obtain ⟨T, A, h, k⟩ := h; exact ⟨T, A, h.chg hb hG, k⟩
theorem GW.alloc {w : World} {G o m : Nat} {s : Nat → EntS} (h : GW w G o m s) (b : Obj) : GW (w.alloc b) G o m s := by obtain ⟨T, A, h, k⟩ := h; exact ⟨T, A, h.alloc b, k⟩
theorem GW.drew {w : World} {G o m : Nat} {s : Nat → EntS} (h : GW w G o m s) : GW w.drew G o m s := h
theorem GW.cellJ {w : World} {G o m : Nat} {s : Nat → EntS} (h : GW w G o m s) (j : Nat) (hj : j < 25) : w.cell? ⟨G, o + j, none⟩ = some (gF m s j) := by obtain ⟨T, A, h, k⟩ := h; exact (h.cell _).trans (k j hj)
theorem GW.frozen {w : World} {G o m : Nat} {s : Nat → EntS} (h : GW w G o m s) (j : Nat) : w.frozen? ⟨G, j, none⟩ = false := by obtain ⟨T, A, h, k⟩ := h; exact h.frozen j
structure ChgG (G o : Nat) (w w' : World) : Prop where
  chg : Chg (fun b => b = G) w w'
  rest : ∀ T A, Blk w G T A → ∃ A', Blk w' G T A' ∧ A'.size = A.size ∧ ∀ j, (j < o ∨ o + 25 ≤ j) → A'[j]? = A[j]?
theorem ChgG.of_below {G o : Nat} {w w' : World} (h : Below w.heap.size w w') : ChgG G o w w' := ⟨Chg.of_below h, fun T A hA => ⟨A, hA.below h hA.lt, rfl, fun _ _ => rfl⟩⟩
theorem ChgG.trans {G o : Nat} {a b c : World} (h : ChgG G o a b) (k : ChgG G o b c) : ChgG G o a c :=
  ⟨h.chg.trans k.chg, fun T A hA => by
    obtain ⟨A1, h1, s1, r1⟩ := h.rest T A hA
    obtain ⟨A2, h2, s2, r2⟩ := k.rest T A1 h1
    exact ⟨A2, h2, s2.trans s1, fun j hj => (r2 j hj).trans (r1 j hj)⟩⟩
theorem ChgG.drew {G o : Nat} {a w : World} (h : ChgG G o a w) : ChgG G o a w.drew := ⟨h.chg.drew, h.rest⟩
theorem ChgG.undrew {G o : Nat} {w w' : World} (h : ChgG G o w.drew w') : ChgG G o w w' := ⟨h.chg.undrew, h.rest⟩
theorem ChgG.alloc {G o : Nat} {a w : World} (h : ChgG G o a w) (b : Obj) : ChgG G o a (w.alloc b) := ⟨h.chg.alloc b, fun T A hA => by obtain ⟨A1, h1, k⟩ := h.rest T A hA; exact ⟨A1, h1.alloc b, k⟩⟩
theorem ChgG.thenBelow {G o : Nat} {a b c : World} (h : ChgG G o a b) (k : Below b.heap.size b c) : ChgG G o a c := h.trans (ChgG.of_below k)
theorem ChgG.set1 {G o : Nat} {a w : World} (h : ChgG G o a w) (off : Nat) (u : Value) (hoff : o ≤ off ∧ off < o + 25) : ChgG G o a (w.setCell ⟨G, off, none⟩ u) :=
  ⟨h.chg.set1 off u, fun T A hA => by
    obtain ⟨A1, h1, s1, r1⟩ := h.rest T A hA
    exact ⟨_, h1.set off u, by rw [Array.size_setIfInBounds, s1], fun j hj => by rw [Array.getElem?_setIfInBounds, if_neg (by omega), r1 j hj]⟩⟩
theorem GW.chgG {w w' : World} {G o o' m : Nat} {s : Nat → EntS} (h : GW w G o' m s) (c : ChgG G o w w') (hd : o' + 25 ≤ o ∨ o + 25 ≤ o') : GW w' G o' m s := by
  obtain ⟨T, A, h, k⟩ := h
  obtain ⟨A1, h1, s1, r1⟩ := c.rest T A h
  exact ⟨T, A1, h1, fun j hj => by rw [r1 _ (by omega), k j hj]⟩
def viewV (G o : Nat) : Value := .agg #[.pointer (some ⟨G, o, none⟩)]
theorem gnew_cells (m : Nat) : arrV 25 (gF m (fun _ => EntS.zero)) = #[.int .u64 (m : Int), .int .u64 0, .int .u64 0, .int .u64 0, .int .u64 0, .int .u64 0, .int .u64 0, .int .u64 0, .int .u64 0, .int .u64 0, .int .u64 0, .int .u64 0, .int .u64 0, .int .u64 0, .int .u64 0, .int .u64 0, .int .u64 0, .int .u64 0, .int .u64 0, .int .u64 0, .int .u64 0, .int .u64 0, .int .u64 0, .int .u64 0, .int .u64 0] := rfl
theorem gnew_whole {w : World} {B : Nat} (h : GW w B 0 (rep 128) (fun _ => EntS.zero)) : w.rangeAt B 0 [.int .u64 ((rep 128 : Nat) : Int), .int .u64 0, .int .u64 0, .int .u64 0, .int .u64 0, .int .u64 0, .int .u64 0, .int .u64 0, .int .u64 0, .int .u64 0, .int .u64 0, .int .u64 0, .int .u64 0, .int .u64 0, .int .u64 0, .int .u64 0, .int .u64 0, .int .u64 0, .int .u64 0, .int .u64 0, .int .u64 0, .int .u64 0, .int .u64 0, .int .u64 0, .int .u64 0] := by
  intro j v hj
  have hlt : j < 25 := (List.getElem?_eq_some_iff.1 hj).1
  have := h.cellJ j hlt
  rw [Nat.zero_add] at this ⊢
  rw [this]
  have e := arrV_get 25 (gF (rep 128) (fun _ => EntS.zero)) j hlt
  rw [gnew_cells, List.getElem?_toArray] at e
  exact e.symm.trans hj
set_option maxRecDepth 100000 in
set_option maxHeartbeats 1000000 in
theorem gnew_any (w : World) : Calls Tryd.prog 82 #[] w fun e w' => e = .returned (.pointer (some ⟨w.heap.size, 0, none⟩)) ∧ GW w' w.heap.size 0 (rep 128) (fun _ => EntS.zero) ∧ Below w.heap.size w w' := by
  go_enter Tryd.func82, Tryd.ntmps82
  go_wp2_with (go_at_call 85; refine (cnew_any _).mono ?_; rintro e w' ⟨rfl, rfl⟩)
  go_ret
  exact ⟨rfl, ⟨_, _, Blk.new _ _ _, fun j hj => by rw [← gnew_cells, Nat.zero_add]; exact arrV_get _ _ _ hj⟩, by go_grown⟩
def openB (m : Nat) : Bool := (List.range 8).any (equalB m 128)
def fullE (m : Nat) (i : Int) (must : Bool) : Nat := if i < 0 ∨ 8 ≤ i then 1 else if decide (ln m i.toNat < 128) = must then 0 else 5
theorem errN_nz (E : Nat → Addr) (n : Nat) (h : n ≠ 0) : errN E n = errAt E n := if_neg h
theorem errN_0 (E : Nat → Addr) : errN E 0 = .nilIface := if_pos rfl
theorem fullE_in (m k : Nat) (must : Bool) (hk : k < 8) : fullE m (k : Int) must = if decide (ln m k < 128) = must then 0 else 5 := by
  unfold fullE; rw [if_neg (by omega), Int.toNat_natCast]
theorem neq_nilG (w : World) : (binOp .neq 25 .nilIface .nilIface).run Tryd.prog w = .ok (.bool false) w := run_neq_nil_nil _ _ (by kernel_rfl)
attribute [local go_sem] neq_nilG
end Go.Proofs.YtolhmibejhldkaaDoor

namespace Go.Proofs.YtolhmibejhldkaaDoor
open Go.RowKit
def rightB (n : Int) : Bool := n == 1 || n == 2 || n == 4 || n == 8 || n == 16 || n == 32 || n == 64
theorem rightB_iff (n : Int) : rightB n = true ↔ n = 1 ∨ n = 2 ∨ n = 4 ∨ n = 8 ∨ n = 16 ∨ n = 32 ∨ n = 64 := by
  simp [rightB, Bool.or_eq_true, or_assoc]
theorem rightB_bits (n : Int) (h1 : 1 ≤ n) (h2 : n ≤ 64) : (bits .and .i64 n (n - 1) == 0) = rightB n := by
  obtain ⟨k, rfl⟩ := Int.eq_ofNat_of_zero_le (show 0 ≤ n by omega)
  have hk : k ≤ 64 := by omega
  have h0 : 1 ≤ k := by omega
  clear h1 h2
  have : ∀ k : Fin 65, 1 ≤ k.val → (bits .and .i64 ((k.val : Nat) : Int) (((k.val : Nat) : Int) - 1) == 0) = rightB ((k.val : Nat) : Int) := by decide +kernel
  exact this ⟨k, by omega⟩ h0
def walkAt (h g i : Nat) : Nat := (h + i * (i + 1) / 2) % g
theorem walkAt_lt (h g i : Nat) (hg : 0 < g) : walkAt h g i < g := Nat.mod_lt _ hg
theorem right_bd {g : Nat} (h : rightB (g : Int) = true) : 1 ≤ g ∧ g ≤ 64 := by
  rw [rightB_iff] at h; omega
end Go.Proofs.YtolhmibejhldkaaDoor

namespace Go.Proofs.YtolhmibejhldkaaDoor
open Go.RowKit Go.Proofs
attribute [local go_sem] neq_nilG
theorem ctrlB_low (q : Nat) (h : q < 128) : ctrlB q = true := by unfold ctrlB; simp; omega
end Go.Proofs.YtolhmibejhldkaaDoor

namespace Go.Proofs.YtolhmibejhldkaaDoor
open Go.RowKit Go.Proofs
attribute [local go_sem] neq_nilG
set_option maxRecDepth 100000 in
set_option maxHeartbeats 2000000 in
theorem glook_none (G o : Nat) (x y z : Int) (w : World) :
    Calls Tryd.prog 81 #[.pointer (some ⟨G, o, none⟩), .agg #[.pointer none, .int .i64 x, .int .i64 y, .int .i64 z]] w fun e w' => e = .returned (viewV G o) ∧ Below w.heap.size w w' := by
  unfold viewV
  go_enter Tryd.func81, Tryd.ntmps81
  go_wp2_with (go_at_call 84; refine (visit_none _ _ _ _).mono ?_; rintro e w1 ⟨rfl, hb1⟩; have hB1 : Below w.heap.size w w1 := (by first | exact hB1.trans (hb1.mono hB1.size) | exact hB1.trans (Below.undrew (hb1.mono hB1.size)) | exact hb1 | exact Below.trans (by go_grown) (hb1.mono (by simp <;> omega))); have hcwheapsize := fun (o : Nat) => hb1.cell (p := ⟨w.heap.size, o, none⟩) (by first | assumption | (simp <;> omega)); have hfwheapsize := fun (o : Nat) => hb1.frozen (p := ⟨w.heap.size, o, none⟩) (by first | assumption | (simp <;> omega)); have hzwheapsize : w.heap.size < w1.heap.size := Nat.lt_of_lt_of_le (by first | assumption | (simp <;> omega)) hb1.size; have hcwheapsize__1 := fun (o : Nat) => hb1.cell (p := ⟨w.heap.size + 1, o, none⟩) (by first | assumption | (simp <;> omega)); have hfwheapsize__1 := fun (o : Nat) => hb1.frozen (p := ⟨w.heap.size + 1, o, none⟩) (by first | assumption | (simp <;> omega)); have hzwheapsize__1 : w.heap.size + 1 < w1.heap.size := Nat.lt_of_lt_of_le (by first | assumption | (simp <;> omega)) hb1.size)
  have HRb : Blk w1 (w.heap.size + 1) 134 #[.pointer none] := Blk.below (Blk.new_at (by simp)) hb1 (by simp)
  have r0 := (HRb.set 0 (.pointer (some ⟨G, o, none⟩))).cell 0
  simp only [List.setIfInBounds_toArray, List.set_cons_zero, List.set_cons_succ, List.getElem?_toArray, List.getElem?_cons_zero, List.getElem?_cons_succ] at r0
  exact bodyPost_ret (v := .agg #[.pointer (some ⟨G, o, none⟩)]) (by simp [results, Tryd.results81, go_sem, r0]) rfl ⟨rfl, hB1.setCell (p := ⟨w.heap.size + 1, 0, none⟩) (by simp) _⟩
set_option maxRecDepth 100000 in
set_option maxHeartbeats 2000000 in
theorem glook_m (G o M : Nat) (mt : MeterS) (x y z : Int) (w : World) (hM : Blk w M 35 mt.cells) :
    Calls Tryd.prog 81 #[.pointer (some ⟨G, o, none⟩), .agg #[.pointer (some ⟨M, 0, none⟩), .int .i64 x, .int .i64 y, .int .i64 z]] w fun e w' => e = .returned (viewV G o) ∧ Blk w' M 35 (mt.add x y z).cells ∧ Chg (fun b => b = M) w w' := by
  unfold viewV
  have VS := Lib.hid (fun w' hb => visit_any mt x y z M 35 w' hb)
  have HM := Lib.hid hM
  have hl := hM.lt
  generalize mt.add x y z = mt' at *
  clear hM
  go_enter Tryd.func81, Tryd.ntmps81
  go_wp2_with (go_at_call 84; refine (VS.out _ ((HM.out.alloc _).alloc _)).mono ?_; rintro e w1 ⟨rfl, h1, c1⟩; have H1 := Lib.hid h1; have HRb : Blk w1 (w.heap.size + 1) 134 #[.pointer none] := Blk.chg (Blk.new_at (by simp)) c1 (by omega); have hRz := HRb.lt; have hRf := HRb.frozen; have hRc := HRb.cell 0; clear h1)
  have r0 := (HRb.set 0 (.pointer (some ⟨G, o, none⟩))).cell 0
  simp only [List.setIfInBounds_toArray, List.set_cons_zero, List.set_cons_succ, List.getElem?_toArray, List.getElem?_cons_zero, List.getElem?_cons_succ] at r0
  exact bodyPost_ret (v := .agg #[.pointer (some ⟨G, o, none⟩)]) (by simp [results, Tryd.results81, go_sem, r0]) rfl ⟨rfl, H1.out.other (by omega) _ _, ((Chg.of_below (by go_grown)).trans c1).setCell (.inr (by simp)) _⟩
def spliceA (A cs : Array Value) (o : Nat) : Array Value := (A.toList.take o ++ cs.toList ++ A.toList.drop (o + cs.size)).toArray
theorem spliceA_size (A cs : Array Value) (o : Nat) (h : o + cs.size ≤ A.size) : (spliceA A cs o).size = A.size := by
  simp [spliceA]; omega
theorem spliceA_in (A cs : Array Value) (o j : Nat) (h : o + cs.size ≤ A.size) (hj : j < cs.size) : (spliceA A cs o)[o + j]? = cs[j]? := by
  have h1 : (A.toList.take o).length = o := by simp; omega
  have h2 : j < cs.toList.length := by simpa using hj
  unfold spliceA
  rw [List.getElem?_toArray, List.append_assoc, List.getElem?_append_right (by omega), h1, Nat.add_sub_cancel_left, List.getElem?_append_left h2, Array.getElem?_toList]
theorem spliceA_out (A cs : Array Value) (o j : Nat) (h : o + cs.size ≤ A.size) (hj : j < o ∨ o + cs.size ≤ j) : (spliceA A cs o)[j]? = A[j]? := by
  have h1 : (A.toList.take o).length = o := by simp; omega
  have h2 : cs.toList.length = cs.size := by simp
  unfold spliceA
  rw [List.getElem?_toArray]
  rcases hj with hj | hj
  · rw [List.append_assoc, List.getElem?_append_left (by omega), List.getElem?_take_of_lt hj, Array.getElem?_toList]
  · rw [List.getElem?_append_right (by simp; omega), List.getElem?_drop, ← Array.getElem?_toList]
    congr 1
    simp; omega
theorem exec_storeAt {P : Program} {w : World} {a : Oper} {ρ : Operand → Value} {t : TypeId} {x y : Operand} (hop : a.op = .store t x y) {g off : Nat} {cs cur : Array Value} {T : TypeId} (hx : ρ x = .pointer (some ⟨g, off, none⟩)) (hy : ρ y = .agg cs)
    (hg : Blk w g T cur) (hs : off + cs.size ≤ cur.size) (hi : (sizeOf t).run P w = .ok cs.size w) (h1 : ∀ v ∈ cs.toList, v.oneCell' = true) :
    (execOp ρ a).run P w = .ok .skip (w.setRow g (spliceA cur cs off)) := by
  have h := run_storeCells_at P g off T cs.toList 0 cur w hg (by simpa using hs) h1
  simp only [Nat.add_zero, Array.length_toList] at h
  simp [execOp, hop, hx, hy, Instr.storeAt, Instr.sureAddr, storeVar, Sem.run_bind, hi, Value.cells, h, Result.andThen, spliceA]
theorem ChgG.setRow {G o : Nat} {a w : World} (h : ChgG G o a w) {T : TypeId} {A cs : Array Value} (hA : Blk w G T A) (hc : cs.size = 25) (ho : o + 25 ≤ A.size) : ChgG G o a (w.setRow G (spliceA A cs o)) :=
  ⟨h.chg.trans ⟨rfl, rfl, rfl, by simp [World.setRow], fun k _ hk => setRow_other w G _ hk⟩, fun T0 A0 h0 => by
    obtain ⟨A1, h1, s1, r1⟩ := h.rest T0 A0 h0
    have e : some (Obj.cells A1 T0 (0, 0)) = some (Obj.cells A T (0, 0)) := (show w.heap[G]? = _ from h1).symm.trans hA
    cases e
    exact ⟨_, Blk.setRow h1 _, by rw [spliceA_size _ _ _ (by omega), s1], fun j hj => by rw [spliceA_out _ _ _ _ (by omega) (by omega), r1 j hj]⟩⟩
theorem oper_unit {P : Program} {o : Oper} {a : Act} {w w' : World} {K : Act → World → Prop} {Q : Exit → Act → World → Prop} (hrun : (execOp a.eval o).run P w = .ok .skip w') (h : K (a.put o.dst undef) w') : o.wp P a w K Q := by
  unfold Oper.wp
  rw [hrun]
  exact h
set_option maxRecDepth 100000 in
set_option maxHeartbeats 4000000 in
theorem gclear_any (G o m : Nat) (s : Nat → EntS) (w : World) (hg : GW w G o m s) :
    Calls Tryd.prog 78 #[.agg #[.pointer (some ⟨G, o, none⟩)]] w fun e w' => e = .returned (.tuple #[]) ∧ GW w' G o (rep 128) (fun _ => EntS.zero) ∧ ChgG G o w w' := by
  obtain ⟨T, A, hA, hk⟩ := hg
  have ho : o + 25 ≤ A.size := by have := (Array.getElem?_eq_some_iff.1 (hk 24 (by decide))).1; omega
  have HG := Lib.hid hA
  have hl := hA.lt
  have hfw := fun j => hA.frozen j
  clear hA hk
  go_enter Tryd.func78, Tryd.ntmps78
  go_wp2
  refine wp_region_seq (fun _ => False) #[⟨0, 0, 4, 2, 0⟩, ⟨1, 1, 8, 4, 1⟩, ⟨0, 0, 16, 0, 2⟩, ⟨4, 4, 32, 16, 0⟩, ⟨8, 12, 64, 32, 1⟩, ⟨31, 31, 128, 8, 0⟩, ⟨63, 63, 0, 192, 3⟩] 18 [(0, 0), (1, 1), (2, 2), (3, 0), (4, 1), (5, 0), (6, 3)] (by kernel_rfl) (by kernel_rfl) (by kernel_rfl) (by kernel_rfl) (by kernel_rfl) (by kernel_rfl) (fun c a d v w h => by cases d <;> exact h) ?_
  refine zqC ?_
  refine zq1 Tryd.underlying132 ?_
  try refine zqP ?_
  refine zqD fun K hK => ?_; go_wp2_with (go_at_call 82; refine (gnew_any _).mono ?_; rintro e w1 ⟨rfl, h1, hb1⟩; have hr := gnew_whole (B := w.heap.size + 1) (by simpa using h1); clear h1; have hG1 := Lib.hid (HG.out.below (Below.trans (show Below w.heap.size w _ from by go_grown) (hb1.mono (by simp))) hl); have hB1 : Below w.heap.size w w1 := (by first | exact hB1.trans (hb1.mono hB1.size) | exact hB1.trans (Below.undrew (hb1.mono hB1.size)) | exact hb1 | exact Below.trans (by go_grown) (hb1.mono (by simp <;> omega))); have hcG := fun (o : Nat) => hb1.cell (p := ⟨G, o, none⟩) (by first | assumption | (simp <;> omega)); have hfG := fun (o : Nat) => hb1.frozen (p := ⟨G, o, none⟩) (by first | assumption | (simp <;> omega)); have hzG : G < w1.heap.size := Nat.lt_of_lt_of_le (by first | assumption | (simp <;> omega)) hb1.size; have hcwheapsize := fun (o : Nat) => hb1.cell (p := ⟨w.heap.size, o, none⟩) (by first | assumption | (simp <;> omega)); have hfwheapsize := fun (o : Nat) => hb1.frozen (p := ⟨w.heap.size, o, none⟩) (by first | assumption | (simp <;> omega)); have hzwheapsize : w.heap.size < w1.heap.size := Nat.lt_of_lt_of_le (by first | assumption | (simp <;> omega)) hb1.size); refine hkA hK (h := ?_); clear hK K
  try refine zqP ?_; refine zqC ?_
  refine zqL [_, _, _, _, _, _, _, _, _, _, _, _, _, _, _, _, _, _, _, _, _, _, _, _, _] Tryd.underlying145 ?_
  try refine zqP ?_; refine zqC ?_
  refine zqE fun K hK => ?_; refine oper_unit (exec_storeAt (t := 145) (cs := #[.int .u64 ((rep 128 : Nat) : Int), .int .u64 0, .int .u64 0, .int .u64 0, .int .u64 0, .int .u64 0, .int .u64 0, .int .u64 0, .int .u64 0, .int .u64 0, .int .u64 0, .int .u64 0, .int .u64 0, .int .u64 0, .int .u64 0, .int .u64 0, .int .u64 0, .int .u64 0, .int .u64 0, .int .u64 0, .int .u64 0, .int .u64 0, .int .u64 0, .int .u64 0, .int .u64 0]) rfl rfl rfl hG1.out ho (Tryd.sizeOf145 _) (by simp [Value.oneCell'])) ?_; refine hK.out _ _ ?_; clear hK K
  try refine zqP ?_
  refine seq_nil ?_
  go_wp2
  ((try simp only [Exit.inBlock, Exit.then]); first | refine bodyPost_end (results_none rfl _ _ _) rfl ?_ | refine bodyPost_ret (results_none rfl _ _ _) rfl ?_)
  exact ⟨rfl, ⟨_, _, Blk.setRow hG1.out _, fun j hj => by rw [spliceA_in _ _ _ _ ho hj, ← gnew_cells]; exact arrV_get _ _ _ hj⟩, (ChgG.of_below hB1).setRow hG1.out rfl ho⟩
end Go.Proofs.YtolhmibejhldkaaDoor

namespace Go.Proofs.YtolhmibejhldkaaDoor
open Go.RowKit Go.Proofs
def freeZ (m : Nat) : Int := match firstL (highB m) with | none => -1 | some j => (j : Int)
end Go.Proofs.YtolhmibejhldkaaDoor

namespace Go.Proofs.YtolhmibejhldkaaDoor
open Go.RowKit
structure Moves (M M' : Nat → Prop) (A B : World) : Prop where
  size : A.heap.size ≤ B.heap.size
  same : ∀ b, b < A.heap.size → ¬ M b → B.heap[b]? = A.heap[b]?
  grow : ∀ b, M' b → M b ∨ A.heap.size ≤ b
theorem Moves.refl (M : Nat → Prop) (A : World) : Moves M M A A := ⟨Nat.le_refl _, fun _ _ _ => rfl, fun _ h => .inl h⟩
theorem Moves.trans {M M' M'' : Nat → Prop} {A B C : World} (h : Moves M M' A B) (k : Moves M' M'' B C) : Moves M M'' A C :=
  ⟨Nat.le_trans h.size k.size, fun b hb hM => (k.same b (Nat.lt_of_lt_of_le hb h.size) (fun h' => (h.grow b h').elim hM (fun h'' => by omega))).trans (h.same b hb hM),
    fun b hb => (k.grow b hb).elim (fun h' => h.grow b h') (fun h' => .inr (Nat.le_trans h.size h'))⟩
def GivesM (P : Program) (g : Nat) (lb : Array Value) (encs : Nat → Array Value) (N : Nat) (S : Nat → Prop) (w : World) : Prop :=
  ∀ (l : Nat) (J : Nat → (Nat → Prop) → World → Prop) (Jx : World → Prop) (W : World), Same S w W →
    (∀ i M A B, J i M A → A.grownBy B none → J i M B) →
    (∀ i M W1, i < N → J i M W1 → YieldAt Fence.wide 0 P l (encs i) W1 fun e W' =>
      (e = .returned (.bool true) ∧ ∃ M', J (i + 1) M' W' ∧ Moves M M' W1 W') ∨ (e = .returned (.bool false) ∧ Jx W')) →
    (∀ A B, Jx A → A.grownBy B none → Jx B) →
    ∀ M0, J 0 M0 W → (∀ b, M0 b → b < W.heap.size ∧ ¬ S b) →
    CallsIn Fence.wide 0 P g (#[.func (.yield l) #[] #[]] ++ lb) W fun e W' => (∃ v, e = .returned v) ∧ ((∃ M, J N M W') ∨ Jx W')
def roundEndM (B : Nat) (M : Nat → Prop) (I : Nat → (Nat → Prop) → World → Prop) (Ix : Code → World → Prop) (i : Nat) (W : World) : Exit → Act → World → Prop
  | .normal, _, W' => ∃ M', I (i + 1) M' W' ∧ Moves M M' W W'
  | .ret, _, W' => KeepsFrom B W W' ∧ Ix .ret W'
  | .exit id, _, W' => KeepsFrom B W W' ∧ Ix (.exit id) W'
  | .goto t, _, W' => KeepsFrom B W W' ∧ Ix (.goto t) W'
  | .panic _, _, _ => False
  | .outgrown, _, _ => False
theorem wp_rangeM {P : Program} {g : Operand} {ps : Array Tmp} {assign body : Code} {Q : Exit → Act → World → Prop} {a : Act} {w : World} {gf : Nat} {lb : Array Value} {encs : Nat → Array Value} {N : Nat} {S : Nat → Prop}
    (hg : a.eval g = .func (.func gf) #[] lb) (eg : ∀ args w, (callFunc gf args).run P w = .ok (.enter gf args) w)
    (hseq : GivesM P gf lb encs N S w) (hS : ∀ b, S b → b < w.heap.size) (hps : ∀ i, (encs i).size = ps.size)
    (I : Nat → (Nat → Prop) → World → Prop) (Ix : Code → World → Prop) (hI : OwnFrom w.heap.size (fun (p : Nat × (Nat → Prop)) W => I p.1 p.2 W)) (hIx : OwnFrom w.heap.size Ix) (M0 : Nat → Prop) (h0 : I 0 M0 w) (hM0 : ∀ b, M0 b → b < w.heap.size ∧ ¬ S b) (Ax : Array Value → Nat → Act → Prop)
    (hassign : ∀ (l i : Nat) (M : Nat → Prop) (W : World) (K : Act → World → Prop), I i M W → i < N → (∀ a₁, Ax a.tmps i a₁ → K a₁ W) →
      assign.wpIn (Fence.wide.inRound l) 0 P (Exit.then K (fun _ _ _ => False)) { tmps := (ps.zip (encs i)).foldl (fun t (p, v) => t.setIfInBounds p v) a.tmps, defers := [] } W)
    (hbody : ∀ (l i : Nat) (M : Nat → Prop) (a₁ : Act) (W : World), I i M W → i < N → w.heap.size + 2 ≤ W.heap.size → Ax a.tmps i a₁ → body.wpIn (Fence.wide.inRound l) 0 P (roundEndM w.heap.size M I Ix i W) a₁ W)
    (hdone : ∀ (D : Nat) (M : Nat → Prop) (W : World), w.heap.size ≤ D → I N M W → W.heap[D]? = some (.deferred (some [])) → (∀ b, M b → b ≠ D) → Q .normal { a with defers := { target := .collected D, args := #[] } :: a.defers } W)
    (hstop : ∀ (D : Nat) (c : Code) (W : World), w.heap.size ≤ D → Ix c W → W.heap[D]? = some (.deferred (some [])) → c.wpIn Fence.wide 0 P Q { a with defers := { target := .collected D, args := #[] } :: a.defers } W) :
    (Code.rangeFunc g ps assign body).wpIn Fence.wide 0 P Q a w := by
  refine wpIn_rangeFunc ?_
  intro fn hfn
  let rc : LoopState → Option Code → Loop := fun st pe => { state := st, pending := pe, fn, tmps := a.tmps, params := ps, assign, body, defers := w.heap.size }
  obtain ⟨V, hV⟩ : ∃ V, (w.alloc (.deferred (some []))).alloc (.loop (rc .ready none)) = V := ⟨_, rfl⟩
  have sV : V.heap.size = w.heap.size + 2 := by rw [← hV]; simp
  have rV : V.heap[w.heap.size + 1]? = some (.loop (rc .ready none)) := by
    rw [← hV]; have := World.alloc_heap_new (w.alloc (.deferred (some []))) (.loop (rc .ready none)); rwa [World.size_alloc] at this
  have dV : V.heap[w.heap.size]? = some (.deferred (some [])) := by
    rw [← hV]; exact (Below.heap_alloc _ _ _ (by simp)).trans (World.alloc_heap_new w _)
  have bV : Below w.heap.size w V := by rw [← hV]; exact ((Below.refl _ w).alloc (Nat.le_refl _) _).alloc (by simp) _
  have nS : ¬ S (w.heap.size + 1) := fun h => by have := hS _ h; omega
  have iV : I 0 M0 V := by rw [← hV]; exact hI.alloc (s := (0, M0)) _ (hI.alloc (s := (0, M0)) _ h0)
  refine ⟨w.heap.size + 1, [{ target := .collected w.heap.size, args := #[] }], V, { target := .fn (.func gf) lb, args := #[.func (.yield (w.heap.size + 1)) #[] #[]] }, V, gf,
    #[.func (.yield (w.heap.size + 1)) #[] #[]] ++ lb, V, ?_, ?_, ?_, ?_, fun h => by simp [Fence.wide] at h, ?_⟩
  · rw [← hV]; exact run_enterLoop_outer _ _ _ _ _
  · simp only [resolve, hg]
    simp [go_sem]
  · intro f' _; trivial
  · simp [invoke, go_sem, eg]
  refine (hseq (w.heap.size + 1)
    (fun i M' W => ∃ M, (∀ b, M' b ↔ M b ∨ b = w.heap.size + 1) ∧ I i M W ∧ W.heap[w.heap.size + 1]? = some (.loop (rc .ready none)) ∧ W.heap[w.heap.size]? = some (.deferred (some [])) ∧ w.heap.size + 2 ≤ W.heap.size ∧ ∀ b, M b → b ≠ w.heap.size ∧ b ≠ w.heap.size + 1)
    (fun W => ∃ c, Ix c W ∧ W.heap[w.heap.size + 1]? = some (.loop (rc .done (some c))) ∧ W.heap[w.heap.size]? = some (.deferred (some [])))
    V (Same.of_below bV hS) ?_ ?_ ?_ (fun b => M0 b ∨ b = w.heap.size + 1) ⟨M0, fun b => Iff.rfl, iV, rV, dV, by omega, fun b hb => by have := (hM0 b hb).1; omega⟩ ?_).mono ?_
  · rintro i M' A B ⟨M, h0, h1, h2, h3, h4, h5⟩ hg'
    exact ⟨M, h0, hI (i, M) A B none h1 hg' (fun r e => by cases e), (hg'.block _ (Array.getElem?_eq_some_iff.1 h2).1 (by simp)).trans h2, (hg'.block _ (Array.getElem?_eq_some_iff.1 h3).1 (by simp)).trans h3, Nat.le_trans h4 hg'.size, h5⟩
  ·
    rintro i M' W hlt ⟨M, hMM, hi, hl, hk, hs, hMn⟩
    have hl' : w.heap.size + 1 < W.heap.size := (Array.getElem?_eq_some_iff.1 hl).1
    have hy := run_yield (P := P) (args := encs i) hl (hps i)
    refine ⟨fn, _, assign, body, hy, roundIn_of_wpIn hfn (hassign (w.heap.size + 1) i M W _ hi hlt ?_)⟩
    intro a₁ hax0
    refine ⟨_, run_beginRound hl rfl, ?_⟩
    obtain ⟨W2, hW2⟩ : ∃ W2, W.putObj (w.heap.size + 1) (.loop { rc .ready none with state := .busy }) = W2 := ⟨_, rfl⟩
    have hl2 : W2.heap[w.heap.size + 1]? = some (.loop { rc .ready none with state := .busy }) := by rw [← hW2]; exact World.putObj_heap_same hl'
    have hk2 : W2.heap[w.heap.size]? = some (.deferred (some [])) := by rw [← hW2]; exact (World.putObj_heap_other (by omega)).trans hk
    have hs2 : W2.heap.size = W.heap.size := by rw [← hW2]; simp
    have hi2 : I i M W2 := by rw [← hW2]; exact hI.putObj (s := (i, M)) _ hi (by omega) hl rfl
    show body.wpIn _ _ _ _ _ (W.putObj (w.heap.size + 1) (.loop { rc .ready none with state := .busy }))
    rw [hW2]
    refine wpIn_mono (hbody (w.heap.size + 1) i M a₁ W2 hi2 hlt (by omega) hax0) ?_
    have fin : ∀ (jump : Option Code) (W3 : World), W3.heap[w.heap.size + 1]? = some (.loop { rc .ready none with state := .busy }) → W3.heap[w.heap.size]? = some (.deferred (some [])) →
        (Instr.endRound (w.heap.size + 1) jump).run P W3 = .ok (.bool jump.isNone) (W3.putObj (w.heap.size + 1) (.loop (rc (if jump.isNone then .ready else .done) jump))) ∧
        (W3.putObj (w.heap.size + 1) (.loop (rc (if jump.isNone then .ready else .done) jump))).heap[w.heap.size + 1]? = some (.loop (rc (if jump.isNone then .ready else .done) jump)) ∧
        (W3.putObj (w.heap.size + 1) (.loop (rc (if jump.isNone then .ready else .done) jump))).heap[w.heap.size]? = some (.deferred (some [])) := fun jump W3 hl3 hk3 => by
      exact ⟨run_endRound (P := P) jump hl3, World.putObj_heap_same (Array.getElem?_eq_some_iff.1 hl3).1, (World.putObj_heap_other (by omega)).trans hk3⟩
    rintro e a3 W3 hp
    cases e with
    | normal =>
      obtain ⟨M3, hi3, hmv⟩ := hp
      have hl3 := (hmv.same _ (by omega) (fun h => (hMn _ h).2 rfl)).trans hl2
      have hk3 := (hmv.same _ (by omega) (fun h => (hMn _ h).1 rfl)).trans hk2
      obtain ⟨hr, hl4, hk4⟩ := fin none W3 hl3 hk3
      refine ⟨_, _, hr, .inl ⟨rfl, fun b => M3 b ∨ b = w.heap.size + 1, ⟨M3, fun b => Iff.rfl, hI.putObj (s := (i + 1, M3)) _ hi3 (by omega) hl3 rfl, hl4, hk4, by have := hmv.size; simp; omega, ?_⟩, ?_, ?_, ?_⟩⟩
      · intro b hb
        rcases hmv.grow b hb with h | h
        · exact hMn b h
        · omega
      · have := hmv.size; simp; omega
      · intro b hb hnb
        have hne : b ≠ w.heap.size + 1 := fun e => hnb ((hMM b).2 (.inr e))
        rw [World.putObj_heap_other hne, hmv.same b (by omega) (fun h => hnb ((hMM b).2 (.inl h))), ← hW2, World.putObj_heap_other hne]
      · rintro b (h | h)
        · rcases hmv.grow b h with h' | h'
          · exact .inl ((hMM b).2 (.inl h'))
          · exact .inr (by omega)
        · exact .inl ((hMM b).2 (.inr h))
    | ret =>
      obtain ⟨hk3, hi3⟩ := hp
      have hl3 := hk3.same _ _ (by omega) hl2 rfl
      obtain ⟨hr, hl4, hk4⟩ := fin (some .ret) W3 hl3 (hk3.same _ _ (Nat.le_refl _) hk2 rfl)
      exact ⟨_, _, hr, .inr ⟨rfl, .ret, hIx.putObj _ hi3 (by omega) hl3 rfl, hl4, hk4⟩⟩
    | exit id =>
      obtain ⟨hk3, hi3⟩ := hp
      have hl3 := hk3.same _ _ (by omega) hl2 rfl
      obtain ⟨hr, hl4, hk4⟩ := fin (some (.exit id)) W3 hl3 (hk3.same _ _ (Nat.le_refl _) hk2 rfl)
      exact ⟨_, _, hr, .inr ⟨rfl, .exit id, hIx.putObj _ hi3 (by omega) hl3 rfl, hl4, hk4⟩⟩
    | goto t =>
      obtain ⟨hk3, hi3⟩ := hp
      have hl3 := hk3.same _ _ (by omega) hl2 rfl
      obtain ⟨hr, hl4, hk4⟩ := fin (some (.goto t)) W3 hl3 (hk3.same _ _ (Nat.le_refl _) hk2 rfl)
      exact ⟨_, _, hr, .inr ⟨rfl, .goto t, hIx.putObj _ hi3 (by omega) hl3 rfl, hl4, hk4⟩⟩
    | panic ch => exact hp.elim
    | outgrown => exact hp.elim
  · rintro A B ⟨c, h1, h2, h3⟩ hg'
    exact ⟨c, hIx c A B none h1 hg' (fun r e => by cases e), (hg'.block _ (Array.getElem?_eq_some_iff.1 h2).1 (by simp)).trans h2, (hg'.block _ (Array.getElem?_eq_some_iff.1 h3).1 (by simp)).trans h3⟩
  · rintro b (hb | rfl)
    · exact ⟨by have := (hM0 b hb).1; omega, (hM0 b hb).2⟩
    · exact ⟨by omega, nS⟩
  ·
    rintro e W2 ⟨⟨v, rfl⟩, (⟨M', M, hMM, hi, hl, hk, _, hMn⟩ | ⟨c, hi, hl, hk⟩)⟩
    · exact ⟨none, _, run_endLoop (P := P) hl (by simp [rc]), hdone _ M _ (Nat.le_refl _) (hI.putObj (s := (N, M)) _ hi (by omega) hl rfl) ((World.putObj_heap_other (by omega)).trans hk) (fun b hb => (hMn b hb).1)⟩
    · exact ⟨some c, _, run_endLoop (P := P) hl (by simp [rc]), hstop _ c _ (Nat.le_refl _) (hIx.putObj _ hi (by omega) hl rfl) ((World.putObj_heap_other (by omega)).trans hk)⟩
theorem run_append_own2 {P : Program} (w : World) (base : Nat) (t ty e : TypeId) (i : TypeInfo) (z : Value) (size bytes : Nat) (ht : P.underlying t = some (.slice e)) (hi : P.info? e = some i) (hz : i.zero = some z)
    (hsize : i.size = size) (hby : i.bytes = bytes) (hzs : z.cells.size = size) (hsz : 0 < size)
    (v : Value) (n : Nat) (xs : List Value) (hown : w.ownsRow base e size v n xs)
    (a : Addr) (m c : Nat) (news : List Value) (hl : news.length = m * size) (hnews : ∀ j u, news[j]? = some u → w.cell? (a.add j) = some u) (h1 : ∀ u ∈ news, u.oneCell' = true)
    (h63 : n + m ≤ maxLen) (hbytes : (n + m) * bytes ≤ 140737488355328) (hbase : base ≤ w.heap.size) (hm : 0 < m) :
    ∃ v' w', (Builtin.append_ #[t, t] ty #[v, .slice (some a) m c]).run P w = .ok v' w' ∧ w'.ownsRow base e size v' (n + m) (xs ++ news) ∧ w.grownBy w' v.ownBlock ∧
      (v'.ownBlock = v.ownBlock ∨ v'.ownBlock = some w.heap.size) := by
  obtain ⟨v', w', hr, h2, h3, h4⟩ := run_append_own (P := P) w base t ty e i z size bytes ht hi hz hsize hby hzs hsz v n xs hown a m c news hl hnews h1 h63 hbytes hbase
  refine ⟨v', w', hr, h2, h3, ?_⟩
  subst hsize
  subst hby
  have hs : n + m ≤ 9223372036854775807 := by simp only [maxLen] at h63; omega
  rcases hown.2 with ⟨rfl, rfl⟩ | ⟨g, cap, cur, rfl, hbg, hg, hnc, hcm, hcs, htake⟩
  · have hr2 := run_append_nil (P := P) w t ty e i z ht hi hz a m c news hl hnews hm (by omega) (by have hb := hbytes; simp only [Nat.zero_add] at hb; omega)
    rw [hr2] at hr
    cases hr
    exact .inr rfl
  · by_cases hroom : n + m ≤ cap
    · have hfit : n * i.size + news.length ≤ cur.size := by rw [hl, hcs, ← Nat.add_mul]; exact Nat.mul_le_mul_right _ hroom
      have hr2 := run_append_room (P := P) w t ty e i ht hi g n cap cur hg a m c news hl hnews h1 hroom hfit
      rw [hr2] at hr
      cases hr
      exact .inl rfl
    · have hr2 := run_append_grow (P := P) w t ty e i z ht hi hz ⟨g, 0, none⟩ n cap xs hown.1 (hown.cells (g := g) rfl) a m c news hl hnews (by omega) (by omega) (growslice_fits (by omega) hbytes)
      rw [hr2] at hr
      cases hr
      exact .inr rfl
theorem wpListIn_append_own2 {F : Fence} {n : Nat} {P : Program} (w : World) {ops : Array Oper} {rest : List Oper} {o : Oper} {a : Act} {Q : Exit → Act → World → Prop}
    (hg : o.guard = none) (s x : Operand) (t : TypeId) (hop : o.op = Op.call { callee := Callee.builtin Builtin.append, args := #[s, x], argTypes := #[t, t] })
    (base : Nat) (e : TypeId) (i : TypeInfo) (z : Value) (size bytes : Nat) (h1 : P.underlying t = some (.slice e)) (h2 : P.info? e = some i) (h3 : i.zero = some z) (h4 : i.size = size) (h5 : i.bytes = bytes) (h6 : z.cells.size = size) (h7 : 0 < size)
    (v : Value) (k : Nat) (xs : List Value) (hs : a.eval s = v) (hown : w.ownsRow base e size v k xs) (ad : Addr) (m c : Nat) (news : List Value) (hx : a.eval x = .slice (some ad) m c) (hn : news.length = m * size)
    (hc : ∀ j u, news[j]? = some u → w.cell? (ad.add j) = some u) (h1c : ∀ u ∈ news, u.oneCell' = true) (b1 : k + m ≤ maxLen) (b2 : (k + m) * bytes ≤ 140737488355328) (b3 : base ≤ w.heap.size) (hm : 0 < m)
    (hK : ∀ v' w', w'.ownsRow base e size v' (k + m) (xs ++ news) → w.grownBy w' v.ownBlock → (v'.ownBlock = v.ownBlock ∨ v'.ownBlock = some w.heap.size) → wpListIn F n P ops Q rest (a.put o.dst v') w') :
    wpListIn F n P ops Q (o :: rest) a w := by
  refine wpListIn_plain hg fun K hK' => ?_
  obtain ⟨v', w', hrun, r1, r2, r3⟩ := run_append_own2 (P := P) w base t o.type e i z size bytes h1 h2 h3 h4 h5 h6 h7 v k xs hown ad m c news hn hc h1c b1 b2 b3 hm
  unfold Oper.wpIn
  refine ⟨?_, ?_⟩
  · simp [Oper.about, hop, resolve, Target.leads, Sem.run_pure]
  · rw [Oper.semAt_plain F _ _ (by rw [hop]; intro c hc'; cases hc')]
    simp [execOp, hop, resolve, invoke, builtin, hs, hx, hrun, Result.andThen]
    exact hK' _ _ (hK v' w' r1 r2 r3)
end Go.Proofs.YtolhmibejhldkaaDoor

namespace Go.Proofs.YtolhmibejhldkaaDoor
open Go.RowKit
section
variable {P : Program} {ops : Array Oper} {Q : Exit → Act → World → Prop} {md : Region.Mode} {X : Nat → Prop} {l n : Nat}
end
theorem Chg.drewAlloc (X : Nat → Prop) (w : World) (o : Obj) : Chg X w.drew (w.alloc o).drew := ⟨rfl, rfl, rfl, by simp, fun k hk _ => Below.heap_alloc w o k (by simpa using hk)⟩
end Go.Proofs.YtolhmibejhldkaaDoor

namespace Go.Proofs.YtolhmibejhldkaaDoor
open Go.RowKit Go.Proofs
attribute [local go_sem] Oper.semAt_some wide_depth round_depth wide_fn round_fn
def findZ (s : Nat → EntS) (key : Int) (l : List Nat) : Int := match l.find? (fun n => (s n).key == key) with | none => -1 | some n => (n : Int)
end Go.Proofs.YtolhmibejhldkaaDoor

namespace Go.Proofs.YtolhmibejhldkaaDoor
open Go.RowKit Go.Proofs
def scanZ (p : Nat → Bool) : Int := match (List.range 8).find? p with | none => -1 | some n => (n : Int)
theorem scan_hit {p : Nat → Bool} {k : Nat} (hk : k < 8) (h : p k = true) (hb : ∀ j, j < k → p j = false) : scanZ p = (k : Int) := by
  have : (List.range 8).find? p = some k := by
    rw [List.find?_eq_some_iff_getElem]
    exact ⟨h, k, by simpa using hk, by simp, fun j hj => by simpa using hb j hj⟩
  unfold scanZ; rw [this]
theorem scan_miss {p : Nat → Bool} (h : ∀ j, j < 8 → p j = false) : scanZ p = -1 := by
  have : (List.range 8).find? p = none := by
    rw [List.find?_eq_none]
    intro x hx
    simpa using h x (by simpa using hx)
  unfold scanZ; rw [this]
theorem scan_cases (p : Nat → Bool) : (scanZ p = -1 ∧ ∀ j, j < 8 → p j = false) ∨ ∃ k : Nat, scanZ p = (k : Int) ∧ k < 8 ∧ p k = true ∧ ∀ j, j < k → p j = false := by
  cases h : (List.range 8).find? p with
  | none =>
    rw [List.find?_eq_none] at h
    have : ∀ j, j < 8 → p j = false := fun j hj => by simpa using h j (by simpa using hj)
    exact .inl ⟨scan_miss this, this⟩
  | some k =>
    rw [List.find?_eq_some_iff_getElem] at h
    obtain ⟨h1, i, hi, e, h2⟩ := h
    simp at e hi
    subst e
    have hb : ∀ j, j < i → p j = false := fun j hj => by simpa using h2 j hj
    exact .inr ⟨i, scan_hit hi h1 hb, hi, h1, hb⟩
theorem find_scan (s : Nat → EntS) (key : Int) (f : Nat → Bool) : findZ s key (lanesL f) = scanZ (fun i => f i && (s i).key == key) := by
  unfold findZ scanZ lanesL
  rw [List.find?_filter]
  have e : (fun a => decide (f a = true ∧ ((s a).key == key) = true)) = (fun i => f i && (s i).key == key) := by
    funext a; rw [Bool.eq_iff_iff]; simp
  try rw [e]
  all_goals (generalize List.find? (fun i => f i && (s i).key == key) (List.range 8) = r; cases r <;> rfl)
def GGood (m : Nat) (s : Nat → EntS) : Prop :=
  m < 18446744073709551616 ∧ ∀ i, i < 8 → ctrlB (ln m i) = true ∧ ∃ h : Nat, (s i).hash = (h : Int) ∧ h < 18446744073709551616 ∧ (ln m i < 128 → ln m i = h % 128)
theorem GGood.new : GGood (rep 128) (fun _ => EntS.zero) :=
  ⟨by decide, fun i hi => by rw [ln_rep 128 i (by decide) hi]; exact ⟨rfl, 0, rfl, by decide, fun h => by omega⟩⟩
theorem GGood.put {m : Nat} {s : Nat → EntS} (hg : GGood m s) (k h : Nat) (x0 x1 : Int) (hh : h < 18446744073709551616) : GGood (setL m k (h % 128)) (putS s k ⟨x0, x1, h⟩) :=
  ⟨setL_lt _ _ _ (by omega), fun i hi => by
    rw [ln_setL m k _ i (by omega) hi]
    unfold putS
    by_cases e : i = k
    · rw [if_pos e, if_pos e]; exact ⟨ctrlB_low _ (by omega), h, rfl, hh, fun _ => rfl⟩
    · rw [if_neg e, if_neg e]; exact hg.2 i hi⟩
def countK (m k : Nat) : Nat := ((List.range 8).filter (fun i => decide (kindN (ln m i) = k))).length
theorem countK_le (m k : Nat) : countK m k ≤ 8 := by
  have := List.length_filter_le (fun i => decide (kindN (ln m i) = k)) (List.range 8)
  simpa [countK] using this
end Go.Proofs.YtolhmibejhldkaaDoor

namespace Go.Proofs.YtolhmibejhldkaaDoor
open Go.RowKit Go.Proofs
end Go.Proofs.YtolhmibejhldkaaDoor

namespace Go.Proofs.YtolhmibejhldkaaDoor
open Go.RowKit Go.Proofs
def e3 (e : EntS) : List Value := [.int .u64 e.key, .int .u64 e.val, .int .u64 e.hash]
def ReadsEnts (w : World) (v : Value) (l : List EntS) : Prop :=
  ∃ a cap, v = .slice a l.length cap ∧ (l ≠ [] → ∃ b off, a = some ⟨b, off, none⟩ ∧ b < w.heap.size ∧ ∀ i (h : i < l.length), w.cell? ⟨b, off + i * 3, none⟩ = some (.int .u64 l[i].key) ∧ w.cell? ⟨b, off + i * 3 + 1, none⟩ = some (.int .u64 l[i].val) ∧ w.cell? ⟨b, off + i * 3 + 2, none⟩ = some (.int .u64 l[i].hash))
theorem ReadsEnts.later {w w' : World} {v : Value} {l : List EntS} (h : ReadsEnts w v l) (hb : Below w.heap.size w w') : ReadsEnts w' v l := by
  obtain ⟨a, cap, rfl, hx⟩ := h
  refine ⟨a, cap, rfl, fun hne => ?_⟩
  obtain ⟨b, off, rfl, hlt, hc⟩ := hx hne
  exact ⟨b, off, rfl, Nat.lt_of_lt_of_le hlt hb.size, fun i hi => ⟨(hb.cell (p := ⟨b, _, none⟩) hlt).trans (hc i hi).1, (hb.cell (p := ⟨b, _, none⟩) hlt).trans (hc i hi).2.1, (hb.cell (p := ⟨b, _, none⟩) hlt).trans (hc i hi).2.2⟩⟩
theorem wp_append_own2 {P : Program} {w : World} {o : Oper} {a : Act} {K : Act → World → Prop} {Q : Exit → Act → World → Prop} (s x : Operand) (t : TypeId)
    (ho : o.op = .call { callee := .builtin .append, args := #[s, x], argTypes := #[t, t] })
    (base : Nat) (e : TypeId) (i : TypeInfo) (z : Value) (size bytes : Nat) (ht : P.underlying t = some (.slice e)) (hi : P.info? e = some i) (hz : i.zero = some z)
    (hsize : i.size = size) (hby : i.bytes = bytes) (hzs : z.cells.size = size) (hsz : 0 < size)
    (v : Value) (n : Nat) (xs : List Value) (hs : a.eval s = v) (hown : w.ownsRow base e size v n xs)
    (ad : Addr) (m c : Nat) (news : List Value) (hx : a.eval x = .slice (some ad) m c) (hl : news.length = m * size) (hnews : ∀ j u, news[j]? = some u → w.cell? (ad.add j) = some u) (h1 : ∀ u ∈ news, u.oneCell' = true)
    (h63 : n + m ≤ maxLen) (hbytes : (n + m) * bytes ≤ 140737488355328) (hbase : base ≤ w.heap.size) (hm : 0 < m)
    (h : ∀ v' w', w'.ownsRow base e size v' (n + m) (xs ++ news) → w.grownBy w' v.ownBlock → (v'.ownBlock = v.ownBlock ∨ v'.ownBlock = some w.heap.size) → K (a.put o.dst v') w') : o.wp P a w K Q := by
  obtain ⟨v', w', hr, r1, r2, r3⟩ := run_append_own2 (P := P) w base t o.type e i z size bytes ht hi hz hsize hby hzs hsz v n xs hown ad m c news hl hnews h1 h63 hbytes hbase hm
  unfold Oper.wp execOp
  simp only [ho, resolve, invoke, builtin, Sem.run_bind, Sem.run_pure, Result.andThen_ok, List.map_toArray, List.map_cons, List.map_nil, hs, hx, hr]
  exact h v' w' r1 r2 r3
end Go.Proofs.YtolhmibejhldkaaDoor

namespace Go.Proofs.YtolhmibejhldkaaDoor
open Go.RowKit Go.Proofs
end Go.Proofs.YtolhmibejhldkaaDoor

namespace Go.Proofs.YtolhmibejhldkaaDoor
open Go.RowKit Go.Proofs
end Go.Proofs.YtolhmibejhldkaaDoor

namespace Go.Proofs.YtolhmibejhldkaaDoor
open Go.RowKit Go.Proofs
attribute [local go_sem] neq_nilG
theorem glookM_any (G o M : Nat) (mt : MeterS) (x y z : Int) (w : World) (hM : Blk w M 35 mt.cells) :
    Calls Tryd.prog 81 #[.pointer (some ⟨G, o, none⟩), .agg #[.pointer (some ⟨M, 0, none⟩), .int .i64 x, .int .i64 y, .int .i64 z]] w fun e w' => e = .returned (.agg #[.pointer (some ⟨G, o, none⟩)]) ∧ Blk w' M 35 (mt.add x y z).cells ∧ Chg (fun b => b = M) w w' := glook_m G o M mt x y z w hM
theorem glookN_any (G o : Nat) (x y z : Int) (w : World) :
    Calls Tryd.prog 81 #[.pointer (some ⟨G, o, none⟩), .agg #[.pointer none, .int .i64 x, .int .i64 y, .int .i64 z]] w fun e w' => e = .returned (.agg #[.pointer (some ⟨G, o, none⟩)]) ∧ Below w.heap.size w w' := glook_none G o x y z w
theorem eql_nilG (w : World) : (binOp .eql 25 .nilIface .nilIface).run Tryd.prog w = .ok (.bool true) w := run_eql_nil_nil _ _ (by kernel_rfl)
attribute [local go_sem] eql_nilG
end Go.Proofs.YtolhmibejhldkaaDoor

namespace Go.Proofs.YtolhmibejhldkaaDoor
open Go.RowKit Go.Proofs
theorem find_cases (s : Nat → EntS) (key : Int) (f : Nat → Bool) : (findZ s key (lanesL f) = -1 ∧ ∀ j, j < 8 → f j = true → (s j).key ≠ key) ∨ ∃ k : Nat, findZ s key (lanesL f) = (k : Int) ∧ k < 8 ∧ f k = true ∧ (s k).key = key ∧ ∀ j, j < k → f j = true → (s j).key ≠ key := by
  rw [find_scan]
  rcases scan_cases (fun i => f i && (s i).key == key) with ⟨h1, h2⟩ | ⟨k, h1, h2, h3, h4⟩
  · exact .inl ⟨h1, fun j hj hf e => by have := h2 j hj; simp [hf, e] at this⟩
  · simp only [Bool.and_eq_true, beq_iff_eq] at h3
    exact .inr ⟨k, h1, h2, h3.1, h3.2, fun j hj hf e => by have := h4 j hj; simp [hf, e] at this⟩
end Go.Proofs.YtolhmibejhldkaaDoor
