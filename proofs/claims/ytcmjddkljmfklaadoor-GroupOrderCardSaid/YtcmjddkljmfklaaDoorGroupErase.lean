/- Package group: Erase, Clear, Look. Condition: the errors' cells where it says so. -/
import Derived.Test.YtcmjddkljmfklaaDoorGroupPut
namespace Go.Proofs.YtcmjddkljmfklaaDoor
set_option linter.unusedVariables false
set_option linter.unusedSimpArgs false
open Go.RowKit Go.Proofs
attribute [local go_sem] neq_nilG

/-- the control byte of a slot that is let go -/
def goneN (m : Nat) : Nat := if openB m = true then 128 else 254
set_option maxRecDepth 100000 in
set_option maxHeartbeats 4000000 in
theorem gerase_ok (G o m k : Nat) (s : Nat → EntS) (hm : m < 18446744073709551616) (hk : k < 8) (hf : fullE m (k : Int) true = 0) (E : Nat → Addr) (w : World) (hg : GW w G o m s) (he : EC w E [1, 5]) :
    Calls Tryd.prog 36 #[.agg #[.pointer (some ⟨G, o, none⟩)], .int .i64 (k : Int)] w fun e w' =>
      e = .returned (.tuple #[.bool (!openB m), .nilIface]) ∧ GW w' G o (setL m k (goneN m)) (putS s k EntS.zero) ∧ ChgG G o w w' := by
  by_cases ho : openB m = true
  · rw [ho]
    show Calls _ _ _ _ fun e w' => e = .returned (.tuple #[.bool false, .nilIface]) ∧ _
    have FE := Lib.hid (fun w' (hb : Below w.heap.size w w') => gfullE_any G o m s hm k true E w' (hg.below hb hg.lt) (he.below hb))
    rw [hf] at FE
    simp only [errN_0] at FE
    have OP := Lib.hid (fun w' (hb : Below w.heap.size w w') => gopen_any G o m s hm w' (hg.below hb hg.lt))
    have MK := Lib.hid (fun w' hw => gmark_any G o m k (goneN m) (putS s k EntS.zero) hm hk (by unfold goneN; split <;> decide) (by unfold goneN; split <;> decide) w' hw)
    rw [show goneN m = 128 by unfold goneN; rw [ho]; rfl] at *
    rw [ho] at OP
    have HG := Lib.hid hg
    have hl := hg.lt
    have hfw := hg.frozen
    obtain ⟨s0, s1, s2⟩ := hg.slot k hk
    have hk8 : (k : Int) < 8 := by omega
    clear hg he hf ho
    go_enter Tryd.func36, Tryd.ntmps36
    go_upto_region 6 with (first
      | (go_at_call 86; refine (FE.out _ (by go_grown)).mono ?_; rintro e w1 ⟨rfl, hb1⟩; have hB1 : Below w.heap.size w w1 := (by first | exact hB1.trans (hb1.mono hB1.size) | exact hB1.trans (Below.undrew (hb1.mono hB1.size)) | exact hb1 | exact Below.trans (by go_grown) (hb1.mono (by simp <;> omega))); have hcG := fun (o : Nat) => hb1.cell (p := ⟨G, o, none⟩) (by first | assumption | (simp <;> omega)); have hfG := fun (o : Nat) => hb1.frozen (p := ⟨G, o, none⟩) (by first | assumption | (simp <;> omega)); have hzG : G < w1.heap.size := Nat.lt_of_lt_of_le (by first | assumption | (simp <;> omega)) hb1.size; have hcwheapsize := fun (o : Nat) => hb1.cell (p := ⟨w.heap.size, o, none⟩) (by first | assumption | (simp <;> omega)); have hfwheapsize := fun (o : Nat) => hb1.frozen (p := ⟨w.heap.size, o, none⟩) (by first | assumption | (simp <;> omega)); have hzwheapsize : w.heap.size < w1.heap.size := Nat.lt_of_lt_of_le (by first | assumption | (simp <;> omega)) hb1.size)
      | (go_at_call 39; refine (OP.out _ hB1).mono ?_; rintro e w2 ⟨rfl, hb2⟩; have hB1 : Below w.heap.size w w2 := (by first | exact hB1.trans (hb2.mono hB1.size) | exact hB1.trans (Below.undrew (hb2.mono hB1.size)) | exact hb2 | exact Below.trans (by go_grown) (hb2.mono (by simp <;> omega))); have hcG := fun (o : Nat) => hb2.cell (p := ⟨G, o, none⟩) (by first | assumption | (simp <;> omega)); have hfG := fun (o : Nat) => hb2.frozen (p := ⟨G, o, none⟩) (by first | assumption | (simp <;> omega)); have hzG : G < w2.heap.size := Nat.lt_of_lt_of_le (by first | assumption | (simp <;> omega)) hb2.size; have hcwheapsize := fun (o : Nat) => hb2.cell (p := ⟨w.heap.size, o, none⟩) (by first | assumption | (simp <;> omega)); have hfwheapsize := fun (o : Nat) => hb2.frozen (p := ⟨w.heap.size, o, none⟩) (by first | assumption | (simp <;> omega)); have hzwheapsize : w.heap.size < w2.heap.size := Nat.lt_of_lt_of_le (by first | assumption | (simp <;> omega)) hb2.size))
    refine wp_at (fun wE hE => ?_)
    have hp1 : Blk w2 w.heap.size 67 #[.pointer (some ⟨G, o, none⟩)] := Blk.below (Blk.below (Blk.new w _ _) hb1 (by simp)) hb2 (by have := hb1.size; simp at this; omega)
    have HGE := Lib.hid (show GW wE G o m (putS s k EntS.zero) by rw [hE]; exact (HG.out.below hB1 hl).setSlot k hk EntS.zero)
    have q1 : Blk wE w.heap.size 67 #[.pointer (some ⟨G, o, none⟩)] := by rw [hE]; exact ((hp1.other (by omega) _ _).other (by omega) _ _).other (by omega) _ _
    have hCE : ChgG G o w wE := by rw [hE]; exact (((ChgG.of_below hB1).set1 _ _ (by omega)).set1 _ _ (by omega)).set1 _ _ (by omega)
    have d0 := q1.cell 0
    have l1 := q1.lt
    clear hE hp1
    go_wp2_with (go_at_call 88; refine (MK.out _ HGE.out).mono ?_; rintro e w3 ⟨rfl, h3, c3⟩; have H3 := Lib.hid h3; clear h3)
    go_ret2
    exact ⟨rfl, H3.out, hCE.trans c3⟩
  · replace ho : openB m = false := by simpa using ho
    rw [ho]
    show Calls _ _ _ _ fun e w' => e = .returned (.tuple #[.bool true, .nilIface]) ∧ _
    have FE := Lib.hid (fun w' (hb : Below w.heap.size w w') => gfullE_any G o m s hm k true E w' (hg.below hb hg.lt) (he.below hb))
    rw [hf] at FE
    simp only [errN_0] at FE
    have OP := Lib.hid (fun w' (hb : Below w.heap.size w w') => gopen_any G o m s hm w' (hg.below hb hg.lt))
    have MK := Lib.hid (fun w' hw => gmark_any G o m k (goneN m) (putS s k EntS.zero) hm hk (by unfold goneN; split <;> decide) (by unfold goneN; split <;> decide) w' hw)
    rw [show goneN m = 254 by unfold goneN; rw [ho]; rfl] at *
    rw [ho] at OP
    have HG := Lib.hid hg
    have hl := hg.lt
    have hfw := hg.frozen
    obtain ⟨s0, s1, s2⟩ := hg.slot k hk
    have hk8 : (k : Int) < 8 := by omega
    clear hg he hf ho
    go_enter Tryd.func36, Tryd.ntmps36
    go_upto_region 6 with (first
      | (go_at_call 86; refine (FE.out _ (by go_grown)).mono ?_; rintro e w1 ⟨rfl, hb1⟩; have hB1 : Below w.heap.size w w1 := (by first | exact hB1.trans (hb1.mono hB1.size) | exact hB1.trans (Below.undrew (hb1.mono hB1.size)) | exact hb1 | exact Below.trans (by go_grown) (hb1.mono (by simp <;> omega))); have hcG := fun (o : Nat) => hb1.cell (p := ⟨G, o, none⟩) (by first | assumption | (simp <;> omega)); have hfG := fun (o : Nat) => hb1.frozen (p := ⟨G, o, none⟩) (by first | assumption | (simp <;> omega)); have hzG : G < w1.heap.size := Nat.lt_of_lt_of_le (by first | assumption | (simp <;> omega)) hb1.size; have hcwheapsize := fun (o : Nat) => hb1.cell (p := ⟨w.heap.size, o, none⟩) (by first | assumption | (simp <;> omega)); have hfwheapsize := fun (o : Nat) => hb1.frozen (p := ⟨w.heap.size, o, none⟩) (by first | assumption | (simp <;> omega)); have hzwheapsize : w.heap.size < w1.heap.size := Nat.lt_of_lt_of_le (by first | assumption | (simp <;> omega)) hb1.size)
      | (go_at_call 39; refine (OP.out _ hB1).mono ?_; rintro e w2 ⟨rfl, hb2⟩; have hB1 : Below w.heap.size w w2 := (by first | exact hB1.trans (hb2.mono hB1.size) | exact hB1.trans (Below.undrew (hb2.mono hB1.size)) | exact hb2 | exact Below.trans (by go_grown) (hb2.mono (by simp <;> omega))); have hcG := fun (o : Nat) => hb2.cell (p := ⟨G, o, none⟩) (by first | assumption | (simp <;> omega)); have hfG := fun (o : Nat) => hb2.frozen (p := ⟨G, o, none⟩) (by first | assumption | (simp <;> omega)); have hzG : G < w2.heap.size := Nat.lt_of_lt_of_le (by first | assumption | (simp <;> omega)) hb2.size; have hcwheapsize := fun (o : Nat) => hb2.cell (p := ⟨w.heap.size, o, none⟩) (by first | assumption | (simp <;> omega)); have hfwheapsize := fun (o : Nat) => hb2.frozen (p := ⟨w.heap.size, o, none⟩) (by first | assumption | (simp <;> omega)); have hzwheapsize : w.heap.size < w2.heap.size := Nat.lt_of_lt_of_le (by first | assumption | (simp <;> omega)) hb2.size))
    refine wp_at (fun wE hE => ?_)
    have hp1 : Blk w2 w.heap.size 67 #[.pointer (some ⟨G, o, none⟩)] := Blk.below (Blk.below (Blk.new w _ _) hb1 (by simp)) hb2 (by have := hb1.size; simp at this; omega)
    have HGE := Lib.hid (show GW wE G o m (putS s k EntS.zero) by rw [hE]; exact (HG.out.below hB1 hl).setSlot k hk EntS.zero)
    have q1 : Blk wE w.heap.size 67 #[.pointer (some ⟨G, o, none⟩)] := by rw [hE]; exact ((hp1.other (by omega) _ _).other (by omega) _ _).other (by omega) _ _
    have hCE : ChgG G o w wE := by rw [hE]; exact (((ChgG.of_below hB1).set1 _ _ (by omega)).set1 _ _ (by omega)).set1 _ _ (by omega)
    have d0 := q1.cell 0
    have l1 := q1.lt
    clear hE hp1
    go_wp2_with (go_at_call 88; refine (MK.out _ HGE.out).mono ?_; rintro e w3 ⟨rfl, h3, c3⟩; have H3 := Lib.hid h3; clear h3)
    go_ret2
    exact ⟨rfl, H3.out, hCE.trans c3⟩
set_option maxRecDepth 100000 in
set_option maxHeartbeats 4000000 in
theorem gerase_bad (G o m : Nat) (i : Int) (s : Nat → EntS) (hm : m < 18446744073709551616) (hf : fullE m i true ≠ 0) (E : Nat → Addr) (w : World) (hg : GW w G o m s) (he : EC w E [1, 5]) :
    Calls Tryd.prog 36 #[.agg #[.pointer (some ⟨G, o, none⟩)], .int .i64 i] w fun e w' => e = .returned (.tuple #[.bool false, errN E (fullE m i true)]) ∧ Below w.heap.size w w' := by
  have FE := Lib.hid (fun w' (hb : Below w.heap.size w w') => gfullE_any G o m s hm i true E w' (hg.below hb hg.lt) (he.below hb))
  simp only [errN_iface E _ hf] at FE ⊢
  generalize fullE m i true = q at *
  clear hg he hf
  go_enter Tryd.func36, Tryd.ntmps36
  go_wp2_with (go_at_call 86; refine (FE.out _ (by go_grown)).mono ?_; rintro e w1 ⟨rfl, hb1⟩; have hB1 : Below w.heap.size w w1 := (by first | exact hB1.trans (hb1.mono hB1.size) | exact hB1.trans (Below.undrew (hb1.mono hB1.size)) | exact hb1 | exact Below.trans (by go_grown) (hb1.mono (by simp <;> omega))); have hcwheapsize := fun (o : Nat) => hb1.cell (p := ⟨w.heap.size, o, none⟩) (by first | assumption | (simp <;> omega)); have hfwheapsize := fun (o : Nat) => hb1.frozen (p := ⟨w.heap.size, o, none⟩) (by first | assumption | (simp <;> omega)); have hzwheapsize : w.heap.size < w1.heap.size := Nat.lt_of_lt_of_le (by first | assumption | (simp <;> omega)) hb1.size)
  go_ret2
  exact ⟨rfl, hB1⟩
set_option maxRecDepth 100000 in
set_option maxHeartbeats 2000000 in
theorem glook_none (G o : Nat) (x y z : Int) (w : World) :
    Calls Tryd.prog 32 #[.pointer (some ⟨G, o, none⟩), .agg #[.pointer none, .int .i64 x, .int .i64 y, .int .i64 z]] w fun e w' => e = .returned (viewV G o) ∧ Below w.heap.size w w' := by
  unfold viewV
  go_enter Tryd.func32, Tryd.ntmps32
  go_wp2_with (go_at_call 29; refine (visit_none _ _ _ _).mono ?_; rintro e w1 ⟨rfl, hb1⟩; have hB1 : Below w.heap.size w w1 := (by first | exact hB1.trans (hb1.mono hB1.size) | exact hB1.trans (Below.undrew (hb1.mono hB1.size)) | exact hb1 | exact Below.trans (by go_grown) (hb1.mono (by simp <;> omega))); have hcwheapsize := fun (o : Nat) => hb1.cell (p := ⟨w.heap.size, o, none⟩) (by first | assumption | (simp <;> omega)); have hfwheapsize := fun (o : Nat) => hb1.frozen (p := ⟨w.heap.size, o, none⟩) (by first | assumption | (simp <;> omega)); have hzwheapsize : w.heap.size < w1.heap.size := Nat.lt_of_lt_of_le (by first | assumption | (simp <;> omega)) hb1.size; have hcwheapsize__1 := fun (o : Nat) => hb1.cell (p := ⟨w.heap.size + 1, o, none⟩) (by first | assumption | (simp <;> omega)); have hfwheapsize__1 := fun (o : Nat) => hb1.frozen (p := ⟨w.heap.size + 1, o, none⟩) (by first | assumption | (simp <;> omega)); have hzwheapsize__1 : w.heap.size + 1 < w1.heap.size := Nat.lt_of_lt_of_le (by first | assumption | (simp <;> omega)) hb1.size)
  have HRb : Blk w1 (w.heap.size + 1) 67 #[.pointer none] := Blk.below (Blk.new_at (by simp)) hb1 (by simp)
  have r0 := (HRb.set 0 (.pointer (some ⟨G, o, none⟩))).cell 0
  simp only [List.setIfInBounds_toArray, List.set_cons_zero, List.set_cons_succ, List.getElem?_toArray, List.getElem?_cons_zero, List.getElem?_cons_succ] at r0
  exact bodyPost_ret (v := .agg #[.pointer (some ⟨G, o, none⟩)]) (by simp [results, Tryd.results32, go_sem, r0]) rfl ⟨rfl, hB1.setCell (p := ⟨w.heap.size + 1, 0, none⟩) (by simp) _⟩
set_option maxRecDepth 100000 in
set_option maxHeartbeats 2000000 in
theorem glook_m (G o M : Nat) (mt : MeterS) (x y z : Int) (w : World) (hM : Blk w M 45 mt.cells) :
    Calls Tryd.prog 32 #[.pointer (some ⟨G, o, none⟩), .agg #[.pointer (some ⟨M, 0, none⟩), .int .i64 x, .int .i64 y, .int .i64 z]] w fun e w' => e = .returned (viewV G o) ∧ Blk w' M 45 (mt.add x y z).cells ∧ Chg (fun b => b = M) w w' := by
  unfold viewV
  have VS := Lib.hid (fun w' hb => visit_any mt x y z M 45 w' hb)
  have HM := Lib.hid hM
  have hl := hM.lt
  generalize mt.add x y z = mt' at *
  clear hM
  go_enter Tryd.func32, Tryd.ntmps32
  go_wp2_with (go_at_call 29; refine (VS.out _ ((HM.out.alloc _).alloc _)).mono ?_; rintro e w1 ⟨rfl, h1, c1⟩; have H1 := Lib.hid h1; have HRb : Blk w1 (w.heap.size + 1) 67 #[.pointer none] := Blk.chg (Blk.new_at (by simp)) c1 (by omega); have hRz := HRb.lt; have hRf := HRb.frozen; have hRc := HRb.cell 0; clear h1)
  have r0 := (HRb.set 0 (.pointer (some ⟨G, o, none⟩))).cell 0
  simp only [List.setIfInBounds_toArray, List.set_cons_zero, List.set_cons_succ, List.getElem?_toArray, List.getElem?_cons_zero, List.getElem?_cons_succ] at r0
  exact bodyPost_ret (v := .agg #[.pointer (some ⟨G, o, none⟩)]) (by simp [results, Tryd.results32, go_sem, r0]) rfl ⟨rfl, H1.out.other (by omega) _ _, ((Chg.of_below (by go_grown)).trans c1).setCell (.inr (by simp)) _⟩
def spliceA (A cs : Array Value) (o : Nat) : Array Value := (A.toList.take o ++ cs.toList ++ A.toList.drop (o + cs.size)).toArray
theorem spliceA_size (A cs : Array Value) (o : Nat) (h : o + cs.size ≤ A.size) : (spliceA A cs o).size = A.size := by
  simp [spliceA]; omega
theorem spliceA_in (A cs : Array Value) (o j : Nat) (h : o + cs.size ≤ A.size) (hj : j < cs.size) : (spliceA A cs o)[o + j]? = cs[j]? := by
  have h1 : (A.toList.take o).length = o := by simp; omega
  have h2 : j < cs.toList.length := by simpa using hj
  unfold spliceA
  rw [List.getElem?_toArray, List.append_assoc, List.getElem?_append_right (by omega), h1, Nat.add_sub_cancel_left, List.getElem?_append_left h2, Array.getElem?_toList]
theorem spliceA_out (A cs : Array Value) (o j : Nat) (h : o + cs.size ≤ A.size) (hj : j < o ∨ o + cs.size ≤ j) : (spliceA A cs o)[j]? = A[j]? := by
  have h1 : (A.toList.take o).length = o := by simp; omega
  have h2 : cs.toList.length = cs.size := by simp
  unfold spliceA
  rw [List.getElem?_toArray]
  rcases hj with hj | hj
  · rw [List.append_assoc, List.getElem?_append_left (by omega), List.getElem?_take_of_lt hj, Array.getElem?_toList]
  · rw [List.getElem?_append_right (by simp; omega), List.getElem?_drop, ← Array.getElem?_toList]
    congr 1
    simp; omega
theorem exec_storeAt {P : Program} {w : World} {a : Oper} {ρ : Operand → Value} {t : TypeId} {x y : Operand} (hop : a.op = .store t x y) {g off : Nat} {cs cur : Array Value} {T : TypeId} (hx : ρ x = .pointer (some ⟨g, off, none⟩)) (hy : ρ y = .agg cs)
    (hg : Blk w g T cur) (hs : off + cs.size ≤ cur.size) (hi : (sizeOf t).run P w = .ok cs.size w) (h1 : ∀ v ∈ cs.toList, v.oneCell' = true) :
    (execOp ρ a).run P w = .ok .skip (w.setRow g (spliceA cur cs off)) := by
  have h := run_storeCells_at P g off T cs.toList 0 cur w hg (by simpa using hs) h1
  simp only [Nat.add_zero, Array.length_toList] at h
  simp [execOp, hop, hx, hy, Instr.storeAt, Instr.sureAddr, storeVar, Sem.run_bind, hi, Value.cells, h, Result.andThen, spliceA]
theorem ChgG.setRow {G o : Nat} {a w : World} (h : ChgG G o a w) {T : TypeId} {A cs : Array Value} (hA : Blk w G T A) (hc : cs.size = 25) (ho : o + 25 ≤ A.size) : ChgG G o a (w.setRow G (spliceA A cs o)) :=
  ⟨h.chg.trans ⟨rfl, rfl, rfl, by simp [World.setRow], fun k _ hk => setRow_other w G _ hk⟩, fun T0 A0 h0 => by
    obtain ⟨A1, h1, s1, r1⟩ := h.rest T0 A0 h0
    have e : some (Obj.cells A1 T0 (0, 0)) = some (Obj.cells A T (0, 0)) := (show w.heap[G]? = _ from h1).symm.trans hA
    cases e
    exact ⟨_, Blk.setRow h1 _, by rw [spliceA_size _ _ _ (by omega), s1], fun j hj => by rw [spliceA_out _ _ _ _ (by omega) (by omega), r1 j hj]⟩⟩
theorem oper_unit {P : Program} {o : Oper} {a : Act} {w w' : World} {K : Act → World → Prop} {Q : Exit → Act → World → Prop} (hrun : (execOp a.eval o).run P w = .ok .skip w') (h : K (a.put o.dst undef) w') : o.wp P a w K Q := by
  unfold Oper.wp
  rw [hrun]
  exact h
set_option maxRecDepth 100000 in
set_option maxHeartbeats 4000000 in
theorem gclear_any (G o m : Nat) (s : Nat → EntS) (w : World) (hg : GW w G o m s) :
    Calls Tryd.prog 49 #[.agg #[.pointer (some ⟨G, o, none⟩)]] w fun e w' => e = .returned (.tuple #[]) ∧ GW w' G o (rep 128) (fun _ => EntS.zero) ∧ ChgG G o w w' := by
  obtain ⟨T, A, hA, hk⟩ := hg
  have ho : o + 25 ≤ A.size := by have := (Array.getElem?_eq_some_iff.1 (hk 24 (by decide))).1; omega
  have HG := Lib.hid hA
  have hl := hA.lt
  have hfw := fun j => hA.frozen j
  clear hA hk
  go_enter Tryd.func49, Tryd.ntmps49
  go_wp2
  refine wp_region_seq (fun _ => False) #[⟨0, 0, 4, 2, 0⟩, ⟨1, 1, 8, 4, 1⟩, ⟨0, 0, 16, 0, 2⟩, ⟨4, 4, 32, 16, 0⟩, ⟨8, 12, 64, 32, 1⟩, ⟨31, 31, 128, 8, 0⟩, ⟨63, 63, 0, 192, 3⟩] 18 [(0, 0), (1, 1), (2, 2), (3, 0), (4, 1), (5, 0), (6, 3)] (by kernel_rfl) (by kernel_rfl) (by kernel_rfl) (by kernel_rfl) (by kernel_rfl) (by kernel_rfl) (fun c a d v w h => by cases d <;> exact h) ?_
  refine seq_calc (by simp only [List.getElem?_toArray, List.getElem?_cons_succ, List.getElem?_cons_zero]; rfl) (by rfl) (fun u => by go_simp <;> with_reducible rfl) ?_
  try simp only [Act.put, List.setIfInBounds_toArray, List.set_cons_zero, List.set_cons_succ]
  refine seq_load1 (by simp only [List.getElem?_toArray, List.getElem?_cons_succ, List.getElem?_cons_zero]; rfl) (by rfl) rfl rfl Tryd.underlying63 rfl (by go_simp <;> with_reducible rfl) (by first | exact id | assumption | (simp; done) | (simp; omega)) ?_
  try simp only [Act.put, List.setIfInBounds_toArray, List.set_cons_zero, List.set_cons_succ]
  refine seq_do (by simp only [List.getElem?_toArray, List.getElem?_cons_succ, List.getElem?_cons_zero]; rfl) (by rfl) (fun K hK => ?_); go_wp2_with (go_at_call 31; refine (gnew_any _).mono ?_; rintro e w1 ⟨rfl, h1, hb1⟩; have hr := gnew_whole (B := w.heap.size + 1) (by simpa using h1); clear h1; have hG1 := Lib.hid (HG.out.below (Below.trans (show Below w.heap.size w _ from by go_grown) (hb1.mono (by simp))) hl); have hB1 : Below w.heap.size w w1 := (by first | exact hB1.trans (hb1.mono hB1.size) | exact hB1.trans (Below.undrew (hb1.mono hB1.size)) | exact hb1 | exact Below.trans (by go_grown) (hb1.mono (by simp <;> omega))); have hcG := fun (o : Nat) => hb1.cell (p := ⟨G, o, none⟩) (by first | assumption | (simp <;> omega)); have hfG := fun (o : Nat) => hb1.frozen (p := ⟨G, o, none⟩) (by first | assumption | (simp <;> omega)); have hzG : G < w1.heap.size := Nat.lt_of_lt_of_le (by first | assumption | (simp <;> omega)) hb1.size; have hcwheapsize := fun (o : Nat) => hb1.cell (p := ⟨w.heap.size, o, none⟩) (by first | assumption | (simp <;> omega)); have hfwheapsize := fun (o : Nat) => hb1.frozen (p := ⟨w.heap.size, o, none⟩) (by first | assumption | (simp <;> omega)); have hzwheapsize : w.heap.size < w1.heap.size := Nat.lt_of_lt_of_le (by first | assumption | (simp <;> omega)) hb1.size); refine hK.out _ _ (by first | (with_reducible exact Chg.refl _ _) | (with_reducible assumption) | (refine Chg.of_below ?_; with_reducible assumption) | (with_reducible exact (Chg.refl _ _).alloc _) | (with_reducible exact (Chg.refl _ _).drewN _) | (with_reducible exact (Chg.refl _ _).drew) | exact ⟨rfl, rfl, rfl, Nat.le_refl _, fun _ _ _ => rfl⟩) ?_; clear hK K
  try simp only [Act.put, List.setIfInBounds_toArray, List.set_cons_zero, List.set_cons_succ]
  refine seq_calc (by simp only [List.getElem?_toArray, List.getElem?_cons_succ, List.getElem?_cons_zero]; rfl) (by rfl) (fun u => by go_simp <;> with_reducible rfl) ?_
  try simp only [Act.put, List.setIfInBounds_toArray, List.set_cons_zero, List.set_cons_succ]
  refine seq_loads [_, _, _, _, _, _, _, _, _, _, _, _, _, _, _, _, _, _, _, _, _, _, _, _, _] (by simp only [List.getElem?_toArray, List.getElem?_cons_succ, List.getElem?_cons_zero]; rfl) (by rfl) rfl rfl Tryd.underlying100 rfl (by kernel_rfl) (by first | (with_reducible assumption) | (refine cellsAre_range ?_; simp only [cellsAre]; (repeat' (first | exact True.intro | apply And.intro)); all_goals (go_simp <;> with_reducible rfl))) (by first | exact id | assumption | (simp; done) | (simp; omega)) ?_
  try simp only [Act.put, List.setIfInBounds_toArray, List.set_cons_zero, List.set_cons_succ]
  refine seq_calc (by simp only [List.getElem?_toArray, List.getElem?_cons_succ, List.getElem?_cons_zero]; rfl) (by rfl) (fun u => by go_simp <;> with_reducible rfl) ?_
  try simp only [Act.put, List.setIfInBounds_toArray, List.set_cons_zero, List.set_cons_succ]
  refine seq_last (by simp only [List.getElem?_toArray, List.getElem?_cons_succ, List.getElem?_cons_zero]; rfl) (by rfl) (fun K hK => ?_); refine oper_unit (exec_storeAt (t := 100) (cs := #[.int .u64 ((rep 128 : Nat) : Int), .int .u64 0, .int .u64 0, .int .u64 0, .int .u64 0, .int .u64 0, .int .u64 0, .int .u64 0, .int .u64 0, .int .u64 0, .int .u64 0, .int .u64 0, .int .u64 0, .int .u64 0, .int .u64 0, .int .u64 0, .int .u64 0, .int .u64 0, .int .u64 0, .int .u64 0, .int .u64 0, .int .u64 0, .int .u64 0, .int .u64 0, .int .u64 0]) rfl rfl rfl hG1.out ho (Tryd.sizeOf100 _) (by simp [Value.oneCell'])) ?_; refine hK.out _ _ ?_; clear hK K
  try simp only [Act.put, List.setIfInBounds_toArray, List.set_cons_zero, List.set_cons_succ]
  refine seq_nil ?_
  go_wp2
  ((try simp only [Exit.inBlock, Exit.then]); first | refine bodyPost_end (results_none rfl _ _ _) rfl ?_ | refine bodyPost_ret (results_none rfl _ _ _) rfl ?_)
  exact ⟨rfl, ⟨_, _, Blk.setRow hG1.out _, fun j hj => by rw [spliceA_in _ _ _ _ ho hj, ← gnew_cells]; exact arrV_get _ _ _ hj⟩, (ChgG.of_below hB1).setRow hG1.out rfl ho⟩
end Go.Proofs.YtcmjddkljmfklaaDoor
