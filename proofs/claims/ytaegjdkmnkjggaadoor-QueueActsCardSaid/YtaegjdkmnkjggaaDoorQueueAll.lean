/- The queue's iterator, and the law's walk over it. No condition. -/
import Derived.Test.YtaegjdkmnkjggaaDoorQueueActs
import Derived.Test.YtaegjdkmnkjggaaDoorRangeM
namespace Go.Proofs.YtaegjdkmnkjggaaDoor
set_option linter.unusedVariables false
set_option linter.unusedSimpArgs false
open Go.RowKit Go.Proofs
attribute [local go_sem] Oper.semAt_some wide_depth round_depth wide_fn round_fn

theorem qall_any (B : Nat) (w : World) :
    Calls Tryd.prog 75 #[.pointer (some ⟨B, 0, none⟩)] w fun e w' => e = .returned (.func (.func 93) #[] #[.pointer (some ⟨w.heap.size, 0, none⟩)]) ∧ w.alloc (.cells #[.pointer (some ⟨B, 0, none⟩)] 24) = w' := by
  have hmf : ∀ (fn : Fn) (first cap : Array Value) (w : World), (Instr.makeFunc fn first cap).run Tryd.prog w = .ok (.func fn first cap) w := fun _ _ _ _ => rfl
  go_enter Tryd.func75, Tryd.ntmps75
  go_wp2
  go_ret
  exact ⟨rfl, rfl⟩
theorem enters_qall (args : Array Value) (w : World) : (callFunc 93 args).run Tryd.prog w = .ok (.enter 93 args) w :=
  enters_of Tryd.func93 (by kernel_rfl) rfl args w
theorem grown_of_below {w w' : World} (h : Below w.heap.size w w') : w.grownBy w' none := ⟨h.os, h.tape, h.output, h.size, fun k hk _ => h.block k hk⟩

set_option maxRecDepth 100000 in
set_option maxHeartbeats 1600000 in
theorem qall1_gives (q : QSt) (B R Bc : Nat) (hq : q.Ok) (w : World) (hbox : w.cell? ⟨Bc, 0, none⟩ = some (.pointer (some ⟨B, 0, none⟩))) (h : QW w B R q) :
    GivesM Tryd.prog 93 #[.pointer (some ⟨Bc, 0, none⟩)] (fun i => #[.int .i64 (i : Int), .int .i64 (q.item i)]) q.many (fun b => b = Bc ∨ b = B ∨ b = R) w := by
  intro l J Jx W hW hJg hY _ M0 h0 hM0
  have hQ : QW W B R q := ⟨(hW B (by simp)).trans h.head, (hW R (by simp)).trans h.ring, h.ne⟩
  have cb : W.cell? ⟨Bc, 0, none⟩ = some (.pointer (some ⟨B, 0, none⟩)) := (hW.cell (a := ⟨Bc, 0, none⟩) (by simp)).trans hbox
  have hl := Lib.hid (qlist_any q B R hq W hQ)
  have hll := Lib.hid q.list_length
  have HG := Lib.hid hJg
  have HY := Lib.hid hY
  have HM0 := Lib.hid hM0
  have hmz : q.many ≤ 40 := Nat.le_trans hq.many hq.most
  clear h hbox hQ hq hJg hY hM0 hW
  refine callsIn_of_wp Tryd.func93 rfl trivial ?_ rfl
  simp only [Tryd.ntmps93, List.size_toArray, List.length_cons, List.length_nil, Nat.reduceAdd, Nat.reduceSub, Array.replicate_succ, Array.replicate_zero, List.push_toArray, List.append_toArray, List.nil_append, List.cons_append]
  gi_wp2_with (gi_at_call 73; refine (callsIn_wide.2 hl.out).mono ?_; rintro e w1 ⟨a, cap, rfl, hcap, hbase, hr, hb1⟩; replace hr := Lib.hid hr; replace hbase := Lib.hid hbase; rw [hll.out] at hcap ⊢)
  have HJ1 := Lib.hid (HG.out _ _ _ _ h0 (grown_of_below hb1))
  have hz1 := hb1.size
  gi_loopw [8] (fun v8 wr => ∃ (k : Nat) (M : Nat → Prop), k ≤ q.many ∧ v8 = .int .i64 (k : Int) ∧ J k M wr ∧ Moves M0 M w1 wr) (fun v8 _ => q.many - (intOf v8).toNat)
  case atStart => exact ⟨0, M0, Nat.zero_le _, rfl, HJ1.out, Moves.refl _ _⟩
  case round =>
    obtain ⟨k, M, hk, rfl, hJ, hmv⟩ := hrel
    have HMV := Lib.hid hmv
    clear hmv
    by_cases hlt : k < q.many
    · have hlt' : (k : Int) < (q.many : Int) := by omega
      obtain ⟨-, hx⟩ := hr.out.opened
      obtain ⟨b, off, rfl, hc⟩ := hx (fun e => by have := hll.out; rw [e] at this; simp at this; omega)
      have hbb : W.heap.size ≤ b := hbase.out _ rfl
      have hck := hc k (by rw [hll.out]; exact hlt)
      have hit : q.list[k]'(by rw [hll.out]; exact hlt) = q.item k := by
        have := q.list_get k hlt
        rw [List.getElem?_eq_getElem (by rw [hll.out]; exact hlt)] at this
        exact Option.some.inj this
      rw [hit] at hck
      have hbl := World.block_lt_of_cell? _ _ hck
      have hcell : wr.cell? ⟨b, off + k, none⟩ = some (.int .i64 (q.item k)) := (World.cell?_of_block (a := ⟨b, off + k, none⟩) (HMV.out.same b hbl (fun e => by have := (HM0.out b e).1; omega))).trans hck
      clear hc hck hx hit
      obtain ⟨fn, tmps, assign, body, hy, hR⟩ := HY.out k M wr hlt hJ
      gi_wp2
      refine hR.mono ?_
      rintro e W' (⟨rfl, M', hJ', hB'⟩ | ⟨rfl, hx⟩)
      · have HMV2 := Lib.hid (HMV.out.trans hB')
        clear hB'
        gi_wp2
        go_roundw
        case rel => exact ⟨k + 1, M', by omega, by go_num, hJ', HMV2.out⟩
        case measure => simp [intOf]; omega
      · gi_wp2
        refine bodyPost_ret (results_none rfl _ _ _) rfl ?_
        exact ⟨⟨_, rfl⟩, .inr hx⟩
    · obtain rfl : k = q.many := by omega
      gi_wp2
      go_end0
      exact ⟨⟨_, rfl⟩, .inl ⟨M, hJ⟩⟩

theorem results_cell2 {P : Program} {fn : Func} {tmps : Array Value} {W : World} {p p' : Tmp} {ty ty' : TypeId} {v v' : Value} {a a' : Addr} (hres : fn.results = #[.cell p ty, .cell p' ty']) (hp : tmps.getD p undef = .pointer (some a)) (hp' : tmps.getD p' undef = .pointer (some a'))
    (hc : W.cell? a = some v) (hc' : W.cell? a' = some v') (hag : ∀ w, (isAgg ty).run P w = .ok false w) (hag' : ∀ w, (isAgg ty').run P w = .ok false w) : (results fn tmps).run P W = .ok (.tuple #[v, v']) W := by
  have h1 : tmps[p]?.getD undef = .pointer (some a) := by simpa using hp
  have h2 : tmps[p']?.getD undef = .pointer (some a') := by simpa using hp'
  simp [results, hres, h1, h2, asAddr, loadVar, Sem.run_bind, hag, hag', Result.andThen, hc, hc', go_sem]
/-- all numbers, and that their places are right -/
def AllL (xs : List Int) (w : World) (e : Ending) (w' : World) : Prop := ∃ v, e = .returned (.tuple #[v, .bool true]) ∧ ReadsInts w' v xs ∧ Below w.heap.size w w'
theorem ownsRow_not_mark {w : World} {base : Nat} {e : TypeId} {size n D : Nat} {v : Value} {xs : List Value} (h : w.ownsRow base e size v n xs) (hD : w.heap[D]? = some (.deferred (some []))) : some D ≠ v.ownBlock := by
  rcases h.2 with ⟨rfl, _⟩ | ⟨g, cap, cur, rfl, _, hg, _⟩
  · simp [Value.ownBlock]
  · intro e'
    obtain rfl : D = g := by simpa [Value.ownBlock] using e'
    rw [hD] at hg; cases hg
set_option maxRecDepth 100000 in
set_option maxHeartbeats 4000000 in
theorem lawAll_any (q : QSt) (B R : Nat) (hq : q.Ok) (w0 : World) (h : QW w0 B R q) :
    Calls Tryd.prog 19 #[.pointer (some ⟨B, 0, none⟩)] w0 (AllL q.list w0) := by
  obtain ⟨i0, hi, hz0, hz1, hz2⟩ := info_parts info3q
  have H := Lib.hid h
  have HQ := Lib.hid hq
  have hm := Nat.le_trans hq.many hq.most
  have hBz := h.head.lt
  have hRz := h.ring.lt
  clear h hq
  refine (callsIn_wide (n := 0)).1 ?_
  refine callsIn_of_wp_marks Tryd.func19 rfl trivial ?_
  simp only [Tryd.ntmps19, List.size_toArray, List.length_cons, List.length_nil, Nat.reduceAdd, Nat.reduceSub, Array.replicate_succ, Array.replicate_zero, List.push_toArray, List.append_toArray, List.nil_append, List.cons_append]
  refine wpIn_wide.2 ?_
  go_wp2_with (go_at_call 75; refine (qall_any _ _).mono ?_; rintro e w' ⟨rfl, rfl⟩)
  refine wp_at (fun wL hwL => ?_)
  obtain ⟨n0, hn0⟩ : ∃ n, n = w0.heap.size := ⟨_, rfl⟩
  rw [← hn0] at hwL hBz hRz ⊢
  have bA : Blk wL n0 22 #[.slice none 0 0] := by rw [hwL, hn0]; exact ((((Blk.new w0 _ _).alloc _).alloc _).alloc _).alloc _
  have bB : Blk wL (n0 + 1) 4 #[.bool false] := by rw [hwL]; exact (((Blk.new_at (by simp [hn0])).alloc _).alloc _).alloc _
  have bC : Blk wL (n0 + 1 + 1) 3 #[] := by rw [hwL]; exact ((Blk.new_at (by simp [hn0])).alloc _).alloc _
  have bD : Blk wL (n0 + 1 + 1 + 1) 22 #[.slice (some ⟨n0 + 1 + 1, 0, none⟩) 0 0] := by rw [hwL]; exact (Blk.new_at (by simp [hn0])).alloc _
  have bE : Blk wL (n0 + 1 + 1 + 1 + 1) 24 #[.pointer (some ⟨B, 0, none⟩)] := by rw [hwL]; exact Blk.new_at (by simp [hn0])
  have hzL : wL.heap.size = n0 + 5 := by rw [hwL]; simp [hn0]
  have hBL : Below n0 w0 wL := by rw [hwL, hn0]; exact ((((((Below.refl _ _).alloc (Nat.le_refl _) _).alloc (by simp) _).alloc (by simp <;> omega) _).alloc (by simp <;> omega) _).alloc (by simp <;> omega) _)
  have HGV := Lib.hid (qall1_gives q B R (n0 + 1 + 1 + 1 + 1) HQ.out wL (bE.cell 0) (H.out.below' hBL hBz hRz))
  have HS := Lib.hid (fun k => range_snoc (fun i => Value.int .i64 (q.item i)) k)
  replace hwL := Lib.hid hwL
  have HA := Lib.hid bA
  have HB := Lib.hid bB
  have HC := Lib.hid bC
  have HD := Lib.hid bD
  have HBL := Lib.hid hBL
  replace hn0 := Lib.hid hn0
  clear bA bB bC bD bE hBL
  refine (wpIn_wide (n := 0)).1 ?_
  refine wp_rangeM rfl enters_qall HGV.out (fun b hb => by omega) (fun _ => rfl)
    (fun i M W => (∃ v, Boxed W (n0 + 1 + 1 + 1) 22 v ∧ W.ownsRow (n0 + 1 + 1) 3 1 v i ((List.range i).map fun i => Value.int .i64 (q.item i)) ∧ ∀ b, M b ↔ b = n0 + 1 + 1 + 1 ∨ v.ownBlock = some b) ∧ (Blk W n0 22 #[.slice none 0 0] ∧ Blk W (n0 + 1) 4 #[.bool false]) ∧ Below n0 w0 W)
    (fun _ _ => False)
    (OwnFrom.and (Own.from (holdsRow_own (n0 + 1 + 1) (n0 + 1 + 1 + 1) 22 3 1 (fun p : Nat × (Nat → Prop) => p.1) (fun p => (List.range p.1).map fun i => Value.int .i64 (q.item i)) (fun p v => ∀ b, p.2 b ↔ b = n0 + 1 + 1 + 1 ∨ v.ownBlock = some b)) _) (OwnFrom.and (OwnFrom.and (Own.from (blk_own _ _ _) _) (Own.from (blk_own _ _ _) _)) (ownFrom_below (by rw [hn0.out]; exact Nat.le_refl _) (by omega))))
    (fun _ _ _ _ hs _ _ => hs)
    (fun b => b = n0 + 1 + 1 + 1 ∨ b = n0 + 1 + 1)
    ?start (fun b hb => ⟨by omega, by omega⟩)
    (fun T i a => a = { tmps := (((T.setIfInBounds 10 (.int .i64 (i : Int))).setIfInBounds 11 (.int .i64 (q.item i))).setIfInBounds 5 (.int .i64 (i : Int))).setIfInBounds 6 (.int .i64 (q.item i)), defers := [] })
    ?assign ?body ?done ?stop
  case start =>
    refine ⟨⟨_, HD.out, ⟨by simp, .inr ⟨n0 + 1 + 1, 0, #[], rfl, Nat.le_refl _, HC.out, by simp, by decide, rfl, by simp⟩⟩, fun b => ?_⟩, ⟨HA.out, HB.out⟩, HBL.out⟩
    simp [Value.ownBlock, eq_comm]
  case assign =>
    intro l i M W K hi hlt hK
    gi_wp2
    all_goals exact hK _ rfl
  case body =>
    rintro l i M a₁ W ⟨⟨v, hv, hrow, hM⟩, ⟨hA, hB⟩, hBw⟩ hlt hsz rfl
    have KA := Lib.hid hA
    have KB := Lib.hid hB
    have KM := Lib.hid hM
    clear hA hB hM
    obtain ⟨av, cv, rfl⟩ := ownsRow_slice hrow
    have hc := hv.cell
    have hi8 : (i : Int) < 40 := by omega
    have hne : ((i : Int) != (i : Int)) = false := by simp
    simp only [List.setIfInBounds_toArray, List.set_cons_succ, List.set_cons_zero]
    gi_wp2_with (gi_at_builtin; refine wpListIn_append_own2 _ rfl _ _ 22 rfl (n0 + 1 + 1) 3 i0 (.int .i64 0) 1 8 Tryd.underlying22 hi hz0 hz1 hz2 rfl (by decide) _ _ _ rfl (hrow.alloc _) ⟨W.heap.size, 0, none⟩ 1 1 [.int .i64 (q.item i)] rfl rfl (cell_one_new _ _ _) (by simp [Value.oneCell']) (by unfold maxLen; omega) (by omega) (by simp; omega) (by decide) ?_; intro v' w1 hown' hgrow hwhere; obtain ⟨g', cap', rfl⟩ := ownsRow_succ hown'; obtain ⟨hv1, hv2, hr2, hk2, hb2⟩ := hv.appended (by decide) hrow (by omega) (by omega) hown' hgrow; have hA1 := Lib.hid (((KA.out.alloc _).kept hgrow ((KA.out.boxed).not_row (by decide) hrow)).other (B' := n0 + 1 + 1 + 1) (by omega) 0 (.slice (some ⟨g', 0, none⟩) (i + 1) cap')); have hB1 := Lib.hid (((KB.out.alloc _).kept hgrow ((KB.out.boxed).not_row (by decide) hrow)).other (B' := n0 + 1 + 1 + 1) (by omega) 0 (.slice (some ⟨g', 0, none⟩) (i + 1) cap')); have hc1 := hv1.cell; have hf1 := hv1.frozen; replace hwhere := Lib.hid hwhere; replace hgrow := Lib.hid hgrow)
    refine ⟨fun b => b = n0 + 1 + 1 + 1 ∨ b = g', ⟨⟨_, hv2, by rw [HS.out]; exact hr2, fun b => by simp [Value.ownBlock, eq_comm]⟩, ⟨hA1.out, hB1.out⟩, hBw.trans (hb2.mono (by omega))⟩, ⟨hk2.size, ?_, ?_⟩⟩
    · intro b hb hnb
      have hnb' : b ≠ n0 + 1 + 1 + 1 ∧ ¬ (Value.slice av i cv).ownBlock = some b := by
        have := KM.out b
        exact ⟨fun e => hnb (this.2 (.inl e)), fun e => hnb (this.2 (.inr e))⟩
      rw [Below.heap_setCell _ _ _ _ hnb'.1, hgrow.out.block b (by simp; omega) (fun e => hnb'.2 e.symm)]
      exact Below.heap_alloc _ _ _ hb
    · rintro b (rfl | rfl)
      · exact .inl ((KM.out _).2 (.inl rfl))
      · rcases hwhere.out with h | h
        · exact .inl ((KM.out _).2 (.inr h.symm))
        · simp [Value.ownBlock] at h
          exact .inr (by omega)
  case done =>
    rintro D M w hD ⟨⟨v, hv, hrow, hM⟩, ⟨hA, hB⟩, hBw⟩ hK hMD
    have hl : (List.range q.many).map (fun i => Value.int .i64 (q.item i)) = q.list.map (Value.int .i64) := by simp [QSt.list, Function.comp_def]
    rw [hl] at hrow
    have r7 : ReadsInts w v q.list := readsInts_own hrow
    have hc := hv.cell
    have KA := Lib.hid hA
    have KB := Lib.hid hB
    have HK := Lib.hid hK
    have a0 := hA.cell 0
    have a1 := hA.frozen 0
    have b0 := hB.cell 0
    have b1 := hB.frozen 0
    have R7 := Lib.hid r7
    obtain ⟨av, cv, rfl⟩ := ownsRow_slice hrow
    have HROW := Lib.hid hrow
    have hDz := (Array.getElem?_eq_some_iff.1 hK).1
    clear hA hB hK hrow hM r7 hl
    go_wp2
    have k1 := (KeepsOthers.setCell w ⟨n0, 0, none⟩ (.slice av q.many cv)).same D _ HK.out rfl
    have k2 := (KeepsOthers.setCell _ ⟨n0 + 1, 0, none⟩ (.bool true)).same D _ k1 rfl
    have hn1 : some n0 ≠ (Value.slice av q.many cv).ownBlock := (KA.out.boxed).not_row (by decide) HROW.out
    have hn2 : some (n0 + 1) ≠ (Value.slice av q.many cv).ownBlock := (KB.out.boxed).not_row (by decide) HROW.out
    have hn3 : some D ≠ (Value.slice av q.many cv).ownBlock := ownsRow_not_mark HROW.out HK.out
    have e0 := ((HROW.out.kept (grownBy_setCell' w n0 (.slice av q.many cv)) (.inr hn1.symm)).kept (grownBy_setCell' _ (n0 + 1) (.bool true)) (.inr hn2.symm)).kept (grownBy_putObj' _ D (.deferred none)) (.inr hn3.symm)
    have e1 := ((KA.out.set 0 (.slice av q.many cv)).other (B' := n0 + 1) (by omega) 0 (.bool true)).putObj (l := D) (by omega) (.deferred none)
    have e2 := (((KB.out.other (B' := n0) (by omega) 0 (.slice av q.many cv))).set 0 (.bool true)).putObj (l := D) (by omega) (.deferred none)
    refine end_mark (v := .tuple #[.slice av q.many cv, .bool true]) k2 (results_cell2 rfl rfl rfl (e1.cell 0) (e2.cell 0) Tryd.isAgg22 Tryd.isAgg4) ⟨_, rfl, readsInts_own e0, ?_⟩ _ (.inl rfl)
    rw [← hn0.out]
    exact (((hBw.setCell (p := ⟨n0, 0, none⟩) (Nat.le_refl _) _)).setCell (p := ⟨n0 + 1, 0, none⟩) (by simp) _).trans (below_putObj _ (by omega) k2)
  case stop =>
    rintro D c W hD h _
    exact h.elim
end Go.Proofs.YtaegjdkmnkjggaaDoor
