/- Package copyist. Condition: the errors' cells where it says so. -/
import Derived.Test.YtplimhllfbdocaaDoorDirActs
import Derived.Test.YtplimhllfbdocaaDoorMeter
import Derived.Test.YtplimhllfbdocaaDoorTrapAct
import Derived.LoopN
namespace Go.Proofs.YtplimhllfbdocaaDoor
set_option linter.unusedVariables false
set_option linter.unusedSimpArgs false
open Go.RowKit Go.Proofs

/-! ### plain -/
/-- the new directory's entries: of the first nx the values g, twice each -/
def dblF (n nx : Nat) (g : Nat → Int) : List Int := (List.range (2 * n)).map fun j => if j < 2 * nx then g (j / 2) else 0
theorem dblF_len (n nx : Nat) (g : Nat → Int) : (dblF n nx g).length = 2 * n := by simp [dblF]
theorem dblF_get (n nx : Nat) (g : Nat → Int) (j : Nat) (hj : j < 2 * n) : (dblF n nx g).getD j 0 = if j < 2 * nx then g (j / 2) else 0 := by
  unfold dblF; rw [List.getD_eq_getElem?_getD]; simp [hj]
theorem set_getD (l : List Int) (k j : Nat) (v : Int) (hk : k < l.length) : (l.set k v).getD j 0 = if j = k then v else l.getD j 0 := by
  rw [List.getD_eq_getElem?_getD, List.getD_eq_getElem?_getD, List.getElem?_set]
  by_cases e : k = j
  · subst e; simp [hk]
  · rw [if_neg e, if_neg (fun h => e h.symm)]
theorem dblF_set (n nx i : Nat) (g : Nat → Int) (v : Int) (hi : i < nx) (hn : nx ≤ n) : ((dblF n nx g).set (2 * i) v).set (2 * i + 1) v = dblF n nx (fun q => if q = i then v else g q) := by
  apply list_ext_getD
  · rw [List.length_set, List.length_set, dblF_len, dblF_len]
  intro j hj
  rw [List.length_set, List.length_set, dblF_len] at hj
  rw [set_getD _ _ _ _ (by rw [List.length_set, dblF_len]; omega), set_getD _ _ _ _ (by rw [dblF_len]; omega), dblF_get _ _ _ _ hj, dblF_get _ _ _ _ hj]
  by_cases e1 : j = 2 * i + 1
  · rw [if_pos e1, if_pos (by omega), if_pos (by omega)]
  · rw [if_neg e1]
    by_cases e2 : j = 2 * i
    · rw [if_pos e2, if_pos (by omega), if_pos (by omega)]
    · rw [if_neg e2]
      by_cases e3 : j < 2 * nx
      · rw [if_pos e3, if_pos e3, if_neg (by omega)]
      · rw [if_neg e3, if_neg e3]
theorem dblF_step (n nx : Nat) (g : Nat → Int) (hn : nx < n) : ((dblF n nx g).set (2 * nx) (g nx)).set (2 * nx + 1) (g nx) = dblF n (nx + 1) g := by
  apply list_ext_getD
  · rw [List.length_set, List.length_set, dblF_len, dblF_len]
  intro j hj
  rw [List.length_set, List.length_set, dblF_len] at hj
  rw [set_getD _ _ _ _ (by rw [List.length_set, dblF_len]; omega), set_getD _ _ _ _ (by rw [dblF_len]; omega), dblF_get _ _ _ _ hj, dblF_get _ _ _ _ hj]
  by_cases e1 : j = 2 * nx + 1
  · rw [if_pos e1, if_pos (by omega), show j / 2 = nx by omega]
  · rw [if_neg e1]
    by_cases e2 : j = 2 * nx
    · rw [if_pos e2, if_pos (by omega), show j / 2 = nx by omega]
    · rw [if_neg e2]
      by_cases e3 : j < 2 * nx
      · rw [if_pos e3, if_pos (by omega)]
      · rw [if_neg e3, if_neg (by omega)]
theorem dblF_zero (n : Nat) (g : Nat → Int) : dblF n 0 g = List.replicate (2 * n) 0 := by
  unfold dblF; simp [List.map_const']
theorem dblF_congr {n nx : Nat} {g g' : Nat → Int} (h : ∀ q, q < nx → g q = g' q) : dblF n nx g = dblF n nx g' := by
  unfold dblF
  apply List.map_congr_left
  intro j _
  by_cases e : j < 2 * nx
  · rw [if_pos e, if_pos e]; exact h _ (by omega)
  · rw [if_neg e, if_neg e]
/-- the values of a list -/
def gD (es : List Int) (q : Nat) : Int := es.getD q 0

/-! ### a copyist in memory -/
def cHead (B F nx : Nat) (tk : Bool) : Array Value := #[.pointer (some ⟨B, 0, none⟩), .pointer (some ⟨F, 0, none⟩), .int .i64 (nx : Int), .bool tk]
structure CW (w : World) (C B R F S d : Nat) (es : List Int) (nx : Nat) (tk : Bool) : Prop where
  head : Blk w C 183 (cHead B F nx tk)
  old : DW w B R d es
  fresh : DW w F S (d + 1) (dblF es.length nx (gD es))
  le : nx ≤ es.length
  pos : ∀ q, 0 ≤ gD es q
  n1 : C ≠ B
  n2 : C ≠ R
  n3 : C ≠ F
  n4 : C ≠ S
  n5 : B ≠ F
  n6 : B ≠ S
  n7 : R ≠ F
  n8 : R ≠ S
theorem CW.below {w w' : World} {C B R F S d : Nat} {es : List Int} {nx : Nat} {tk : Bool} (h : CW w C B R F S d es nx tk) (hb : Below w.heap.size w w') : CW w' C B R F S d es nx tk :=
  ⟨h.head.below hb h.head.lt, h.old.below hb, h.fresh.below hb, h.le, h.pos, h.n1, h.n2, h.n3, h.n4, h.n5, h.n6, h.n7, h.n8⟩
theorem CW.chg {X : Nat → Prop} {w w' : World} {C B R F S d : Nat} {es : List Int} {nx : Nat} {tk : Bool} (h : CW w C B R F S d es nx tk) (hb : Chg X w w') (x1 : ¬ X C) (x2 : ¬ X B) (x3 : ¬ X R) (x4 : ¬ X F) (x5 : ¬ X S) : CW w' C B R F S d es nx tk :=
  ⟨h.head.chg hb x1, h.old.chg hb x2 x3, h.fresh.chg hb x4 x5, h.le, h.pos, h.n1, h.n2, h.n3, h.n4, h.n5, h.n6, h.n7, h.n8⟩
theorem cHead_cells {w : World} {C B F nx : Nat} {T : TypeId} {tk : Bool} (h : Blk w C T (cHead B F nx tk)) :
    (w.cell? ⟨C, 0, none⟩ = some (.pointer (some ⟨B, 0, none⟩)) ∧ w.cell? ⟨C, 1, none⟩ = some (.pointer (some ⟨F, 0, none⟩)) ∧ w.cell? ⟨C, 2, none⟩ = some (.int .i64 (nx : Int)) ∧ w.cell? ⟨C, 3, none⟩ = some (.bool tk)) ∧
    (w.frozen? ⟨C, 2, none⟩ = false ∧ w.frozen? ⟨C, 3, none⟩ = false) := ⟨⟨h.cell 0, h.cell 1, h.cell 2, h.cell 3⟩, h.frozen 2, h.frozen 3⟩
theorem dput_chg (B R d : Nat) (es : List Int) (i : Nat) (a id : Int) (ha : a = (i : Int)) (hi : i < es.length) (h0 : 0 ≤ id) (w : World) (hD : DW w B R d es) :
    Calls Tryd.prog 119 #[.pointer (some ⟨B, 0, none⟩), .int .i64 a, .int .i64 id] w fun e w' => e = .returned .nilIface ∧ DW w' B R d (es.set i id) ∧ Chg (fun b => b = R) w w' := by
  subst ha
  refine (dput_ok B R d es i id hi h0 w hD).mono ?_
  rintro e w' ⟨rfl, rfl⟩
  exact ⟨rfl, hD.set i id, (Chg.refl _ _).set1 _ _⟩
set_option maxRecDepth 100000 in
set_option maxHeartbeats 2000000 in
theorem double_any (C B R F S d d' i nx : Nat) (tk : Bool) (es fs : List Int) (w : World) (hh : Blk w C 183 (cHead B F nx tk)) (ho : DW w B R d es) (hf : DW w F S d' fs) (hi : i < es.length) (hl : es.length ≤ 32) (hf2 : 2 * i + 1 < fs.length) (h0 : 0 ≤ gD es i) (hCS : C ≠ S) :
    Calls Tryd.prog 124 #[.pointer (some ⟨C, 0, none⟩), .int .i64 (i : Int)] w fun e w' => e = .returned (.tuple #[]) ∧ DW w' F S d' ((fs.set (2 * i) (gD es i)).set (2 * i + 1) (gD es i)) ∧ Chg (fun b => b = S) w w' := by
  have EN := Lib.hid (dentry_ok B R d es i hi w ho)
  obtain ⟨hc, -⟩ := cHead_cells hh
  have P1 := Lib.hid (dput_chg F S d' fs (2 * i) (2 * (i : Int)) (gD es i) (by omega) (by omega) h0 w hf)
  have P2 := Lib.hid (fun w2 h2 => dput_chg F S d' (fs.set (2 * i) (gD es i)) (2 * i + 1) (2 * (i : Int) + 1) (gD es i) (by omega) (by rw [List.length_set]; exact hf2) h0 w2 h2)
  unfold gD at *
  generalize es.getD i 0 = x at *
  have HH := Lib.hid hh
  clear hh ho hf h0
  have hi32 : (i : Int) < 32 := by omega
  go_enter Tryd.func124, Tryd.ntmps124
  go_wp2_with (first
    | (go_at_call 158; refine EN.out.mono ?_; rintro e w' ⟨rfl, rfl⟩)
    | (go_at_call 125; refine (mustD_ok _ _).mono ?_; rintro e w' ⟨rfl, rfl⟩))
  refine wp_loop_rounds 3 ?_
  rw [rounds_succ]
  go_wp2_with (first
    | (go_at_call 119; refine P1.out.mono ?_; rintro e w1 ⟨rfl, h1, c1⟩; have H1 := Lib.hid h1; clear h1; obtain ⟨hc1, -⟩ := cHead_cells (HH.out.chg c1 hCS))
    | (go_at_call 160; refine (need_yes _).mono ?_; rintro e w' ⟨rfl, rfl⟩))
  rw [rounds_succ]
  go_wp2_with (first
    | (go_at_call 119; refine (P2.out _ H1.out).mono ?_; rintro e w2 ⟨rfl, h2, c2⟩; have H2 := Lib.hid h2; clear h2)
    | (go_at_call 160; refine (need_yes _).mono ?_; rintro e w' ⟨rfl, rfl⟩))
  rw [rounds_succ]
  go_wp2
  ((try simp only [Exit.inBlock, Exit.then]); first | refine bodyPost_end (results_none rfl _ _ _) rfl ?_ | refine bodyPost_ret (results_none rfl _ _ _) rfl ?_)
  exact ⟨rfl, H2.out, c1.trans c2⟩
/-- a copyist, newly made -/
def NewC (B R d : Nat) (es : List Int) (w : World) (e : Ending) (w' : World) : Prop := ∃ C F S, e = .returned (.tuple #[.pointer (some ⟨C, 0, none⟩), .nilIface]) ∧ CW w' C B R F S d es 0 false ∧ w.heap.size ≤ C ∧ w.heap.size ≤ F ∧ w.heap.size ≤ S ∧ Below w.heap.size w w'
theorem neq_nilC (w : World) : (binOp .neq 25 .nilIface .nilIface).run Tryd.prog w = .ok (.bool false) w := run_neq_nil_nil _ _ (by kernel_rfl)
attribute [local go_sem] neq_nilC
set_option maxRecDepth 100000 in
set_option maxHeartbeats 2000000 in
theorem cnew_ok (B R d : Nat) (es : List Int) (hd : d ≤ 4) (hp : ∀ q, 0 ≤ gD es q) (w : World) (ho : DW w B R d es) :
    Calls Tryd.prog 120 #[.pointer (some ⟨B, 0, none⟩)] w (NewC B R d es w) := by
  have DP := Lib.hid (ddepth_any B R d es w ho)
  have NW := dnew_ok (d + 1) (by omega) w
  rw [show (((d + 1 : Nat)) : Int) = (d : Int) + 1 by omega] at NW
  unfold NewD at NW
  replace NW := Lib.hid NW
  have HO := Lib.hid ho
  have HP := Lib.hid hp
  have hBl := ho.head.lt
  have hRl := ho.ring.lt
  clear ho hp
  go_enter Tryd.func120, Tryd.ntmps120
  go_wp2_with (first
    | (go_at_call 60; refine DP.out.mono ?_; rintro e w' ⟨rfl, rfl⟩)
    | (go_at_call 118; refine NW.out.mono ?_; rintro e w1 ⟨F, S, rfl, hD, hF, hS, hb⟩; have HD := Lib.hid hD; clear hD))
  go_ret2
  have hlen : dblF es.length 0 (gD es) = List.replicate (2 ^ (d + 1)) 0 := by rw [dblF_zero, HO.out.len, Nat.pow_succ, Nat.mul_comm]
  have hFl := HD.out.head.lt
  have hSl := HD.out.ring.lt
  have hz := hb.size
  exact ⟨w1.heap.size, F, S, rfl, ⟨Blk.new _ _ _, (HO.out.below hb).below ((Below.refl _ _).alloc (Nat.le_refl _) _), by rw [hlen]; exact HD.out.below ((Below.refl _ _).alloc (Nat.le_refl _) _), Nat.zero_le _, HP.out, by omega, by omega, by omega, by omega, by omega, by omega, by omega, by omega⟩, hz, hF, hS, hb.alloc hz _⟩
set_option maxRecDepth 100000 in
set_option maxHeartbeats 2000000 in
theorem cnew_deep (B R : Nat) (es : List Int) (E : Nat → Addr) (w : World) (ho : DW w B R 5 es) (he : EC w E [1]) :
    Calls Tryd.prog 120 #[.pointer (some ⟨B, 0, none⟩)] w fun e w' => e = .returned (.tuple #[.pointer none, errAt E 1]) ∧ Below w.heap.size w w' := by
  have DP := Lib.hid (ddepth_any B R 5 es w ho)
  have NW := Lib.hid (dnew_bad 6 (by decide) E w he)
  unfold errAt at *
  clear ho he
  go_enter Tryd.func120, Tryd.ntmps120
  go_wp2_with (first
    | (go_at_call 60; refine DP.out.mono ?_; rintro e w' ⟨rfl, rfl⟩)
    | (go_at_call 118; refine NW.out.mono ?_; rintro e w1 ⟨rfl, hb⟩))
  go_ret2
  exact ⟨rfl, hb⟩
set_option maxHeartbeats 2000000 in
theorem cnew_nil (E : Nat → Addr) (w : World) (he : EC w E [4]) :
    Calls Tryd.prog 120 #[.pointer none] w fun e w' => e = .returned (.tuple #[.pointer none, errAt E 4]) ∧ Below w.heap.size w w' := by
  have hc : w.cell? ⟨8, 0, none⟩ = some (errAt E 4) := he 4 (by decide)
  unfold errAt at *
  clear he
  go_enter Tryd.func120, Tryd.ntmps120
  go_wp2
  refine wp_region_seq (fun _ => False) #[⟨0, 0, 256, 0, 1⟩, ⟨0, 0, 4, 0, 0⟩, ⟨3, 3, 8, 256, 0⟩] 1 [(0, 1), (1, 0), (2, 0)] (by kernel_rfl) (by kernel_rfl) (by kernel_rfl) (by kernel_rfl) (by kernel_rfl) (by kernel_rfl) (fun c a d v w h => by cases d <;> exact h) ?_
  refine seq_load1 (by simp only [List.getElem?_toArray, List.getElem?_cons_succ, List.getElem?_cons_zero]; rfl) (by rfl) rfl rfl Tryd.underlying25 rfl (by go_simp <;> with_reducible rfl) (by first | exact id | assumption | (simp; done) | (simp; omega)) ?_
  try simp only [Act.put, List.setIfInBounds_toArray, List.set_cons_zero, List.set_cons_succ]
  refine seq_calc (by simp only [List.getElem?_toArray, List.getElem?_cons_succ, List.getElem?_cons_zero]; rfl) (by rfl) (fun u => by go_simp <;> with_reducible rfl) ?_
  try simp only [Act.put, List.setIfInBounds_toArray, List.set_cons_zero, List.set_cons_succ]
  refine seq_calc (by simp only [List.getElem?_toArray, List.getElem?_cons_succ, List.getElem?_cons_zero]; rfl) (by rfl) (fun u => by go_simp <;> with_reducible rfl) ?_
  try simp only [Act.put, List.setIfInBounds_toArray, List.set_cons_zero, List.set_cons_succ]
  refine seq_nil ?_
  go_wp2
  go_ret2
  exact ⟨rfl, by go_grown⟩
set_option maxRecDepth 100000 in
set_option maxHeartbeats 2000000 in
theorem cleft_any (C B R F S d : Nat) (es : List Int) (nx : Nat) (tk : Bool) (w : World) (h : CW w C B R F S d es nx tk) :
    Calls Tryd.prog 58 #[.pointer (some ⟨C, 0, none⟩)] w fun e w' => e = .returned (.int .i64 ((es.length - nx : Nat) : Int)) ∧ Below w.heap.size w w' := by
  have hle := h.le
  have hpos := h.old.pos
  have hsub : (es.length : Int) - (nx : Int) = ((es.length - nx : Nat) : Int) := by omega
  obtain ⟨hc, -⟩ := cHead_cells h.head
  have LN := Lib.hid (fun (w' : World) (hb : Below w.heap.size w w') => dlen_any B R d es w' (h.old.below hb))
  have hw : IntKind.i64.wrap ((es.length : Int) - (nx : Int)) = ((es.length - nx : Nat) : Int) := by rw [hsub]; exact IntWalk.i64_in _ (by omega)
  generalize es.length - nx = q at *
  clear h hsub
  go_enter Tryd.func58, Tryd.ntmps58
  go_wp2
  refine wp_region_seq (fun _ => False) #[⟨0, 0, 8, 1, 0⟩, ⟨1, 1, 16, 8, 0⟩, ⟨2, 3, 32, 16, 0⟩, ⟨4, 7, 64, 32, 1⟩, ⟨8, 15, 128, 64, 2⟩, ⟨0, 0, 256, 1, 0⟩, ⟨32, 32, 512, 256, 0⟩, ⟨64, 96, 1024, 512, 0⟩, ⟨128, 224, 2048, 1024, 1⟩, ⟨272, 511, 4096, 2176, 0⟩, ⟨1023, 1023, 4, 4096, 0⟩] 264 [(0, 0), (1, 0), (2, 0), (3, 1), (5, 0), (6, 0), (7, 0), (8, 1), (4, 2), (9, 0), (10, 0)] (by kernel_rfl) (by kernel_rfl) (by kernel_rfl) (by kernel_rfl) (by kernel_rfl) (by kernel_rfl) (fun c a d v w h => by cases d <;> exact h) ?_
  refine seq_calc (by simp only [List.getElem?_toArray, List.getElem?_cons_succ, List.getElem?_cons_zero]; rfl) (by rfl) (fun u => by go_simp <;> with_reducible rfl) ?_
  try simp only [Act.put, List.setIfInBounds_toArray, List.set_cons_zero, List.set_cons_succ]
  refine seq_calc (by simp only [List.getElem?_toArray, List.getElem?_cons_succ, List.getElem?_cons_zero]; rfl) (by rfl) (fun u => by go_simp <;> with_reducible rfl) ?_
  try simp only [Act.put, List.setIfInBounds_toArray, List.set_cons_zero, List.set_cons_succ]
  refine seq_calc (by simp only [List.getElem?_toArray, List.getElem?_cons_succ, List.getElem?_cons_zero]; rfl) (by rfl) (fun u => by go_simp <;> with_reducible rfl) ?_
  try simp only [Act.put, List.setIfInBounds_toArray, List.set_cons_zero, List.set_cons_succ]
  refine seq_load1 (by simp only [List.getElem?_toArray, List.getElem?_cons_succ, List.getElem?_cons_zero]; rfl) (by rfl) rfl rfl Tryd.underlying93 rfl (by go_simp <;> with_reducible rfl) (by first | exact id | assumption | (simp; done) | (simp; omega)) ?_
  try simp only [Act.put, List.setIfInBounds_toArray, List.set_cons_zero, List.set_cons_succ]
  refine seq_calc (by simp only [List.getElem?_toArray, List.getElem?_cons_succ, List.getElem?_cons_zero]; rfl) (by rfl) (fun u => by go_simp <;> with_reducible rfl) ?_
  try simp only [Act.put, List.setIfInBounds_toArray, List.set_cons_zero, List.set_cons_succ]
  refine seq_calc (by simp only [List.getElem?_toArray, List.getElem?_cons_succ, List.getElem?_cons_zero]; rfl) (by rfl) (fun u => by go_simp <;> with_reducible rfl) ?_
  try simp only [Act.put, List.setIfInBounds_toArray, List.set_cons_zero, List.set_cons_succ]
  refine seq_calc (by simp only [List.getElem?_toArray, List.getElem?_cons_succ, List.getElem?_cons_zero]; rfl) (by rfl) (fun u => by go_simp <;> with_reducible rfl) ?_
  try simp only [Act.put, List.setIfInBounds_toArray, List.set_cons_zero, List.set_cons_succ]
  refine seq_load1 (by simp only [List.getElem?_toArray, List.getElem?_cons_succ, List.getElem?_cons_zero]; rfl) (by rfl) rfl rfl Tryd.underlying3 rfl (by go_simp <;> with_reducible rfl) (by first | exact id | assumption | (simp; done) | (simp; omega)) ?_
  try simp only [Act.put, List.setIfInBounds_toArray, List.set_cons_zero, List.set_cons_succ]
  refine seq_do (by simp only [List.getElem?_toArray, List.getElem?_cons_succ, List.getElem?_cons_zero]; rfl) (by rfl) (fun K hK => ?_); go_wp2_with (go_at_call 55; refine (LN.out _ (by go_grown)).mono ?_; rintro e w' ⟨rfl, rfl⟩); refine hK.out _ _ (by first | (with_reducible exact Chg.refl _ _) | (with_reducible assumption) | (refine Chg.of_below ?_; with_reducible assumption) | (with_reducible exact (Chg.refl _ _).alloc _) | (with_reducible exact (Chg.refl _ _).drewN _) | (with_reducible exact (Chg.refl _ _).drew) | exact ⟨rfl, rfl, rfl, Nat.le_refl _, fun _ _ _ => rfl⟩) ?_; clear hK K
  try simp only [Act.put, List.setIfInBounds_toArray, List.set_cons_zero, List.set_cons_succ]
  refine seq_calc (by simp only [List.getElem?_toArray, List.getElem?_cons_succ, List.getElem?_cons_zero]; rfl) (by rfl) (fun u => by go_simp <;> with_reducible rfl) ?_
  try simp only [Act.put, List.setIfInBounds_toArray, List.set_cons_zero, List.set_cons_succ]
  refine seq_calc (by simp only [List.getElem?_toArray, List.getElem?_cons_succ, List.getElem?_cons_zero]; rfl) (by rfl) (fun u => by go_simp <;> with_reducible rfl) ?_
  try simp only [Act.put, List.setIfInBounds_toArray, List.set_cons_zero, List.set_cons_succ]
  refine seq_nil ?_
  go_wp2
  go_ret
  exact ⟨rfl, by go_grown⟩
set_option maxHeartbeats 2000000 in
theorem cat_any (C B R F S d h : Nat) (es : List Int) (nx : Nat) (tk : Bool) (hh : h < 18446744073709551616) (w : World) (hC : CW w C B R F S d es nx tk) :
    Calls Tryd.prog 57 #[.pointer (some ⟨C, 0, none⟩), .int .u64 (h : Int)] w fun e w' => e = .returned (.int .i64 (atD es d h)) ∧ Below w.heap.size w w' := by
  obtain ⟨hc, -⟩ := cHead_cells hC.head
  have AT := Lib.hid (dat_below B R d h es hh w hC.old)
  clear hC
  go_enter Tryd.func57, Tryd.ntmps57
  go_wp2_with (go_at_call 56; refine AT.out.mono ?_; rintro e w1 ⟨rfl, hb⟩)
  go_ret
  exact ⟨rfl, hb⟩
set_option maxRecDepth 100000 in
set_option maxHeartbeats 2000000 in
theorem cstep_end (C B R F S d : Nat) (es : List Int) (tk : Bool) (v : Value) (w : World) (h : CW w C B R F S d es es.length tk) :
    Calls Tryd.prog 53 #[.pointer (some ⟨C, 0, none⟩), v] w fun e w' => e = .returned (.bool false) ∧ Below w.heap.size w w' := by
  have LF := cleft_any C B R F S d es es.length tk w h
  rw [Nat.sub_self] at LF
  replace LF := Lib.hid LF
  clear h
  go_enter Tryd.func53, Tryd.ntmps53
  go_wp2_with (go_at_call 58; refine LF.out.mono ?_; rintro e w1 ⟨rfl, hb⟩)
  go_ret
  exact ⟨rfl, hb⟩
set_option maxRecDepth 100000 in
set_option maxHeartbeats 4000000 in
theorem cstep_ok (C B R F S d M : Nat) (es : List Int) (nx : Nat) (tk : Bool) (m : MeterS) (hm : m.limited = false) (hn : nx < es.length) (w : World) (h : CW w C B R F S d es nx tk) (hM : Blk w M 64 m.cells)
    (m1 : M ≠ C) (m2 : M ≠ B) (m3 : M ≠ R) (m4 : M ≠ F) (m5 : M ≠ S) :
    Calls Tryd.prog 53 #[.pointer (some ⟨C, 0, none⟩), .pointer (some ⟨M, 0, none⟩)] w fun e w' => e = .returned (.bool true) ∧ CW w' C B R F S d es (nx + 1) tk ∧ Blk w' M 64 (m.add 0 0 1).cells ∧ Chg (fun b => b = M ∨ b = S ∨ b = C) w w' := by
  have hpos := h.old.pos
  have LF := Lib.hid (cleft_any C B R F S d es nx tk w h)
  have UF := Lib.hid (fun (w' : World) hb => unit_free m 1 (by decide) hm M 64 w' hb)
  have DB := Lib.hid (fun (w' : World) (hh : Blk w' C 183 (cHead B F nx tk)) (ho : DW w' B R d es) (hf : DW w' F S (d + 1) (dblF es.length nx (gD es))) => double_any C B R F S d (d + 1) nx nx tk es _ w' hh ho hf hn hpos.2 (by rw [dblF_len]; omega) (h.pos nx) h.n4)
  have HC := Lib.hid h
  have HM := Lib.hid hM
  have hlz : ((es.length - nx : Nat) : Int) ≠ 0 := by omega
  have e0 : (((es.length - nx : Nat) : Int) == 0) = false := by simpa using hlz
  have hnx : (nx : Int) < 32 := by omega
  generalize es.length - nx = q at *
  clear h hM hlz
  go_enter Tryd.func53, Tryd.ntmps53
  go_wp2_with (first
    | (go_at_call 58; refine LF.out.mono ?_; rintro e w1 ⟨rfl, hb⟩; have HC1 := Lib.hid (HC.out.below hb); have HM1 := Lib.hid (HM.out.below hb HM.out.lt))
    | (go_at_call 112; refine (UF.out _ HM1.out).mono ?_; rintro e w2 ⟨rfl, h2, c2⟩; have HM2 := Lib.hid h2; have HC2 := Lib.hid (HC1.out.chg c2 m1.symm m2.symm m3.symm m4.symm m5.symm); obtain ⟨hc2, hf2⟩ := cHead_cells HC2.out.head; clear h2)
    | (go_at_call 124; refine (DB.out _ HC2.out.head HC2.out.old HC2.out.fresh).mono ?_; rintro e w3 ⟨rfl, h3, c3⟩; have HF3 := Lib.hid h3; have HH3 := Lib.hid (HC2.out.head.chg c3 HC.out.n4); obtain ⟨hc3, hf3⟩ := cHead_cells HH3.out; clear h3))
  go_ret
  have hh := HC.out
  have hfr := HF3.out
  rw [dblF_step _ _ _ hn] at hfr
  have hhd := HH3.out.set 2 (.int .i64 ((nx : Int) + 1))
  refine ⟨rfl, ⟨hhd, ⟨(HC2.out.old.chg c3 hh.n6 hh.n8).head.other (fun e => hh.n1 e.symm) _ _, (HC2.out.old.chg c3 hh.n6 hh.n8).ring.other (fun e => hh.n2 e.symm) _ _, hh.old.ne, hh.old.deep, hh.old.len⟩, ⟨hfr.head.other (fun e => hh.n3 e.symm) _ _, hfr.ring.other (fun e => hh.n4 e.symm) _ _, hfr.ne, hfr.deep, hfr.len⟩, hn, hh.pos, hh.n1, hh.n2, hh.n3, hh.n4, hh.n5, hh.n6, hh.n7, hh.n8⟩, (HM2.out.chg c3 m5).other m1 _ _, ?_⟩
  refine Chg.setCell ?_ (.inl (.inr (.inr rfl))) _
  exact (((Chg.of_below hb).trans (c2.mono fun i _ e => .inl e)).trans (c3.mono fun i _ e => .inr (.inl e)))
/-- how many entries a Set sets, in both directories -/
def csetN (d : Nat) (p k x : Int) (nx : Nat) : Nat := if SetOk d p k x then wide d k + 2 * (min (spT d p k) nx - spF d p k) else 0
theorem gD_setsL (es : List Int) (a n : Nat) (x : Int) (h : a + n ≤ es.length) (q : Nat) (hq : q < es.length) : gD (setsL es a n x) q = if a ≤ q ∧ q < a + n then x else gD es q := setsL_get es a n x h q hq
theorem gD_out (es : List Int) (q : Nat) (h : es.length ≤ q) : gD es q = 0 := by unfold gD; rw [List.getD_eq_getElem?_getD, List.getElem?_eq_none h]; rfl
theorem gD_setsL_pos (es : List Int) (a n : Nat) (x : Int) (h : a + n ≤ es.length) (hx : 0 ≤ x) (hp : ∀ q, 0 ≤ gD es q) (q : Nat) : 0 ≤ gD (setsL es a n x) q := by
  by_cases hq : q < es.length
  · rw [gD_setsL es a n x h q hq]; split; exact hx; exact hp q
  · rw [gD_out _ _ (by rw [setsL_len]; omega)]; decide
attribute [local go_sem high] run_minZ run_maxZ
set_option maxRecDepth 100000 in
set_option maxHeartbeats 4000000 in
theorem cset_ok (C B R F S d p k : Nat) (es : List Int) (nx : Nat) (tk : Bool) (x : Int) (hk : k ≤ d) (hp : p < 2 ^ k) (hx : 0 ≤ x) (w : World) (h : CW w C B R F S d es nx tk) :
    Calls Tryd.prog 52 #[.pointer (some ⟨C, 0, none⟩), .int .i64 (p : Int), .int .i64 (k : Int), .int .i64 x] w fun e w' =>
      e = .returned (.tuple #[.int .i64 ((2 ^ (d - k) + 2 * (min (p * 2 ^ (d - k) + 2 ^ (d - k)) nx - p * 2 ^ (d - k)) : Nat) : Int), .nilIface]) ∧ CW w' C B R F S d (setsL es (p * 2 ^ (d - k)) (2 ^ (d - k)) x) nx tk ∧ Chg (fun b => b = R ∨ b = S) w w' := by
  have hpos := h.old.pos
  have hle := h.le
  have DS := dset_ok B R d p k es x hk hp hx w h.old
  have SP := fun w' hD => dspan_ok B R d p k (setsL es (p * 2 ^ (d - k)) (2 ^ (d - k)) x) hk hp w' hD
  have hb := span_le hp hk
  rw [← h.old.len] at hb
  have hy := Nat.two_pow_pos (d - k)
  generalize p * 2 ^ (d - k) = a at *
  generalize 2 ^ (d - k) = y at *
  have hG := Lib.hid (gD_setsL es a y x hb)
  have hGP := Lib.hid (gD_setsL_pos es a y x hb hx h.pos)
  have hsl := setsL_len es a y x
  obtain ⟨es', hes⟩ : ∃ l, l = setsL es a y x := ⟨_, rfl⟩
  rw [← hes] at DS SP hG hGP hsl ⊢
  replace DS := Lib.hid DS
  replace SP := Lib.hid SP
  have HC := Lib.hid h
  have hmn : mnZ ((a : Int) + (y : Int)) (nx : Int) = ((min (a + y) nx : Nat) : Int) := by unfold mnZ; omega
  have hmle : min (a + y) nx ≤ nx ∧ min (a + y) nx ≤ a + y ∧ (min (a + y) nx = nx ∨ min (a + y) nx = a + y) := by omega
  obtain ⟨hm1, hm2, hm3⟩ := hmle
  generalize min (a + y) nx = mm at *
  obtain ⟨hc, -⟩ := cHead_cells h.head
  have HSL := Lib.hid hsl
  clear h hes hp hsl
  go_enter Tryd.func52, Tryd.ntmps52
  go_wp2_with (first
    | (go_at_call 122; refine DS.out.mono ?_; rintro e w1 ⟨rfl, h1, c1⟩; have HD1 := Lib.hid h1; have HH1 := Lib.hid (HC.out.head.chg c1 HC.out.n2); have HF1 := Lib.hid (HC.out.fresh.chg c1 (fun e => HC.out.n7 e.symm) (fun e => HC.out.n8 e.symm)); obtain ⟨hc1, -⟩ := cHead_cells HH1.out; clear h1)
    | (go_at_call 123; refine (SP.out _ HD1.out).mono ?_; rintro e w' ⟨rfl, rfl⟩))
  go_loopw [14, 10] (fun v14 v10 wr => ∃ i : Nat, a ≤ i ∧ (i ≤ a ∨ i ≤ mm) ∧ v14 = .int .i64 (i : Int) ∧ v10 = .int .i64 ((y + 2 * (i - a) : Nat) : Int) ∧ Blk wr C 183 (cHead B F nx tk) ∧ DW wr B R d es' ∧
    DW wr F S (d + 1) (dblF es.length nx (fun q => if a ≤ q ∧ q < i then x else gD es q)) ∧ Chg (fun b => b = R ∨ b = S) w wr) (fun v14 _ _ => a + y - (intOf v14).toNat)
  case atStart =>
    refine ⟨a, Nat.le_refl _, .inl (Nat.le_refl _), rfl, by rw [Nat.sub_self]; rfl, HH1.out.drew, HD1.out.below (Below.refl _ _).drew, ?_, (c1.mono fun i _ e => .inl e).drew⟩
    rw [dblF_congr (g' := gD es) (fun q _ => if_neg (by omega))]
    exact HF1.out.below (Below.refl _ _).drew
  case round =>
    clear HH1 HD1 HF1 c1 hc1
    obtain ⟨i, hai, him, rfl, rfl, hH, hD, hF, hCh⟩ := hrel
    obtain ⟨hc, -⟩ := cHead_cells hH
    have HHi := Lib.hid hH
    have HDi := Lib.hid hD
    have HFi := Lib.hid hF
    by_cases hlt : i < mm
    · have hlt' : (i : Int) < (mm : Int) := by omega
      have hgx : gD es' i = x := by rw [hG.out i (by omega), if_pos (by omega)]
      have DB := double_any C B R F S d (d + 1) i nx tk es' _ wr hH hD hF (by rw [HSL.out]; omega) (by rw [HSL.out]; omega) (by rw [dblF_len]; omega) (hGP.out i) HC.out.n4
      rw [hgx, dblF_set _ _ _ _ _ (by omega) hle] at DB
      rw [dblF_congr (g' := fun q => if a ≤ q ∧ q < i + 1 then x else gD es q) (fun q hq => by
        by_cases e : q = i
        · subst e; simp [hai]
        · by_cases e2 : a ≤ q ∧ q < i
          · rw [if_neg e, if_pos e2, if_pos (by omega)]
          · rw [if_neg e, if_neg e2, if_neg (by omega)])] at DB
      replace DB := Lib.hid DB
      have hn1 : ((y + 2 * (i - a) : Nat) : Int) + 2 = ((y + 2 * (i + 1 - a) : Nat) : Int) := by omega
      have hnb : y + 2 * (i - a) ≤ 200 := by omega
      have HN1 := Lib.hid hn1
      generalize y + 2 * (i - a) = nn at *
      clear hH hD hF hgx hn1
      go_wp2_with (go_at_call 124; refine DB.out.mono ?_; rintro e w2 ⟨rfl, h2, c2⟩; have H2 := Lib.hid h2; clear h2)
      go_roundw
      case rel => exact ⟨i + 1, by omega, .inr (by omega), by go_num, by rw [← HN1.out], HHi.out.chg c2 HC.out.n4, HDi.out.chg c2 HC.out.n6 HC.out.n8, H2.out, hCh.trans (c2.mono fun i _ e => .inr e)⟩
      case measure => simp [intOf]; omega
    · have hnn : y + 2 * (i - a) = y + 2 * (mm - a) := by omega
      have HNN := Lib.hid hnn
      have hge : (mm : Int) ≤ (i : Int) := by omega
      clear hH hD hF hnn
      go_wp2
      go_ret2
      have hh := HC.out
      refine ⟨by rw [HNN.out]; rfl, ⟨HHi.out, HDi.out, ?_, by rw [HSL.out]; exact hle, hGP.out, hh.n1, hh.n2, hh.n3, hh.n4, hh.n5, hh.n6, hh.n7, hh.n8⟩, hCh⟩
      have := HFi.out
      rw [HSL.out, dblF_congr (g := gD es') (g' := fun q => if a ≤ q ∧ q < i then x else gD es q) (fun q hq => by
        rw [hG.out q (by omega)]
        by_cases e2 : a ≤ q ∧ q < i
        · rw [if_pos e2, if_pos (by omega)]
        · rw [if_neg e2, if_neg (by omega)])]
      exact this
theorem cset_any (C B R F S d : Nat) (p k x : Int) (es : List Int) (nx : Nat) (tk : Bool) (E : Nat → Addr) (w : World) (h : CW w C B R F S d es nx tk) (he : EC w E [1]) :
    Calls Tryd.prog 52 #[.pointer (some ⟨C, 0, none⟩), .int .i64 p, .int .i64 k, .int .i64 x] w fun e w' =>
      e = .returned (.tuple #[.int .i64 ((csetN d p k x nx : Nat) : Int), errN E (setErr d p k x)]) ∧ CW w' C B R F S d (setE d es p k x) nx tk ∧ Chg (fun b => b = R ∨ b = S) w w' := by
  unfold csetN setErr setE
  by_cases hs : SetOk d p k x
  · rw [if_pos hs, if_pos hs, if_pos hs]
    unfold spT spF
    rw [if_pos hs.1, if_pos hs.1]
    obtain ⟨m, q, rfl, rfl, h1, h2⟩ := hs.1.nat
    exact cset_ok C B R F S d q m es nx tk x h1 h2 hs.2 w h
  · rw [if_neg hs, if_neg hs, if_neg hs]
    have DS := Lib.hid (dset_bad B R d es p k x (set_not hs) E w h.old he)
    have HC := Lib.hid h
    obtain ⟨hc, -⟩ := cHead_cells h.head
    unfold errN
    rw [if_neg (by decide)]
    unfold errAt at *
    clear h he hs
    go_enter Tryd.func52, Tryd.ntmps52
    go_wp2_with (go_at_call 122; refine DS.out.mono ?_; rintro e w1 ⟨rfl, hb⟩)
    go_ret2
    exact ⟨rfl, HC.out.below hb, Chg.of_below hb⟩
set_option maxRecDepth 100000 in
set_option maxHeartbeats 2000000 in
theorem ctake_bad (C B R F S d : Nat) (es : List Int) (nx : Nat) (tk : Bool) (hb : nx < es.length ∨ tk = true) (E : Nat → Addr) (w : World) (h : CW w C B R F S d es nx tk) (he : EC w E [5]) :
    Calls Tryd.prog 54 #[.pointer (some ⟨C, 0, none⟩)] w fun e w' => e = .returned (.tuple #[.pointer none, errAt E 5]) ∧ Below w.heap.size w w' := by
  have LF := Lib.hid (cleft_any C B R F S d es nx tk w h)
  have HC := Lib.hid h
  have HE := Lib.hid he
  have hle := h.le
  have hpos := h.old.pos
  unfold errAt at *
  clear h he
  by_cases hn : nx < es.length
  · have hq : 0 < es.length - nx ∧ es.length - nx ≤ 32 := by omega
    have hqI : (0 : Int) < ((es.length - nx : Nat) : Int) := by omega
    generalize es.length - nx = q at *
    clear hb
    go_enter Tryd.func54, Tryd.ntmps54
    go_wp2_with (go_at_call 58; refine LF.out.mono ?_; rintro e w1 ⟨rfl, hb1⟩; have hc : w1.cell? ⟨5, 0, none⟩ = some _ := (HE.out.below hb1) 5 (by decide))
    refine wp_region_seq (fun _ => False) #[⟨0, 0, 8192, 0, 1⟩, ⟨0, 0, 4, 0, 0⟩, ⟨3, 3, 8, 8192, 0⟩] 1 [(0, 1), (1, 0), (2, 0)] (by kernel_rfl) (by kernel_rfl) (by kernel_rfl) (by kernel_rfl) (by kernel_rfl) (by kernel_rfl) (fun c a d v w h => by cases d <;> exact h) ?_
    refine seq_load1 (by simp only [List.getElem?_toArray, List.getElem?_cons_succ, List.getElem?_cons_zero]; rfl) (by rfl) rfl rfl Tryd.underlying25 rfl (by go_simp <;> with_reducible rfl) (by first | exact id | assumption | (simp; done) | (simp; omega)) ?_
    try simp only [Act.put, List.setIfInBounds_toArray, List.set_cons_zero, List.set_cons_succ]
    refine seq_calc (by simp only [List.getElem?_toArray, List.getElem?_cons_succ, List.getElem?_cons_zero]; rfl) (by rfl) (fun u => by go_simp <;> with_reducible rfl) ?_
    try simp only [Act.put, List.setIfInBounds_toArray, List.set_cons_zero, List.set_cons_succ]
    refine seq_calc (by simp only [List.getElem?_toArray, List.getElem?_cons_succ, List.getElem?_cons_zero]; rfl) (by rfl) (fun u => by go_simp <;> with_reducible rfl) ?_
    try simp only [Act.put, List.setIfInBounds_toArray, List.set_cons_zero, List.set_cons_succ]
    refine seq_nil ?_
    go_wp2
    go_ret2
    exact ⟨rfl, hb1.drew⟩
  · have htk : tk = true := by rcases hb with h | h; exact (hn h).elim; exact h
    subst htk
    have hq : es.length - nx = 0 := by omega
    rw [hq] at LF
    clear hb hq
    go_enter Tryd.func54, Tryd.ntmps54
    go_wp2_with (go_at_call 58; refine LF.out.mono ?_; rintro e w1 ⟨rfl, hb1⟩; have hc : w1.cell? ⟨5, 0, none⟩ = some _ := (HE.out.below hb1) 5 (by decide); obtain ⟨hc1, -⟩ := cHead_cells (HC.out.below hb1).head)
    refine wp_region_seq (fun _ => False) #[⟨0, 0, 8192, 0, 1⟩, ⟨0, 0, 4, 0, 0⟩, ⟨3, 3, 8, 8192, 0⟩] 1 [(0, 1), (1, 0), (2, 0)] (by kernel_rfl) (by kernel_rfl) (by kernel_rfl) (by kernel_rfl) (by kernel_rfl) (by kernel_rfl) (fun c a d v w h => by cases d <;> exact h) ?_
    refine seq_load1 (by simp only [List.getElem?_toArray, List.getElem?_cons_succ, List.getElem?_cons_zero]; rfl) (by rfl) rfl rfl Tryd.underlying25 rfl (by go_simp <;> with_reducible rfl) (by first | exact id | assumption | (simp; done) | (simp; omega)) ?_
    try simp only [Act.put, List.setIfInBounds_toArray, List.set_cons_zero, List.set_cons_succ]
    refine seq_calc (by simp only [List.getElem?_toArray, List.getElem?_cons_succ, List.getElem?_cons_zero]; rfl) (by rfl) (fun u => by go_simp <;> with_reducible rfl) ?_
    try simp only [Act.put, List.setIfInBounds_toArray, List.set_cons_zero, List.set_cons_succ]
    refine seq_calc (by simp only [List.getElem?_toArray, List.getElem?_cons_succ, List.getElem?_cons_zero]; rfl) (by rfl) (fun u => by go_simp <;> with_reducible rfl) ?_
    try simp only [Act.put, List.setIfInBounds_toArray, List.set_cons_zero, List.set_cons_succ]
    refine seq_nil ?_
    go_wp2
    go_ret2
    exact ⟨rfl, hb1.drew⟩
set_option maxRecDepth 100000 in
set_option maxHeartbeats 2000000 in
theorem ctake_ok (C B R F S d : Nat) (es : List Int) (w : World) (h : CW w C B R F S d es es.length false) :
    Calls Tryd.prog 54 #[.pointer (some ⟨C, 0, none⟩)] w fun e w' => e = .returned (.tuple #[.pointer (some ⟨F, 0, none⟩), .nilIface]) ∧ CW w' C B R F S d es es.length true ∧ Chg (fun b => b = C) w w' := by
  have LF := cleft_any C B R F S d es es.length false w h
  rw [Nat.sub_self] at LF
  replace LF := Lib.hid LF
  have HC := Lib.hid h
  clear h
  go_enter Tryd.func54, Tryd.ntmps54
  go_wp2_with (go_at_call 58; refine LF.out.mono ?_; rintro e w1 ⟨rfl, hb1⟩; have HC1 := Lib.hid (HC.out.below hb1); obtain ⟨hc1, hf1⟩ := cHead_cells HC1.out.head)
  go_ret2
  have hh := HC1.out
  refine ⟨rfl, ⟨hh.head.set 3 (.bool true), ⟨hh.old.head.other (fun e => hh.n1 e.symm) _ _, hh.old.ring.other (fun e => hh.n2 e.symm) _ _, hh.old.ne, hh.old.deep, hh.old.len⟩, ⟨hh.fresh.head.other (fun e => hh.n3 e.symm) _ _, hh.fresh.ring.other (fun e => hh.n4 e.symm) _ _, hh.fresh.ne, hh.fresh.deep, hh.fresh.len⟩, hh.le, hh.pos, hh.n1, hh.n2, hh.n3, hh.n4, hh.n5, hh.n6, hh.n7, hh.n8⟩, ?_⟩
  exact (Chg.of_below hb1).set1 _ _
end Go.Proofs.YtplimhllfbdocaaDoor
