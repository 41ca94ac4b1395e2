/- Package dir. Condition: the errors' cells. -/
import Derived.Test.YtplimhllfbdocaaDoorSplit
import Derived.Test.YtplimhllfbdocaaDoorNum
import Derived.Test.YtplimhllfbdocaaDoorTrapAct
import Derived.OwnWalk
import Derived.LoopTactic
import Derived.Laws.OwnMore
import Derived.Maps.AppendAt
namespace Go.Proofs.YtplimhllfbdocaaDoor
set_option linter.unusedVariables false
set_option linter.unusedSimpArgs false
open Go.RowKit Go.Proofs

/-- blocks B and R hold a directory of depth d whose entries are es -/
structure DW (w : World) (B R d : Nat) (es : List Int) : Prop where
  head : Blk w B 185 #[.int .i64 (d : Int), .slice (some ⟨R, 0, none⟩) es.length es.length]
  ring : Blk w R 3 (es.map (Value.int .i64)).toArray
  ne : B ≠ R
  deep : d ≤ 5
  len : es.length = 2 ^ d
theorem DW.below {w w' : World} {B R d : Nat} {es : List Int} (h : DW w B R d es) (hb : Below w.heap.size w w') : DW w' B R d es := ⟨h.head.below hb h.head.lt, h.ring.below hb h.ring.lt, h.ne, h.deep, h.len⟩
theorem DW.below' {n : Nat} {w w' : World} {B R d : Nat} {es : List Int} (h : DW w B R d es) (hb : Below n w w') (h1 : B < n) (h2 : R < n) : DW w' B R d es := ⟨h.head.below hb h1, h.ring.below hb h2, h.ne, h.deep, h.len⟩
theorem DW.chg {X : Nat → Prop} {w w' : World} {B R d : Nat} {es : List Int} (h : DW w B R d es) (hb : Chg X w w') (h1 : ¬ X B) (h2 : ¬ X R) : DW w' B R d es := ⟨h.head.chg hb h1, h.ring.chg hb h2, h.ne, h.deep, h.len⟩
theorem DW.pos {w : World} {B R d : Nat} {es : List Int} (h : DW w B R d es) : 1 ≤ es.length ∧ es.length ≤ 32 := by
  rw [h.len]
  exact ⟨Nat.one_le_two_pow, Nat.pow_le_pow_right (by decide) h.deep⟩
theorem ddepth_any (B R d : Nat) (es : List Int) (w : World) (h : DW w B R d es) :
    Calls Tryd.prog 60 #[.pointer (some ⟨B, 0, none⟩)] w fun e w' => e = .returned (.int .i64 (d : Int)) ∧ w = w' := by
  have c0 := h.head.cell 0
  clear h
  go_enter Tryd.func60, Tryd.ntmps60
  go_wp2
  go_ret
  exact ⟨rfl, rfl⟩
theorem dlen_any (B R d : Nat) (es : List Int) (w : World) (h : DW w B R d es) :
    Calls Tryd.prog 55 #[.pointer (some ⟨B, 0, none⟩)] w fun e w' => e = .returned (.int .i64 (es.length : Int)) ∧ w = w' := by
  have c1 := h.head.cell 1
  clear h
  go_enter Tryd.func55, Tryd.ntmps55
  go_wp2
  go_ret
  exact ⟨rfl, rfl⟩
theorem mustD_ok (v : Int) (w : World) : Calls Tryd.prog 125 #[.int .i64 v, .nilIface] w fun e w' => e = .returned (.int .i64 v) ∧ w = w' := by
  go_enter Tryd.func125, Tryd.ntmps125
  go_wp2_with (go_at_call 154; refine (raise_nil _).mono ?_; rintro e w' ⟨rfl, rfl⟩)
  go_ret
  exact ⟨rfl, rfl⟩
/-- a hash's entry -/
def atD (es : List Int) (d h : Nat) : Int := es.getD (topN h d) 0
theorem DW.cellD {w : World} {B R d : Nat} {es : List Int} (h : DW w B R d es) (i : Nat) (hi : i < es.length) : w.cell? ⟨R, i, none⟩ = some (.int .i64 (es.getD i 0)) := by
  rw [h.ring.cell]; simp [List.getD_eq_getElem?_getD, List.getElem?_eq_getElem hi]
theorem dat_any (B R d h : Nat) (es : List Int) (hh : h < 18446744073709551616) (w : World) (hD : DW w B R d es) :
    Calls Tryd.prog 56 #[.pointer (some ⟨B, 0, none⟩), .int .u64 (h : Int)] w fun e w' => e = .returned (.int .i64 (atD es d h)) ∧ w.drew = w' := by
  have c0 := hD.head.cell 0
  have c1 := hD.head.cell 1
  have hp := hD.pos
  have hd := hD.deep
  have hlt : topN h d < es.length := by rw [hD.len]; exact topN_lt hh (by omega)
  have c2 := hD.cellD (topN h d) hlt
  have ht := Lib.hid (top_ok h d hh (by omega))
  have he : atD es d h = es.getD (topN h d) 0 := rfl
  rw [he]
  clear he hD
  generalize es.getD (topN h d) 0 = x at *
  generalize topN h d = t at *
  have hlt' : (t : Int) < (es.length : Int) := by omega
  go_enter Tryd.func56, Tryd.ntmps56
  go_wp2
  refine wp_region_seq (fun _ => False) #[⟨0, 0, 32, 1, 0⟩, ⟨1, 1, 64, 32, 0⟩, ⟨2, 3, 128, 64, 0⟩, ⟨4, 7, 256, 128, 1⟩, ⟨0, 0, 512, 2, 0⟩, ⟨0, 0, 1024, 1, 0⟩, ⟨32, 32, 2048, 1024, 0⟩, ⟨64, 96, 4096, 2048, 0⟩, ⟨128, 224, 8192, 4096, 1⟩, ⟨272, 496, 16384, 8704, 2⟩, ⟨512, 1008, 32768, 16384, 0⟩, ⟨512, 1008, 65536, 16384, 0⟩, ⟨3584, 4080, 131072, 98304, 2⟩, ⟨4104, 8191, 262144, 131328, 0⟩, ⟨8192, 16383, 524288, 262144, 1⟩, ⟨32767, 32767, 16, 524288, 0⟩] 16648 [(0, 0), (1, 0), (2, 0), (3, 1), (4, 0), (5, 0), (6, 0), (7, 0), (8, 1), (9, 2), (10, 0), (11, 0), (12, 2), (13, 0), (14, 1), (15, 0)] (by kernel_rfl) (by kernel_rfl) (by kernel_rfl) (by kernel_rfl) (by kernel_rfl) (by kernel_rfl) (fun c a d v w h => by cases d <;> exact h) ?_
  refine seq_calc (by simp only [List.getElem?_toArray, List.getElem?_cons_succ, List.getElem?_cons_zero]; rfl) (by rfl) (fun u => by go_simp <;> with_reducible rfl) ?_
  try simp only [Act.put, List.setIfInBounds_toArray, List.set_cons_zero, List.set_cons_succ]
  refine seq_calc (by simp only [List.getElem?_toArray, List.getElem?_cons_succ, List.getElem?_cons_zero]; rfl) (by rfl) (fun u => by go_simp <;> with_reducible rfl) ?_
  try simp only [Act.put, List.setIfInBounds_toArray, List.set_cons_zero, List.set_cons_succ]
  refine seq_calc (by simp only [List.getElem?_toArray, List.getElem?_cons_succ, List.getElem?_cons_zero]; rfl) (by rfl) (fun u => by go_simp <;> with_reducible rfl) ?_
  try simp only [Act.put, List.setIfInBounds_toArray, List.set_cons_zero, List.set_cons_succ]
  refine seq_load1 (by simp only [List.getElem?_toArray, List.getElem?_cons_succ, List.getElem?_cons_zero]; rfl) (by rfl) rfl rfl Tryd.underlying52 rfl (by go_simp <;> with_reducible rfl) (by first | exact id | assumption | (simp; done) | (simp; omega)) ?_
  try simp only [Act.put, List.setIfInBounds_toArray, List.set_cons_zero, List.set_cons_succ]
  refine seq_calc (by simp only [List.getElem?_toArray, List.getElem?_cons_succ, List.getElem?_cons_zero]; rfl) (by rfl) (fun u => by go_simp <;> with_reducible rfl) ?_
  try simp only [Act.put, List.setIfInBounds_toArray, List.set_cons_zero, List.set_cons_succ]
  refine seq_calc (by simp only [List.getElem?_toArray, List.getElem?_cons_succ, List.getElem?_cons_zero]; rfl) (by rfl) (fun u => by go_simp <;> with_reducible rfl) ?_
  try simp only [Act.put, List.setIfInBounds_toArray, List.set_cons_zero, List.set_cons_succ]
  refine seq_calc (by simp only [List.getElem?_toArray, List.getElem?_cons_succ, List.getElem?_cons_zero]; rfl) (by rfl) (fun u => by go_simp <;> with_reducible rfl) ?_
  try simp only [Act.put, List.setIfInBounds_toArray, List.set_cons_zero, List.set_cons_succ]
  refine seq_calc (by simp only [List.getElem?_toArray, List.getElem?_cons_succ, List.getElem?_cons_zero]; rfl) (by rfl) (fun u => by go_simp <;> with_reducible rfl) ?_
  try simp only [Act.put, List.setIfInBounds_toArray, List.set_cons_zero, List.set_cons_succ]
  refine seq_load1 (by simp only [List.getElem?_toArray, List.getElem?_cons_succ, List.getElem?_cons_zero]; rfl) (by rfl) rfl rfl Tryd.underlying3 rfl (by go_simp <;> with_reducible rfl) (by first | exact id | assumption | (simp; done) | (simp; omega)) ?_
  try simp only [Act.put, List.setIfInBounds_toArray, List.set_cons_zero, List.set_cons_succ]
  refine seq_do (by simp only [List.getElem?_toArray, List.getElem?_cons_succ, List.getElem?_cons_zero]; rfl) (by rfl) (fun K hK => ?_); go_wp2_with (first | (go_at_call 126; refine (ht.out _).mono ?_; rintro e w' ⟨rfl, rfl⟩) | (go_at_call 125; refine (mustD_ok _ _).mono ?_; rintro e w' ⟨rfl, rfl⟩)); refine hK.out _ _ (by first | (with_reducible exact Chg.refl _ _) | (with_reducible assumption) | (refine Chg.of_below ?_; with_reducible assumption) | (with_reducible exact (Chg.refl _ _).alloc _) | (with_reducible exact (Chg.refl _ _).drewN _) | (with_reducible exact (Chg.refl _ _).drew) | exact ⟨rfl, rfl, rfl, Nat.le_refl _, fun _ _ _ => rfl⟩) ?_; clear hK K
  try simp only [Act.put, List.setIfInBounds_toArray, List.set_cons_zero, List.set_cons_succ]
  refine seq_calc (by simp only [List.getElem?_toArray, List.getElem?_cons_succ, List.getElem?_cons_zero]; rfl) (by rfl) (fun u => by go_simp <;> with_reducible rfl) ?_
  try simp only [Act.put, List.setIfInBounds_toArray, List.set_cons_zero, List.set_cons_succ]
  refine seq_calc (by simp only [List.getElem?_toArray, List.getElem?_cons_succ, List.getElem?_cons_zero]; rfl) (by rfl) (fun u => by go_simp <;> with_reducible rfl) ?_
  try simp only [Act.put, List.setIfInBounds_toArray, List.set_cons_zero, List.set_cons_succ]
  refine seq_do (by simp only [List.getElem?_toArray, List.getElem?_cons_succ, List.getElem?_cons_zero]; rfl) (by rfl) (fun K hK => ?_); go_wp2_with (first | (go_at_call 126; refine (ht.out _).mono ?_; rintro e w' ⟨rfl, rfl⟩) | (go_at_call 125; refine (mustD_ok _ _).mono ?_; rintro e w' ⟨rfl, rfl⟩)); refine hK.out _ _ (by first | (with_reducible exact Chg.refl _ _) | (with_reducible assumption) | (refine Chg.of_below ?_; with_reducible assumption) | (with_reducible exact (Chg.refl _ _).alloc _) | (with_reducible exact (Chg.refl _ _).drewN _) | (with_reducible exact (Chg.refl _ _).drew) | exact ⟨rfl, rfl, rfl, Nat.le_refl _, fun _ _ _ => rfl⟩) ?_; clear hK K
  try simp only [Act.put, List.setIfInBounds_toArray, List.set_cons_zero, List.set_cons_succ]
  refine seq_calc (by simp only [List.getElem?_toArray, List.getElem?_cons_succ, List.getElem?_cons_zero]; rfl) (by rfl) (fun u => by go_simp <;> with_reducible rfl) ?_
  try simp only [Act.put, List.setIfInBounds_toArray, List.set_cons_zero, List.set_cons_succ]
  refine seq_load1 (by simp only [List.getElem?_toArray, List.getElem?_cons_succ, List.getElem?_cons_zero]; rfl) (by rfl) rfl rfl Tryd.underlying3 rfl (by go_simp <;> with_reducible rfl) (by first | exact id | assumption | (simp; done) | (simp; omega)) ?_
  try simp only [Act.put, List.setIfInBounds_toArray, List.set_cons_zero, List.set_cons_succ]
  refine seq_calc (by simp only [List.getElem?_toArray, List.getElem?_cons_succ, List.getElem?_cons_zero]; rfl) (by rfl) (fun u => by go_simp <;> with_reducible rfl) ?_
  try simp only [Act.put, List.setIfInBounds_toArray, List.set_cons_zero, List.set_cons_succ]
  refine seq_nil ?_
  go_wp2
  go_ret
  exact ⟨rfl, rfl⟩
theorem dentry_ok (B R d : Nat) (es : List Int) (i : Nat) (hi : i < es.length) (w : World) (hD : DW w B R d es) :
    Calls Tryd.prog 158 #[.pointer (some ⟨B, 0, none⟩), .int .i64 (i : Int)] w fun e w' => e = .returned (.tuple #[.int .i64 (es.getD i 0), .nilIface]) ∧ w = w' := by
  have c1 := hD.head.cell 1
  have c2 := hD.cellD i hi
  have hp := hD.pos
  have e1 : decide ((i : Int) < 0) = false := by simp
  have e2 : decide ((i : Int) ≥ (es.length : Int)) = false := by simp; omega
  have hlt' : (i : Int) < (es.length : Int) := by omega
  clear hD
  generalize es.getD i 0 = x at *
  go_enter Tryd.func158, Tryd.ntmps158
  go_wp2
  go_ret2
  exact ⟨rfl, rfl⟩
theorem dentry_bad (B R d : Nat) (es : List Int) (i : Int) (hi : i < 0 ∨ (es.length : Int) ≤ i) (E : Nat → Addr) (w : World) (hD : DW w B R d es) (he : EC w E [1]) :
    Calls Tryd.prog 158 #[.pointer (some ⟨B, 0, none⟩), .int .i64 i] w fun e w' => e = .returned (.tuple #[.int .i64 0, errAt E 1]) ∧ w.drew = w' := by
  have c1 := hD.head.cell 1
  have hc : w.cell? ⟨3, 0, none⟩ = some (errAt E 1) := he 1 (by decide)
  clear hD he
  by_cases h0 : i < 0
  · have e1 : decide (i < 0) = true := by simpa using h0
    clear hi
    go_enter Tryd.func158, Tryd.ntmps158
    go_wp2
    refine wp_region_seq (fun _ => False) #[⟨0, 0, 131072, 0, 1⟩, ⟨0, 0, 16, 0, 0⟩, ⟨3, 3, 32, 131072, 0⟩] 1 [(0, 1), (1, 0), (2, 0)] (by kernel_rfl) (by kernel_rfl) (by kernel_rfl) (by kernel_rfl) (by kernel_rfl) (by kernel_rfl) (fun c a d v w h => by cases d <;> exact h) ?_
    refine seq_load1 (by simp only [List.getElem?_toArray, List.getElem?_cons_succ, List.getElem?_cons_zero]; rfl) (by rfl) rfl rfl Tryd.underlying25 rfl (by go_simp <;> with_reducible rfl) (by first | exact id | assumption | (simp; done) | (simp; omega)) ?_
    try simp only [Act.put, List.setIfInBounds_toArray, List.set_cons_zero, List.set_cons_succ]
    refine seq_calc (by simp only [List.getElem?_toArray, List.getElem?_cons_succ, List.getElem?_cons_zero]; rfl) (by rfl) (fun u => by go_simp <;> with_reducible rfl) ?_
    try simp only [Act.put, List.setIfInBounds_toArray, List.set_cons_zero, List.set_cons_succ]
    refine seq_calc (by simp only [List.getElem?_toArray, List.getElem?_cons_succ, List.getElem?_cons_zero]; rfl) (by rfl) (fun u => by go_simp <;> with_reducible rfl) ?_
    try simp only [Act.put, List.setIfInBounds_toArray, List.set_cons_zero, List.set_cons_succ]
    refine seq_nil ?_
    go_wp2
    go_ret2
    exact ⟨rfl, rfl⟩
  · have e1 : decide (i < 0) = false := by simpa using h0
    have e2 : decide (i ≥ (es.length : Int)) = true := by simp; omega
    clear hi h0
    go_enter Tryd.func158, Tryd.ntmps158
    go_wp2
    refine wp_region_seq (fun _ => False) #[⟨0, 0, 131072, 0, 1⟩, ⟨0, 0, 16, 0, 0⟩, ⟨3, 3, 32, 131072, 0⟩] 1 [(0, 1), (1, 0), (2, 0)] (by kernel_rfl) (by kernel_rfl) (by kernel_rfl) (by kernel_rfl) (by kernel_rfl) (by kernel_rfl) (fun c a d v w h => by cases d <;> exact h) ?_
    refine seq_load1 (by simp only [List.getElem?_toArray, List.getElem?_cons_succ, List.getElem?_cons_zero]; rfl) (by rfl) rfl rfl Tryd.underlying25 rfl (by go_simp <;> with_reducible rfl) (by first | exact id | assumption | (simp; done) | (simp; omega)) ?_
    try simp only [Act.put, List.setIfInBounds_toArray, List.set_cons_zero, List.set_cons_succ]
    refine seq_calc (by simp only [List.getElem?_toArray, List.getElem?_cons_succ, List.getElem?_cons_zero]; rfl) (by rfl) (fun u => by go_simp <;> with_reducible rfl) ?_
    try simp only [Act.put, List.setIfInBounds_toArray, List.set_cons_zero, List.set_cons_succ]
    refine seq_calc (by simp only [List.getElem?_toArray, List.getElem?_cons_succ, List.getElem?_cons_zero]; rfl) (by rfl) (fun u => by go_simp <;> with_reducible rfl) ?_
    try simp only [Act.put, List.setIfInBounds_toArray, List.set_cons_zero, List.set_cons_succ]
    refine seq_nil ?_
    go_wp2
    go_ret2
    exact ⟨rfl, rfl⟩
theorem ownsRowD_slice {W : World} {base : Nat} {e : TypeId} {size : Nat} {v : Value} {k : Nat} {xs : List Value} (h : W.ownsRow base e size v k xs) : ∃ a cap, v = .slice a k cap := by
  rcases h.2 with ⟨rfl, rfl⟩ | ⟨g, cap, _, rfl, _⟩
  · exact ⟨_, _, rfl⟩
  · exact ⟨_, _, rfl⟩
theorem ownsRowD_empty {w : World} {g : Nat} {e : TypeId} (h : Blk w g e #[]) : w.ownsRow g e 1 (.slice (some ⟨g, 0, none⟩) 0 0) 0 [] :=
  ⟨by simp, .inr ⟨g, 0, #[], rfl, Nat.le_refl _, h, by simp, by decide, rfl, by simp⟩⟩
theorem ownsRowD_blk {w : World} {base g : Nat} {e : TypeId} {n : Nat} {xs : List Value} (h : w.ownsRow base e 1 (.slice (some ⟨g, 0, none⟩) n n) n xs) : Blk w g e xs.toArray := by
  rcases h.2 with ⟨h1, _⟩ | ⟨g', cap, cur, h1, _, h3, _, _, h4, h5⟩
  · cases h1
  · simp only [Value.slice.injEq, Option.some.injEq, Addr.mk.injEq, and_true, true_and] at h1
    obtain ⟨rfl, rfl⟩ := h1
    have : xs = cur.toList := by rw [← h5, List.take_of_length_le (by simp [h4])]
    rw [this]
    exact h3
theorem infoD : (Tryd.prog.info? 3).map (fun i => (i.zero, i.size, i.bytes)) = some (some (.int .i64 0), 1, 8) := by kernel_rfl
/-- a list, newly made -/
def GivesD (xs : List Int) (w : World) (e : Ending) (w' : World) : Prop := ∃ a cap, e = .returned (.slice a xs.length cap) ∧ w'.ownsRow w.heap.size 3 1 (.slice a xs.length cap) xs.length (xs.map (Value.int .i64)) ∧ Below w.heap.size w w'
set_option maxRecDepth 100000 in
set_option maxHeartbeats 1600000 in
theorem clone_any (B : Nat) (xs : List Int) (cap : Nat) (hl : xs.length ≤ 1000) (w : World) (h : Blk w B 3 (xs.map (Value.int .i64)).toArray) :
    Calls Tryd.prog 129 #[.slice (some ⟨B, 0, none⟩) xs.length cap] w (GivesD xs w) := by
  obtain ⟨i0, hi, hz0, hz1, hz2⟩ := info_parts infoD
  have hnf : ∀ w : World, (binOp .eql 52 (.slice (some ⟨B, 0, none⟩) xs.length cap) (.slice none 0 0)).run Tryd.prog w = .ok (.bool false) w := fun _ => by kernel_rfl
  have hBz := h.lt
  have hnews : ∀ j u, (xs.map (Value.int .i64))[j]? = some u → (w.alloc (.cells #[] 3)).cell? ((⟨B, 0, none⟩ : Addr).add j) = some u := by
    intro j u hj
    rw [show (⟨B, 0, none⟩ : Addr).add j = ⟨B, j, none⟩ by simp [Addr.add]; intro e; exact e.symm]
    rw [(h.alloc _).cell]
    simpa using hj
  have HN := Lib.hid hnews
  clear h hnews
  go_enter Tryd.func129, Tryd.ntmps129
  go_wp2_with (at_builtin; refine wpList_append_own _ rfl _ _ 52 rfl w.heap.size 3 i0 (.int .i64 0) 1 8 Tryd.underlying52 hi hz0 hz1 hz2 rfl (by decide) (.slice (some ⟨w.heap.size, 0, none⟩) 0 0) 0 [] rfl (ownsRowD_empty (Blk.new w _ _)) ⟨B, 0, none⟩ xs.length cap (xs.map (Value.int .i64)) rfl (by simp) HN.out (by simp [Value.oneCell']) (by unfold maxLen; omega) (by omega) (by simp) ?_; intro v4 w4 hown4 hgrow4 _; have hb4 : Below w.heap.size w w4 := Below.grown ((Below.refl _ _).alloc (Nat.le_refl _) _) hgrow4 (by simp) (fun k e => by simp [Value.ownBlock] at e; omega); clear hgrow4; simp only [Nat.zero_add, List.nil_append] at hown4; obtain ⟨a4, c4, rfl⟩ := ownsRowD_slice hown4; replace hown4 := Lib.hid hown4)
  go_ret
  exact ⟨a4, c4, rfl, hown4.out, hb4⟩
theorem dlist_any (B R d : Nat) (es : List Int) (w : World) (hD : DW w B R d es) :
    Calls Tryd.prog 61 #[.pointer (some ⟨B, 0, none⟩)] w (GivesD es w) := by
  have c1 := hD.head.cell 1
  have hc := Lib.hid (clone_any R es es.length (by have := hD.pos; omega) w hD.ring)
  clear hD
  go_enter Tryd.func61, Tryd.ntmps61
  go_wp2_with (go_at_call 129; refine hc.out.mono ?_; rintro e w4 ⟨a4, c4, rfl, hr, hb⟩; replace hr := Lib.hid hr)
  go_ret
  exact ⟨a4, c4, rfl, hr.out, hb⟩
theorem dput_bad (B R d : Nat) (es : List Int) (i id : Int) (hi : i < 0 ∨ (es.length : Int) ≤ i ∨ id < 0) (E : Nat → Addr) (w : World) (hD : DW w B R d es) (he : EC w E [1]) :
    Calls Tryd.prog 119 #[.pointer (some ⟨B, 0, none⟩), .int .i64 i, .int .i64 id] w fun e w' => e = .returned (errAt E 1) ∧ Below w.heap.size w w' := by
  have hc : w.cell? ⟨3, 0, none⟩ = some (errAt E 1) := he 1 (by decide)
  by_cases h0 : i < 0 ∨ (es.length : Int) ≤ i
  · have hb := Lib.hid (dentry_bad B R d es i h0 E w hD he)
    unfold errAt at *
    clear hi h0 hD he
    go_enter Tryd.func119, Tryd.ntmps119
    go_wp2_with (go_at_call 158; refine hb.out.mono ?_; rintro e w' ⟨rfl, rfl⟩)
    go_ret
    exact ⟨rfl, (Below.refl _ _).drew⟩
  · obtain ⟨k, rfl⟩ : ∃ k : Nat, i = (k : Int) := ⟨i.toNat, by omega⟩
    have hb := Lib.hid (dentry_ok B R d es k (by omega) w hD)
    have e1 : decide (id < 0) = true := by simp; omega
    clear hi h0 hD he
    go_enter Tryd.func119, Tryd.ntmps119
    go_wp2_with (go_at_call 158; refine hb.out.mono ?_; rintro e w' ⟨rfl, rfl⟩)
    go_ret
    exact ⟨rfl, Below.refl _ _⟩
theorem DW.set {w : World} {B R d : Nat} {es : List Int} (h : DW w B R d es) (i : Nat) (x : Int) : DW (w.setCell ⟨R, i, none⟩ (.int .i64 x)) B R d (es.set i x) := by
  refine ⟨?_, ?_, h.ne, h.deep, by rw [List.length_set]; exact h.len⟩
  · rw [List.length_set]; exact h.head.other h.ne _ _
  · have := h.ring.set i (.int .i64 x)
    simpa using this
theorem dput_ok (B R d : Nat) (es : List Int) (i : Nat) (id : Int) (hi : i < es.length) (h0 : 0 ≤ id) (w : World) (hD : DW w B R d es) :
    Calls Tryd.prog 119 #[.pointer (some ⟨B, 0, none⟩), .int .i64 (i : Int), .int .i64 id] w fun e w' => e = .returned .nilIface ∧ w.setCell ⟨R, i, none⟩ (.int .i64 id) = w' := by
  have hb := Lib.hid (dentry_ok B R d es i hi w hD)
  have c1 := hD.head.cell 1
  have c2 := hD.cellD i hi
  have f2 := hD.ring.frozen i
  have hp := hD.pos
  have e1 : decide (id < 0) = false := by simp; omega
  have hlt' : (i : Int) < (es.length : Int) := by omega
  clear hD
  go_enter Tryd.func119, Tryd.ntmps119
  go_wp2_with (go_at_call 158; refine hb.out.mono ?_; rintro e w' ⟨rfl, rfl⟩)
  go_ret
  exact ⟨rfl, rfl⟩
/-- a directory, newly made -/
def NewD (d : Nat) (w : World) (e : Ending) (w' : World) : Prop := ∃ B R, e = .returned (.tuple #[.pointer (some ⟨B, 0, none⟩), .nilIface]) ∧ DW w' B R d (List.replicate (2 ^ d) 0) ∧ w.heap.size ≤ B ∧ w.heap.size ≤ R ∧ Below w.heap.size w w'
set_option maxRecDepth 100000 in
set_option maxHeartbeats 1600000 in
theorem dnew_ok (d : Nat) (hd : d ≤ 5) (w : World) : Calls Tryd.prog 118 #[.int .i64 (d : Int)] w (NewD d w) := by
  obtain ⟨i0, hi, hz0, hz1, hz2⟩ := info_parts infoD
  have e1 : decide ((d : Int) < 0) = false := by simp
  have e2 : decide ((d : Int) > 5) = false := by simp; omega
  have hs := pow_wrap d (by omega)
  have hy : 1 ≤ 2 ^ d ∧ 2 ^ d ≤ 32 := ⟨Nat.one_le_two_pow, Nat.pow_le_pow_right (by decide) hd⟩
  obtain ⟨y, hye⟩ : ∃ y, y = 2 ^ d := ⟨_, rfl⟩
  rw [← hye] at hs hy
  obtain ⟨y1, y2⟩ := hy
  replace hye := Lib.hid hye
  go_enter Tryd.func118, Tryd.ntmps118
  go_wp2_with (at_make; refine wpList_make_full _ rfl _ _ 52 rfl w.heap.size 3 i0 (.int .i64 0) 1 Tryd.underlying52 hi hz0 hz1 .i64 .i64 _ _ y rfl rfl hs hs (by rw [hz2]; omega) (by unfold maxLen; omega) (Nat.le_refl _) ?_; intro w1 hown1 hgrow1; have hb1 := Lib.hid (ownsRowD_blk hown1); have hB1 : Below w.heap.size w w1 := (Below.refl _ _).grown hgrow1 (Nat.le_refl _) (fun k e => by cases e); clear hgrow1 hown1)
  go_ret2
  refine ⟨w1.heap.size, w.heap.size, rfl, ⟨?_, ?_, by have := hb1.out.lt; omega, hd, by simp⟩, hB1.size, Nat.le_refl _, hB1.alloc hB1.size _⟩
  · have := Blk.new w1 185 #[.int .i64 (d : Int), .slice (some ⟨w.heap.size, 0, none⟩) y y]
    rw [List.length_replicate, ← hye.out]
    exact this
  · have := hb1.out.alloc (.cells #[.int .i64 (d : Int), .slice (some ⟨w.heap.size, 0, none⟩) y y] 185)
    rw [show (madeCells (Value.int .i64 0).cells (y * 1)).toList = List.replicate y (Value.int .i64 0) by rw [Nat.mul_one]; exact toList_madeCells_one _ _] at this
    rw [← hye.out, List.map_replicate]
    exact this
theorem dnew_bad (a : Int) (ha : a < 0 ∨ 5 < a) (E : Nat → Addr) (w : World) (he : EC w E [1]) :
    Calls Tryd.prog 118 #[.int .i64 a] w fun e w' => e = .returned (.tuple #[.pointer none, errAt E 1]) ∧ Below w.heap.size w w' := by
  have hc : w.cell? ⟨3, 0, none⟩ = some (errAt E 1) := he 1 (by decide)
  clear he
  by_cases h1 : a < 0
  · have e1 : decide (a < 0) = true := by simpa using h1
    clear ha h1
    go_enter Tryd.func118, Tryd.ntmps118
    go_wp2
    refine wp_region_seq (fun _ => False) #[⟨0, 0, 1024, 0, 1⟩, ⟨0, 0, 4, 0, 0⟩, ⟨3, 3, 8, 1024, 0⟩] 1 [(0, 1), (1, 0), (2, 0)] (by kernel_rfl) (by kernel_rfl) (by kernel_rfl) (by kernel_rfl) (by kernel_rfl) (by kernel_rfl) (fun c a d v w h => by cases d <;> exact h) ?_
    refine seq_load1 (by simp only [List.getElem?_toArray, List.getElem?_cons_succ, List.getElem?_cons_zero]; rfl) (by rfl) rfl rfl Tryd.underlying25 rfl (by go_simp <;> with_reducible rfl) (by first | exact id | assumption | (simp; done) | (simp; omega)) ?_
    try simp only [Act.put, List.setIfInBounds_toArray, List.set_cons_zero, List.set_cons_succ]
    refine seq_calc (by simp only [List.getElem?_toArray, List.getElem?_cons_succ, List.getElem?_cons_zero]; rfl) (by rfl) (fun u => by go_simp <;> with_reducible rfl) ?_
    try simp only [Act.put, List.setIfInBounds_toArray, List.set_cons_zero, List.set_cons_succ]
    refine seq_calc (by simp only [List.getElem?_toArray, List.getElem?_cons_succ, List.getElem?_cons_zero]; rfl) (by rfl) (fun u => by go_simp <;> with_reducible rfl) ?_
    try simp only [Act.put, List.setIfInBounds_toArray, List.set_cons_zero, List.set_cons_succ]
    refine seq_nil ?_
    go_wp2
    go_ret2
    exact ⟨rfl, (Below.refl _ _).drew⟩
  · have e1 : decide (a < 0) = false := by simpa using h1
    have e2 : decide (a > 5) = true := by simp; omega
    clear ha h1
    go_enter Tryd.func118, Tryd.ntmps118
    go_wp2
    refine wp_region_seq (fun _ => False) #[⟨0, 0, 1024, 0, 1⟩, ⟨0, 0, 4, 0, 0⟩, ⟨3, 3, 8, 1024, 0⟩] 1 [(0, 1), (1, 0), (2, 0)] (by kernel_rfl) (by kernel_rfl) (by kernel_rfl) (by kernel_rfl) (by kernel_rfl) (by kernel_rfl) (fun c a d v w h => by cases d <;> exact h) ?_
    refine seq_load1 (by simp only [List.getElem?_toArray, List.getElem?_cons_succ, List.getElem?_cons_zero]; rfl) (by rfl) rfl rfl Tryd.underlying25 rfl (by go_simp <;> with_reducible rfl) (by first | exact id | assumption | (simp; done) | (simp; omega)) ?_
    try simp only [Act.put, List.setIfInBounds_toArray, List.set_cons_zero, List.set_cons_succ]
    refine seq_calc (by simp only [List.getElem?_toArray, List.getElem?_cons_succ, List.getElem?_cons_zero]; rfl) (by rfl) (fun u => by go_simp <;> with_reducible rfl) ?_
    try simp only [Act.put, List.setIfInBounds_toArray, List.set_cons_zero, List.set_cons_succ]
    refine seq_calc (by simp only [List.getElem?_toArray, List.getElem?_cons_succ, List.getElem?_cons_zero]; rfl) (by rfl) (fun u => by go_simp <;> with_reducible rfl) ?_
    try simp only [Act.put, List.setIfInBounds_toArray, List.set_cons_zero, List.set_cons_succ]
    refine seq_nil ?_
    go_wp2
    go_ret2
    exact ⟨rfl, (Below.refl _ _).drew⟩

/-! ### Span, Set -/
theorem span_pow {p k d : Nat} (hk : k ≤ d) (hd : d ≤ 64) : topN (lowN p k) d = p * 2 ^ (d - k) := by
  unfold topN lowN
  rw [show 64 - k = (d - k) + (64 - d) by omega, Nat.pow_add, ← Nat.mul_assoc, Nat.mul_div_cancel _ (Nat.two_pow_pos _)]
theorem span_le {p k d : Nat} (hp : p < 2 ^ k) (hk : k ≤ d) : p * 2 ^ (d - k) + 2 ^ (d - k) ≤ 2 ^ d := by
  have h1 : (p + 1) * 2 ^ (d - k) ≤ 2 ^ k * 2 ^ (d - k) := Nat.mul_le_mul_right _ hp
  rw [← Nat.pow_add, show k + (d - k) = d by omega, Nat.add_mul, Nat.one_mul] at h1
  exact h1
theorem pow_wrapI (m : Nat) (hm : m ≤ 16) : IntKind.i64.wrap ((2 : Int) ^ m) = ((2 ^ m : Nat) : Int) := by
  have := pow_le16 hm
  rw [show ((2 : Int) ^ m) = ((2 ^ m : Nat) : Int) by simp]
  generalize 2 ^ m = y at *
  exact IntWalk.i64_in _ (by omega)
set_option maxHeartbeats 800000 in
theorem dspan_ok (B R d p k : Nat) (es : List Int) (hk : k ≤ d) (hp : p < 2 ^ k) (w : World) (hD : DW w B R d es) :
    Calls Tryd.prog 123 #[.pointer (some ⟨B, 0, none⟩), .int .i64 (p : Int), .int .i64 (k : Int)] w fun e w' => e = .returned (.tuple #[.int .i64 ((p * 2 ^ (d - k) : Nat) : Int), .int .i64 ((p * 2 ^ (d - k) + 2 ^ (d - k) : Nat) : Int), .nilIface]) ∧ w.drew = w' := by
  have c0 := hD.head.cell 0
  have hd := hD.deep
  have hl := Lib.hid (low_ok p k (by omega) hp)
  have hlt := lowN_lt hp (by omega)
  have ht := Lib.hid (top_ok (lowN p k) d hlt (by omega))
  rw [span_pow hk (by omega)] at ht
  have hb := span_le hp hk
  have h32 : 2 ^ d ≤ 32 := Nat.pow_le_pow_right (by decide) hd
  have hs := pow_wrap (d - k) (by omega)
  have e1 : decide ((k : Int) > (d : Int)) = false := by simp; omega
  have hsub : (d : Int) - (k : Int) = ((d - k : Nat) : Int) := by omega
  have hw : IntKind.i64.wrap ((d - k : Nat) : Int) = ((d - k : Nat) : Int) := IntWalk.i64_in _ (by omega)
  have hpw := pow_le16 (d := d - k) (by omega)
  have hs2 := pow_wrapI (d - k) (by omega)
  have hshift : ∀ w : World, (Op.shift .shl .i64 1 .i64 ((d - k : Nat) : Int)).run Tryd.prog w = .ok (.int .i64 ((2 ^ (d - k) : Nat) : Int)) w := fun w => by
    have := shl_i64 (P := Tryd.prog) (w := w) 1 (d - k) .i64 (by omega) (by omega)
    simpa using this
  generalize p * 2 ^ (d - k) = a at *
  generalize 2 ^ (d - k) = y at *
  have hw2 : IntKind.i64.wrap ((a : Int) + (y : Int)) = ((a + y : Nat) : Int) := by rw [← Int.natCast_add]; exact IntWalk.i64_in _ (by omega)
  generalize lowN p k = l at *
  clear hp hD hlt
  go_enter Tryd.func123, Tryd.ntmps123
  go_wp2_with (first
    | (go_at_call 159; refine (hl.out _).mono ?_; rintro e w' ⟨rfl, rfl⟩)
    | (go_at_call 126; refine (ht.out _).mono ?_; rintro e w' ⟨rfl, rfl⟩)
    | (go_at_call 125; refine (mustD_ok _ _).mono ?_; rintro e w' ⟨rfl, rfl⟩))
  refine wp_region_seq (fun _ => False) #[⟨0, 0, 34359738368, 64, 0⟩, ⟨0, 0, 68719476736, 64, 0⟩, ⟨0, 0, 137438953472, 1, 0⟩, ⟨4, 4, 274877906944, 137438953472, 0⟩, ⟨8, 12, 549755813888, 274877906944, 0⟩, ⟨16, 28, 1099511627776, 549755813888, 1⟩, ⟨0, 0, 2199023255552, 4, 0⟩, ⟨96, 124, 4398046511104, 3298534883328, 0⟩, ⟨128, 252, 8796093022208, 4398046511104, 0⟩, ⟨258, 510, 17592186044416, 8864812498944, 0⟩, ⟨3, 3, 64, 34359738368, 0⟩, ⟨2047, 2047, 128, 17592186044416, 0⟩, ⟨4095, 4095, 256, 0, 0⟩] 32 [(0, 0), (1, 0), (2, 0), (3, 0), (4, 0), (5, 1), (6, 0), (7, 0), (8, 0), (9, 0), (10, 0), (11, 0), (12, 0)] (by kernel_rfl) (by kernel_rfl) (by kernel_rfl) (by kernel_rfl) (by kernel_rfl) (by kernel_rfl) (fun c a d v w h => by cases d <;> exact h) ?_
  refine seq_calc (by simp only [List.getElem?_toArray, List.getElem?_cons_succ, List.getElem?_cons_zero]; rfl) (by rfl) (fun u => by go_simp <;> with_reducible rfl) ?_
  try simp only [Act.put, List.setIfInBounds_toArray, List.set_cons_zero, List.set_cons_succ]
  refine seq_calc (by simp only [List.getElem?_toArray, List.getElem?_cons_succ, List.getElem?_cons_zero]; rfl) (by rfl) (fun u => by go_simp <;> with_reducible rfl) ?_
  try simp only [Act.put, List.setIfInBounds_toArray, List.set_cons_zero, List.set_cons_succ]
  refine seq_calc (by simp only [List.getElem?_toArray, List.getElem?_cons_succ, List.getElem?_cons_zero]; rfl) (by rfl) (fun u => by go_simp <;> with_reducible rfl) ?_
  try simp only [Act.put, List.setIfInBounds_toArray, List.set_cons_zero, List.set_cons_succ]
  refine seq_calc (by simp only [List.getElem?_toArray, List.getElem?_cons_succ, List.getElem?_cons_zero]; rfl) (by rfl) (fun u => by go_simp <;> with_reducible rfl) ?_
  try simp only [Act.put, List.setIfInBounds_toArray, List.set_cons_zero, List.set_cons_succ]
  refine seq_calc (by simp only [List.getElem?_toArray, List.getElem?_cons_succ, List.getElem?_cons_zero]; rfl) (by rfl) (fun u => by go_simp <;> with_reducible rfl) ?_
  try simp only [Act.put, List.setIfInBounds_toArray, List.set_cons_zero, List.set_cons_succ]
  refine seq_load1 (by simp only [List.getElem?_toArray, List.getElem?_cons_succ, List.getElem?_cons_zero]; rfl) (by rfl) rfl rfl Tryd.underlying3 rfl (by go_simp <;> with_reducible rfl) (by first | exact id | assumption | (simp; done) | (simp; omega)) ?_
  try simp only [Act.put, List.setIfInBounds_toArray, List.set_cons_zero, List.set_cons_succ]
  refine seq_calc (by simp only [List.getElem?_toArray, List.getElem?_cons_succ, List.getElem?_cons_zero]; rfl) (by rfl) (fun u => by go_simp <;> with_reducible rfl) ?_
  try simp only [Act.put, List.setIfInBounds_toArray, List.set_cons_zero, List.set_cons_succ]
  refine seq_calc (by simp only [List.getElem?_toArray, List.getElem?_cons_succ, List.getElem?_cons_zero]; rfl) (by rfl) (fun u => by go_simp <;> with_reducible rfl) ?_
  try simp only [Act.put, List.setIfInBounds_toArray, List.set_cons_zero, List.set_cons_succ]
  refine seq_calc (by simp only [List.getElem?_toArray, List.getElem?_cons_succ, List.getElem?_cons_zero]; rfl) (by rfl) (fun u => by go_simp <;> with_reducible rfl) ?_
  try simp only [Act.put, List.setIfInBounds_toArray, List.set_cons_zero, List.set_cons_succ]
  refine seq_calc (by simp only [List.getElem?_toArray, List.getElem?_cons_succ, List.getElem?_cons_zero]; rfl) (by rfl) (fun u => by go_simp <;> with_reducible rfl) ?_
  try simp only [Act.put, List.setIfInBounds_toArray, List.set_cons_zero, List.set_cons_succ]
  refine seq_calc (by simp only [List.getElem?_toArray, List.getElem?_cons_succ, List.getElem?_cons_zero]; rfl) (by rfl) (fun u => by go_simp <;> with_reducible rfl) ?_
  try simp only [Act.put, List.setIfInBounds_toArray, List.set_cons_zero, List.set_cons_succ]
  refine seq_calc (by simp only [List.getElem?_toArray, List.getElem?_cons_succ, List.getElem?_cons_zero]; rfl) (by rfl) (fun u => by go_simp <;> with_reducible rfl) ?_
  try simp only [Act.put, List.setIfInBounds_toArray, List.set_cons_zero, List.set_cons_succ]
  refine seq_calc (by simp only [List.getElem?_toArray, List.getElem?_cons_succ, List.getElem?_cons_zero]; rfl) (by rfl) (fun u => by go_simp <;> with_reducible rfl) ?_
  try simp only [Act.put, List.setIfInBounds_toArray, List.set_cons_zero, List.set_cons_succ]
  refine seq_nil ?_
  go_wp2
  go_ret3
  exact ⟨rfl, rfl⟩
theorem dspan_bad (B R d : Nat) (p k : Int) (es : List Int) (hb : (d : Int) < k ∨ ¬ Pre p k) (E : Nat → Addr) (w : World) (hD : DW w B R d es) (he : EC w E [1]) :
    Calls Tryd.prog 123 #[.pointer (some ⟨B, 0, none⟩), .int .i64 p, .int .i64 k] w fun e w' => e = .returned (.tuple #[.int .i64 0, .int .i64 0, errAt E 1]) ∧ w.drew = w' := by
  have c0 := hD.head.cell 0
  have hc : w.cell? ⟨3, 0, none⟩ = some (errAt E 1) := he 1 (by decide)
  by_cases h1 : (d : Int) < k
  · have e1 : decide (k > (d : Int)) = true := by simpa using h1
    clear hb hD he
    go_enter Tryd.func123, Tryd.ntmps123
    go_wp2
    refine wp_region_seq (fun _ => False) #[⟨0, 0, 65536, 0, 1⟩, ⟨0, 0, 64, 0, 0⟩, ⟨2, 2, 128, 0, 0⟩, ⟨7, 7, 256, 65536, 0⟩] 1 [(0, 1), (1, 0), (2, 0), (3, 0)] (by kernel_rfl) (by kernel_rfl) (by kernel_rfl) (by kernel_rfl) (by kernel_rfl) (by kernel_rfl) (fun c a d v w h => by cases d <;> exact h) ?_
    refine seq_load1 (by simp only [List.getElem?_toArray, List.getElem?_cons_succ, List.getElem?_cons_zero]; rfl) (by rfl) rfl rfl Tryd.underlying25 rfl (by go_simp <;> with_reducible rfl) (by first | exact id | assumption | (simp; done) | (simp; omega)) ?_
    try simp only [Act.put, List.setIfInBounds_toArray, List.set_cons_zero, List.set_cons_succ]
    refine seq_calc (by simp only [List.getElem?_toArray, List.getElem?_cons_succ, List.getElem?_cons_zero]; rfl) (by rfl) (fun u => by go_simp <;> with_reducible rfl) ?_
    try simp only [Act.put, List.setIfInBounds_toArray, List.set_cons_zero, List.set_cons_succ]
    refine seq_calc (by simp only [List.getElem?_toArray, List.getElem?_cons_succ, List.getElem?_cons_zero]; rfl) (by rfl) (fun u => by go_simp <;> with_reducible rfl) ?_
    try simp only [Act.put, List.setIfInBounds_toArray, List.set_cons_zero, List.set_cons_succ]
    refine seq_calc (by simp only [List.getElem?_toArray, List.getElem?_cons_succ, List.getElem?_cons_zero]; rfl) (by rfl) (fun u => by go_simp <;> with_reducible rfl) ?_
    try simp only [Act.put, List.setIfInBounds_toArray, List.set_cons_zero, List.set_cons_succ]
    refine seq_nil ?_
    go_wp2
    go_ret3
    exact ⟨rfl, rfl⟩
  · have e1 : decide (k > (d : Int)) = false := by simpa using h1
    have hl := Lib.hid (low_bad p k (hb.resolve_left h1) E w he)
    unfold errAt at *
    clear hb hD he h1
    go_enter Tryd.func123, Tryd.ntmps123
    go_wp2_with (go_at_call 159; refine hl.out.mono ?_; rintro e w' ⟨rfl, rfl⟩)
    go_ret3
    exact ⟨rfl, rfl⟩
/-- n entries from a on set to x -/
def setsL (es : List Int) (a : Nat) : Nat → Int → List Int
  | 0, _ => es
  | n + 1, x => (setsL es a n x).set (a + n) x
theorem setsL_len (es : List Int) (a n : Nat) (x : Int) : (setsL es a n x).length = es.length := by
  induction n with
  | zero => rfl
  | succ n ih => simp [setsL, ih]
theorem setsL_get (es : List Int) (a n : Nat) (x : Int) (h : a + n ≤ es.length) (j : Nat) (hj : j < es.length) : (setsL es a n x).getD j 0 = if a ≤ j ∧ j < a + n then x else es.getD j 0 := by
  induction n with
  | zero => simp only [setsL]; rw [if_neg (by omega)]
  | succ n ih =>
    have hl := setsL_len es a n x
    simp only [setsL, List.getD_eq_getElem?_getD, List.getElem?_set]
    by_cases e : a + n = j
    · subst e; rw [if_pos rfl, if_pos (by omega), if_pos (by omega)]; rfl
    · rw [if_neg e]
      have := ih (by omega)
      simp only [List.getD_eq_getElem?_getD] at this
      rw [this]
      by_cases c : a ≤ j ∧ j < a + n
      · rw [if_pos c, if_pos (by omega)]
      · rw [if_neg c, if_neg (by omega)]
set_option maxHeartbeats 1600000 in
theorem dset_ok (B R d p k : Nat) (es : List Int) (x : Int) (hk : k ≤ d) (hp : p < 2 ^ k) (hx : 0 ≤ x) (w : World) (hD : DW w B R d es) :
    Calls Tryd.prog 122 #[.pointer (some ⟨B, 0, none⟩), .int .i64 (p : Int), .int .i64 (k : Int), .int .i64 x] w fun e w' => e = .returned (.tuple #[.int .i64 ((2 ^ (d - k) : Nat) : Int), .nilIface]) ∧ DW w' B R d (setsL es (p * 2 ^ (d - k)) (2 ^ (d - k)) x) ∧ Chg (fun b => b = R) w w' := by
  have hs := Lib.hid (dspan_ok B R d p k es hk hp w hD)
  have hb := span_le hp hk
  have hy := Nat.two_pow_pos (d - k)
  have c1 := hD.head.cell 1
  rw [← hD.len] at hb
  have hpos := hD.pos
  have HD := Lib.hid hD
  generalize p * 2 ^ (d - k) = a at *
  generalize 2 ^ (d - k) = y at *
  have e1 : decide (x < 0) = false := by simp; omega
  clear hp hD
  go_enter Tryd.func122, Tryd.ntmps122
  go_wp2_with (go_at_call 123; refine hs.out.mono ?_; rintro e w' ⟨rfl, rfl⟩)
  go_loopw [13, 38] (fun v13 v38 wr => ∃ i : Nat, i ≤ y ∧ v38 = .int .i64 (i : Int) ∧ DW wr B R d (setsL es a i x) ∧ Chg (fun b => b = R) w wr) (fun _ v38 _ => y - (intOf v38).toNat)
  case atStart => exact ⟨0, Nat.zero_le _, rfl, HD.out.below (Below.refl _ _).drew, (Chg.refl _ _).drew⟩
  case round =>
    obtain ⟨i, hi, rfl, hDi, hc⟩ := hrel
    have HDi := Lib.hid hDi
    have hsl := setsL_len es a i x
    by_cases hlt : i < y
    · have hlt' : (i : Int) < (y : Int) := by omega
      have g1 := hDi.head.cell 1
      have g2 := hDi.cellD (a + i) (by rw [hsl]; omega)
      have g3 := hDi.ring.frozen (a + i)
      rw [hsl] at g1
      have hst := Lib.hid (hDi.set (a + i) x)
      generalize (setsL es a i x).getD (a + i) 0 = z at g2
      replace hsl := Lib.hid hsl
      have hai : (a : Int) + (i : Int) < (es.length : Int) := by omega
      clear hDi c1
      go_wp2
      go_roundw
      case rel => exact ⟨i + 1, by omega, by go_num, hst.out, hc.set1 _ _⟩
      case measure => simp [intOf]; omega
    · obtain rfl : i = y := by omega
      replace hsl := Lib.hid hsl
      clear hDi c1
      have hay : (a : Int) + (i : Int) - (a : Int) = (i : Int) := by omega
      go_wp2
      go_ret2
      exact ⟨rfl, HDi.out, hc⟩
theorem dset_bad (B R d : Nat) (es : List Int) (p k x : Int) (hb : (d : Int) < k ∨ ¬ Pre p k ∨ x < 0) (E : Nat → Addr) (w : World) (hD : DW w B R d es) (he : EC w E [1]) :
    Calls Tryd.prog 122 #[.pointer (some ⟨B, 0, none⟩), .int .i64 p, .int .i64 k, .int .i64 x] w fun e w' => e = .returned (.tuple #[.int .i64 0, errAt E 1]) ∧ Below w.heap.size w w' := by
  have hc : w.cell? ⟨3, 0, none⟩ = some (errAt E 1) := he 1 (by decide)
  by_cases h1 : (d : Int) < k ∨ ¬ Pre p k
  · have hs := Lib.hid (dspan_bad B R d p k es h1 E w hD he)
    unfold errAt at *
    clear hb h1 hD he
    go_enter Tryd.func122, Tryd.ntmps122
    go_wp2_with (go_at_call 123; refine hs.out.mono ?_; rintro e w' ⟨rfl, rfl⟩)
    go_ret2
    exact ⟨rfl, (Below.refl _ _).drew⟩
  · have h2 : ¬ (d : Int) < k := fun h => h1 (.inl h)
    have h3 : Pre p k := Decidable.byContradiction fun h => h1 (.inr h)
    obtain ⟨⟨k0, k1⟩, k2, k3⟩ := h3
    obtain ⟨m, rfl⟩ : ∃ m : Nat, k = (m : Int) := ⟨k.toNat, by omega⟩
    obtain ⟨q, rfl⟩ : ∃ q : Nat, p = (q : Int) := ⟨p.toNat, by omega⟩
    have hs := dspan_ok B R d q m es (by omega) (by simpa using Int.ofNat_lt.1 k3) w hD
    have hx : x < 0 := by
      rcases hb with h | h | h
      · exact absurd h h2
      · exact absurd ⟨⟨k0, k1⟩, k2, k3⟩ h
      · exact h
    have e1 : decide (x < 0) = true := by simpa using hx
    replace hs := Lib.hid hs
    clear hb h1 hD he h2 k3 hx
    go_enter Tryd.func122, Tryd.ntmps122
    go_wp2_with (go_at_call 123; refine hs.out.mono ?_; rintro e w' ⟨rfl, rfl⟩)
    refine wp_region_seq (fun _ => False) #[⟨0, 0, 536870912, 0, 1⟩, ⟨0, 0, 256, 0, 0⟩, ⟨3, 3, 512, 536870912, 0⟩] 1 [(0, 1), (1, 0), (2, 0)] (by kernel_rfl) (by kernel_rfl) (by kernel_rfl) (by kernel_rfl) (by kernel_rfl) (by kernel_rfl) (fun c a d v w h => by cases d <;> exact h) ?_
    refine seq_load1 (by simp only [List.getElem?_toArray, List.getElem?_cons_succ, List.getElem?_cons_zero]; rfl) (by rfl) rfl rfl Tryd.underlying25 rfl (by go_simp <;> with_reducible rfl) (by first | exact id | assumption | (simp; done) | (simp; omega)) ?_
    try simp only [Act.put, List.setIfInBounds_toArray, List.set_cons_zero, List.set_cons_succ]
    refine seq_calc (by simp only [List.getElem?_toArray, List.getElem?_cons_succ, List.getElem?_cons_zero]; rfl) (by rfl) (fun u => by go_simp <;> with_reducible rfl) ?_
    try simp only [Act.put, List.setIfInBounds_toArray, List.set_cons_zero, List.set_cons_succ]
    refine seq_calc (by simp only [List.getElem?_toArray, List.getElem?_cons_succ, List.getElem?_cons_zero]; rfl) (by rfl) (fun u => by go_simp <;> with_reducible rfl) ?_
    try simp only [Act.put, List.setIfInBounds_toArray, List.set_cons_zero, List.set_cons_succ]
    refine seq_nil ?_
    go_wp2
    go_ret2
    exact ⟨rfl, ((Below.refl _ _).drew).drew⟩
end Go.Proofs.YtplimhllfbdocaaDoor
