/- The document's copyist. No condition. -/
import Derived.Test.YtplimhllfbdocaaDoorCopyist
import Derived.Test.YtplimhllfbdocaaDoorOwn
namespace Go.Proofs.YtplimhllfbdocaaDoor
set_option linter.unusedVariables false
set_option linter.unusedSimpArgs false
open Go.RowKit Go.Proofs

def rHead (M nx : Nat) (tk : Bool) : Array Value := #[.pointer (some ⟨M, 0, none⟩), .int .i64 (nx : Int), .bool tk]
structure RC (w : World) (K M Z d : Nat) (es : List Int) (nx : Nat) (tk : Bool) : Prop where
  head : Blk w K 102 (rHead M nx tk)
  old : RD w M Z d es
  le : nx ≤ es.length
  n1 : K ≠ M
  n2 : K ≠ Z
theorem RC.below {w w' : World} {K M Z d : Nat} {es : List Int} {nx : Nat} {tk : Bool} (h : RC w K M Z d es nx tk) (hb : Below w.heap.size w w') : RC w' K M Z d es nx tk :=
  ⟨h.head.below hb h.head.lt, h.old.below hb, h.le, h.n1, h.n2⟩
theorem RC.chg {X : Nat → Prop} {w w' : World} {K M Z d : Nat} {es : List Int} {nx : Nat} {tk : Bool} (h : RC w K M Z d es nx tk) (hb : Chg X w w') (x1 : ¬ X K) (x2 : ¬ X M) (x3 : ¬ X Z) : RC w' K M Z d es nx tk :=
  ⟨h.head.chg hb x1, h.old.chg hb x2 x3, h.le, h.n1, h.n2⟩
theorem rHead_cells {w : World} {K M nx : Nat} {T : TypeId} {tk : Bool} (h : Blk w K T (rHead M nx tk)) :
    (w.cell? ⟨K, 0, none⟩ = some (.pointer (some ⟨M, 0, none⟩)) ∧ w.cell? ⟨K, 1, none⟩ = some (.int .i64 (nx : Int)) ∧ w.cell? ⟨K, 2, none⟩ = some (.bool tk)) ∧ (w.frozen? ⟨K, 1, none⟩ = false ∧ w.frozen? ⟨K, 2, none⟩ = false) :=
  ⟨⟨h.cell 0, h.cell 1, h.cell 2⟩, h.frozen 1, h.frozen 2⟩
theorem rdHead_cells {w : World} {M Z d : Nat} {es : List Int} (h : RD w M Z d es) : w.cell? ⟨M, 0, none⟩ = some (.int .i64 (d : Int)) ∧ w.cell? ⟨M, 1, none⟩ = some (.slice (some ⟨Z, 0, none⟩) es.length es.length) := ⟨h.head.cell 0, h.head.cell 1⟩
set_option maxRecDepth 100000 in
set_option maxHeartbeats 2000000 in
theorem rstep_end (K M Z d : Nat) (es : List Int) (tk : Bool) (w : World) (h : RC w K M Z d es es.length tk) :
    Calls Tryd.prog 63 #[.pointer (some ⟨K, 0, none⟩)] w fun e w' => e = .returned (.bool false) ∧ Below w.heap.size w w' := by
  obtain ⟨hc, -⟩ := rHead_cells h.head
  obtain ⟨hm0, hm1⟩ := rdHead_cells h.old
  have hq : ((es.length : Int) == (es.length : Int)) = true := by simp
  generalize es.length = n at *
  clear h
  go_enter Tryd.func63, Tryd.ntmps63
  go_wp2
  refine wp_region_seq (fun _ => False) #[⟨0, 0, 8, 1, 0⟩, ⟨1, 1, 16, 8, 0⟩, ⟨2, 3, 32, 16, 0⟩, ⟨4, 7, 64, 32, 1⟩, ⟨0, 0, 128, 1, 0⟩, ⟨16, 16, 256, 128, 0⟩, ⟨32, 48, 512, 256, 0⟩, ⟨64, 112, 1024, 512, 1⟩, ⟨128, 240, 2048, 1024, 0⟩, ⟨256, 496, 4096, 2048, 0⟩, ⟨512, 1008, 8192, 4096, 1⟩, ⟨1024, 2032, 16384, 8192, 0⟩, ⟨2056, 4095, 32768, 16448, 0⟩] 1160 [(0, 0), (1, 0), (2, 0), (3, 1), (4, 0), (5, 0), (6, 0), (7, 1), (8, 0), (9, 0), (10, 1), (11, 0), (12, 0)] (by kernel_rfl) (by kernel_rfl) (by kernel_rfl) (by kernel_rfl) (by kernel_rfl) (by kernel_rfl) (fun c a d v w h => by cases d <;> exact h) ?_
  refine seq_calc (by simp only [List.getElem?_toArray, List.getElem?_cons_succ, List.getElem?_cons_zero]; rfl) (by rfl) (fun u => by go_simp <;> with_reducible rfl) ?_
  try simp only [Act.put, List.setIfInBounds_toArray, List.set_cons_zero, List.set_cons_succ]
  refine seq_calc (by simp only [List.getElem?_toArray, List.getElem?_cons_succ, List.getElem?_cons_zero]; rfl) (by rfl) (fun u => by go_simp <;> with_reducible rfl) ?_
  try simp only [Act.put, List.setIfInBounds_toArray, List.set_cons_zero, List.set_cons_succ]
  refine seq_calc (by simp only [List.getElem?_toArray, List.getElem?_cons_succ, List.getElem?_cons_zero]; rfl) (by rfl) (fun u => by go_simp <;> with_reducible rfl) ?_
  try simp only [Act.put, List.setIfInBounds_toArray, List.set_cons_zero, List.set_cons_succ]
  refine seq_load1 (by simp only [List.getElem?_toArray, List.getElem?_cons_succ, List.getElem?_cons_zero]; rfl) (by rfl) rfl rfl Tryd.underlying3 rfl (by go_simp <;> with_reducible rfl) (by first | exact id | assumption | (simp; done) | (simp; omega)) ?_
  try simp only [Act.put, List.setIfInBounds_toArray, List.set_cons_zero, List.set_cons_succ]
  refine seq_calc (by simp only [List.getElem?_toArray, List.getElem?_cons_succ, List.getElem?_cons_zero]; rfl) (by rfl) (fun u => by go_simp <;> with_reducible rfl) ?_
  try simp only [Act.put, List.setIfInBounds_toArray, List.set_cons_zero, List.set_cons_succ]
  refine seq_calc (by simp only [List.getElem?_toArray, List.getElem?_cons_succ, List.getElem?_cons_zero]; rfl) (by rfl) (fun u => by go_simp <;> with_reducible rfl) ?_
  try simp only [Act.put, List.setIfInBounds_toArray, List.set_cons_zero, List.set_cons_succ]
  refine seq_calc (by simp only [List.getElem?_toArray, List.getElem?_cons_succ, List.getElem?_cons_zero]; rfl) (by rfl) (fun u => by go_simp <;> with_reducible rfl) ?_
  try simp only [Act.put, List.setIfInBounds_toArray, List.set_cons_zero, List.set_cons_succ]
  refine seq_load1 (by simp only [List.getElem?_toArray, List.getElem?_cons_succ, List.getElem?_cons_zero]; rfl) (by rfl) rfl rfl Tryd.underlying100 rfl (by go_simp <;> with_reducible rfl) (by first | exact id | assumption | (simp; done) | (simp; omega)) ?_
  try simp only [Act.put, List.setIfInBounds_toArray, List.set_cons_zero, List.set_cons_succ]
  refine seq_calc (by simp only [List.getElem?_toArray, List.getElem?_cons_succ, List.getElem?_cons_zero]; rfl) (by rfl) (fun u => by go_simp <;> with_reducible rfl) ?_
  try simp only [Act.put, List.setIfInBounds_toArray, List.set_cons_zero, List.set_cons_succ]
  refine seq_calc (by simp only [List.getElem?_toArray, List.getElem?_cons_succ, List.getElem?_cons_zero]; rfl) (by rfl) (fun u => by go_simp <;> with_reducible rfl) ?_
  try simp only [Act.put, List.setIfInBounds_toArray, List.set_cons_zero, List.set_cons_succ]
  refine seq_load1 (by simp only [List.getElem?_toArray, List.getElem?_cons_succ, List.getElem?_cons_zero]; rfl) (by rfl) rfl rfl Tryd.underlying52 rfl (by go_simp <;> with_reducible rfl) (by first | exact id | assumption | (simp; done) | (simp; omega)) ?_
  try simp only [Act.put, List.setIfInBounds_toArray, List.set_cons_zero, List.set_cons_succ]
  refine seq_calc (by simp only [List.getElem?_toArray, List.getElem?_cons_succ, List.getElem?_cons_zero]; rfl) (by rfl) (fun u => by go_simp <;> with_reducible rfl) ?_
  try simp only [Act.put, List.setIfInBounds_toArray, List.set_cons_zero, List.set_cons_succ]
  refine seq_calc (by simp only [List.getElem?_toArray, List.getElem?_cons_succ, List.getElem?_cons_zero]; rfl) (by rfl) (fun u => by go_simp <;> with_reducible rfl) ?_
  try simp only [Act.put, List.setIfInBounds_toArray, List.set_cons_zero, List.set_cons_succ]
  refine seq_nil ?_
  go_wp2
  go_ret
  exact ⟨rfl, by go_grown⟩
set_option maxRecDepth 100000 in
set_option maxHeartbeats 2000000 in
theorem rstep_ok (K M Z d : Nat) (es : List Int) (nx : Nat) (tk : Bool) (hn : nx < es.length) (w : World) (h : RC w K M Z d es nx tk) :
    Calls Tryd.prog 63 #[.pointer (some ⟨K, 0, none⟩)] w fun e w' => e = .returned (.bool true) ∧ RC w' K M Z d es (nx + 1) tk ∧ Chg (fun b => b = K) w w' := by
  obtain ⟨hc, hf⟩ := rHead_cells h.head
  obtain ⟨hm0, hm1⟩ := rdHead_cells h.old
  have hpos := h.old.pos
  have HR := Lib.hid h
  have hq : ((nx : Int) == (es.length : Int)) = false := by simp; omega
  have hq2 : (nx == es.length) = false := by simp; omega
  have hn2 : nx < 32 := by omega
  have HN := Lib.hid hn
  generalize es.length = n at hm1 hq hq2 hpos
  clear h hn
  go_enter Tryd.func63, Tryd.ntmps63
  go_wp2
  refine wp_region_seq (fun _ => False) #[⟨0, 0, 8, 1, 0⟩, ⟨1, 1, 16, 8, 0⟩, ⟨2, 3, 32, 16, 0⟩, ⟨4, 7, 64, 32, 1⟩, ⟨0, 0, 128, 1, 0⟩, ⟨16, 16, 256, 128, 0⟩, ⟨32, 48, 512, 256, 0⟩, ⟨64, 112, 1024, 512, 1⟩, ⟨128, 240, 2048, 1024, 0⟩, ⟨256, 496, 4096, 2048, 0⟩, ⟨512, 1008, 8192, 4096, 1⟩, ⟨1024, 2032, 16384, 8192, 0⟩, ⟨2056, 4095, 32768, 16448, 0⟩] 1160 [(0, 0), (1, 0), (2, 0), (3, 1), (4, 0), (5, 0), (6, 0), (7, 1), (8, 0), (9, 0), (10, 1), (11, 0), (12, 0)] (by kernel_rfl) (by kernel_rfl) (by kernel_rfl) (by kernel_rfl) (by kernel_rfl) (by kernel_rfl) (fun c a d v w h => by cases d <;> exact h) ?_
  refine seq_calc (by simp only [List.getElem?_toArray, List.getElem?_cons_succ, List.getElem?_cons_zero]; rfl) (by rfl) (fun u => by go_simp <;> with_reducible rfl) ?_
  try simp only [Act.put, List.setIfInBounds_toArray, List.set_cons_zero, List.set_cons_succ]
  refine seq_calc (by simp only [List.getElem?_toArray, List.getElem?_cons_succ, List.getElem?_cons_zero]; rfl) (by rfl) (fun u => by go_simp <;> with_reducible rfl) ?_
  try simp only [Act.put, List.setIfInBounds_toArray, List.set_cons_zero, List.set_cons_succ]
  refine seq_calc (by simp only [List.getElem?_toArray, List.getElem?_cons_succ, List.getElem?_cons_zero]; rfl) (by rfl) (fun u => by go_simp <;> with_reducible rfl) ?_
  try simp only [Act.put, List.setIfInBounds_toArray, List.set_cons_zero, List.set_cons_succ]
  refine seq_load1 (by simp only [List.getElem?_toArray, List.getElem?_cons_succ, List.getElem?_cons_zero]; rfl) (by rfl) rfl rfl Tryd.underlying3 rfl (by go_simp <;> with_reducible rfl) (by first | exact id | assumption | (simp; done) | (simp; omega)) ?_
  try simp only [Act.put, List.setIfInBounds_toArray, List.set_cons_zero, List.set_cons_succ]
  refine seq_calc (by simp only [List.getElem?_toArray, List.getElem?_cons_succ, List.getElem?_cons_zero]; rfl) (by rfl) (fun u => by go_simp <;> with_reducible rfl) ?_
  try simp only [Act.put, List.setIfInBounds_toArray, List.set_cons_zero, List.set_cons_succ]
  refine seq_calc (by simp only [List.getElem?_toArray, List.getElem?_cons_succ, List.getElem?_cons_zero]; rfl) (by rfl) (fun u => by go_simp <;> with_reducible rfl) ?_
  try simp only [Act.put, List.setIfInBounds_toArray, List.set_cons_zero, List.set_cons_succ]
  refine seq_calc (by simp only [List.getElem?_toArray, List.getElem?_cons_succ, List.getElem?_cons_zero]; rfl) (by rfl) (fun u => by go_simp <;> with_reducible rfl) ?_
  try simp only [Act.put, List.setIfInBounds_toArray, List.set_cons_zero, List.set_cons_succ]
  refine seq_load1 (by simp only [List.getElem?_toArray, List.getElem?_cons_succ, List.getElem?_cons_zero]; rfl) (by rfl) rfl rfl Tryd.underlying100 rfl (by go_simp <;> with_reducible rfl) (by first | exact id | assumption | (simp; done) | (simp; omega)) ?_
  try simp only [Act.put, List.setIfInBounds_toArray, List.set_cons_zero, List.set_cons_succ]
  refine seq_calc (by simp only [List.getElem?_toArray, List.getElem?_cons_succ, List.getElem?_cons_zero]; rfl) (by rfl) (fun u => by go_simp <;> with_reducible rfl) ?_
  try simp only [Act.put, List.setIfInBounds_toArray, List.set_cons_zero, List.set_cons_succ]
  refine seq_calc (by simp only [List.getElem?_toArray, List.getElem?_cons_succ, List.getElem?_cons_zero]; rfl) (by rfl) (fun u => by go_simp <;> with_reducible rfl) ?_
  try simp only [Act.put, List.setIfInBounds_toArray, List.set_cons_zero, List.set_cons_succ]
  refine seq_load1 (by simp only [List.getElem?_toArray, List.getElem?_cons_succ, List.getElem?_cons_zero]; rfl) (by rfl) rfl rfl Tryd.underlying52 rfl (by go_simp <;> with_reducible rfl) (by first | exact id | assumption | (simp; done) | (simp; omega)) ?_
  try simp only [Act.put, List.setIfInBounds_toArray, List.set_cons_zero, List.set_cons_succ]
  refine seq_calc (by simp only [List.getElem?_toArray, List.getElem?_cons_succ, List.getElem?_cons_zero]; rfl) (by rfl) (fun u => by go_simp <;> with_reducible rfl) ?_
  try simp only [Act.put, List.setIfInBounds_toArray, List.set_cons_zero, List.set_cons_succ]
  refine seq_calc (by simp only [List.getElem?_toArray, List.getElem?_cons_succ, List.getElem?_cons_zero]; rfl) (by rfl) (fun u => by go_simp <;> with_reducible rfl) ?_
  try simp only [Act.put, List.setIfInBounds_toArray, List.set_cons_zero, List.set_cons_succ]
  refine seq_nil ?_
  go_wp2
  go_ret
  have hr := HR.out
  refine ⟨rfl, ⟨hr.head.drew.set 1 (.int .i64 ((nx : Int) + 1)), ⟨hr.old.head.drew.other (fun e => hr.n1 e.symm) _ _, hr.old.ring.drew.other (fun e => hr.n2 e.symm) _ _, hr.old.ne, hr.old.deep, hr.old.len⟩, HN.out, hr.n1, hr.n2⟩, ?_⟩
  exact (Chg.refl _ _).drew.set1 _ _
set_option maxRecDepth 100000 in
set_option maxHeartbeats 4000000 in
theorem rcset_ok (K M Z d p k : Nat) (es : List Int) (nx : Nat) (tk : Bool) (x : Int) (hk : k ≤ d) (hp : p < 2 ^ k) (hx : 0 ≤ x) (w : World) (h : RC w K M Z d es nx tk) :
    Calls Tryd.prog 59 #[.pointer (some ⟨K, 0, none⟩), .int .i64 (p : Int), .int .i64 (k : Int), .int .i64 x] w fun e w' =>
      e = .returned (.tuple #[.int .i64 ((2 ^ (d - k) + 2 * (min (p * 2 ^ (d - k) + 2 ^ (d - k)) nx - p * 2 ^ (d - k)) : Nat) : Int), .int .i64 0]) ∧ RC w' K M Z d (setsL es (p * 2 ^ (d - k)) (2 ^ (d - k)) x) nx tk ∧ Chg (fun b => b = Z) w w' := by
  have hpos := h.old.pos
  have hle := h.le
  have DS := rdset_ok M Z d p k es x hk hp hx w h.old
  have SP := fun w' hD => rdspan_ok M Z d p k (setsL es (p * 2 ^ (d - k)) (2 ^ (d - k)) x) hk hp w' hD
  have hb := span_le hp hk
  rw [← h.old.len] at hb
  have hy := Nat.two_pow_pos (d - k)
  generalize p * 2 ^ (d - k) = a at *
  generalize 2 ^ (d - k) = y at *
  have hsl := setsL_len es a y x
  generalize setsL es a y x = es' at *
  replace DS := Lib.hid DS
  replace SP := Lib.hid SP
  have HC := Lib.hid h
  obtain ⟨hc, -⟩ := rHead_cells h.head
  have HSL := Lib.hid hsl
  clear h hp hsl
  go_enter Tryd.func59, Tryd.ntmps59
  go_wp2_with (first
    | (go_at_call 127; refine DS.out.mono ?_; rintro e w1 ⟨rfl, h1, c1⟩; have HD1 := Lib.hid h1; have HH1 := Lib.hid (HC.out.head.chg c1 HC.out.n2); obtain ⟨hc1, -⟩ := rHead_cells HH1.out; clear h1)
    | (go_at_call 128; refine (SP.out _ HD1.out).mono ?_; rintro e w2 ⟨rfl, hb2⟩; have HD2 := Lib.hid (HD1.out.below hb2); have HH2 := Lib.hid (HH1.out.below hb2 HH1.out.lt); obtain ⟨hc2, -⟩ := rHead_cells HH2.out))
  have C2 := Lib.hid (c1.thenBelow hb2)
  go_loop [15, 10] (fun v15 v10 => ∃ i : Nat, a ≤ i ∧ i ≤ a + y ∧ v15 = .int .i64 (i : Int) ∧ v10 = .int .i64 ((y + 2 * (min i nx - a) : Nat) : Int)) (fun v15 _ => a + y - (intOf v15).toNat)
  case atStart => exact ⟨a, Nat.le_refl _, by omega, rfl, by rw [show min a nx - a = 0 by omega]; rfl⟩
  case round =>
    obtain ⟨i, hai, hiy, rfl, rfl⟩ := hrel
    have hnb : y + 2 * (min i nx - a) ≤ 200 := by omega
    by_cases hlt : i < a + y
    · have hlt' : (i : Int) < (a : Int) + (y : Int) := by omega
      by_cases hin : i < nx
      · have HN := Lib.hid (show ((y + 2 * (min i nx - a) : Nat) : Int) + 2 = ((y + 2 * (min (i + 1) nx - a) : Nat) : Int) by omega)
        have hin' : (i : Int) < (nx : Int) := by omega
        generalize y + 2 * (min i nx - a) = nn at *
        go_wp2
        go_round
        case rel => exact ⟨i + 1, by omega, by omega, by go_num, by rw [← HN.out]⟩
        case measure => simp [intOf]; omega
      · have HN := Lib.hid (show ((y + 2 * (min i nx - a) : Nat) : Int) = ((y + 2 * (min (i + 1) nx - a) : Nat) : Int) by omega)
        have hin' : (nx : Int) ≤ (i : Int) := by omega
        generalize y + 2 * (min i nx - a) = nn at *
        go_wp2
        go_round
        case rel => exact ⟨i + 1, by omega, by omega, by go_num, by rw [← HN.out]⟩
        case measure => simp [intOf]; omega
    · obtain rfl : i = a + y := by omega
      obtain ⟨nn, hnn⟩ : ∃ nn, nn = y + 2 * (min (a + y) nx - a) := ⟨_, rfl⟩
      rw [← hnn] at hnb ⊢
      have HNN := Lib.hid hnn
      clear hnn
      have hlt' : ((a : Int) + (y : Int)) ≤ ((a + y : Nat) : Int) := by omega
      go_wp2
      go_ret2
      have hh := HC.out
      exact ⟨by first | rfl | (rw [← HNN.out]; rfl) | (rw [HNN.out]; rfl), ⟨HH2.out, HD2.out, by rw [HSL.out]; exact hle, hh.n1, hh.n2⟩, C2.out⟩
theorem rcset_any (K M Z d : Nat) (p k x : Int) (es : List Int) (nx : Nat) (tk : Bool) (w : World) (h : RC w K M Z d es nx tk) :
    Calls Tryd.prog 59 #[.pointer (some ⟨K, 0, none⟩), .int .i64 p, .int .i64 k, .int .i64 x] w fun e w' =>
      e = .returned (.tuple #[.int .i64 ((csetN d p k x nx : Nat) : Int), .int .i64 ((setErr d p k x : Nat) : Int)]) ∧ RC w' K M Z d (setE d es p k x) nx tk ∧ Chg (fun b => b = Z) w w' := by
  unfold csetN setErr setE
  by_cases hs : SetOk d p k x
  · rw [if_pos hs, if_pos hs, if_pos hs]
    unfold spT spF
    rw [if_pos hs.1, if_pos hs.1]
    obtain ⟨m, q, rfl, rfl, h1, h2⟩ := hs.1.nat
    exact rcset_ok K M Z d q m es nx tk x h1 h2 hs.2 w h
  · rw [if_neg hs, if_neg hs, if_neg hs]
    have DS := Lib.hid (rdset_bad M Z d es p k x (set_not hs) w h.old)
    have HC := Lib.hid h
    obtain ⟨hc, -⟩ := rHead_cells h.head
    clear h hs
    go_enter Tryd.func59, Tryd.ntmps59
    go_wp2_with (go_at_call 127; refine DS.out.mono ?_; rintro e w1 ⟨rfl, hb⟩)
    go_ret2
    exact ⟨rfl, HC.out.below hb, Chg.of_below hb⟩
/-- each value twice, of the first j -/
def twoL (es : List Int) (j : Nat) : List Int := (List.range (2 * j)).map fun q => gD es (q / 2)
theorem twoL_succ (es : List Int) (j : Nat) : twoL es (j + 1) = twoL es j ++ [gD es j, gD es j] := by
  unfold twoL
  rw [show 2 * (j + 1) = 2 * j + 1 + 1 by omega, List.range_succ, List.range_succ, List.map_append, List.map_append]
  simp only [List.map_cons, List.map_nil, List.append_assoc, List.cons_append, List.nil_append]
  rw [show 2 * j / 2 = j by omega, show (2 * j + 1) / 2 = j by omega]
theorem twoL_len (es : List Int) (j : Nat) : (twoL es j).length = 2 * j := by simp [twoL]
theorem twoL_dbl (es : List Int) (n : Nat) : twoL es n = dblF n n (gD es) := by
  unfold twoL dblF
  apply List.map_congr_left
  intro j hj
  rw [if_pos (by simpa using hj)]
theorem cells2_new (w : World) (x y : Value) (t : TypeId) : ∀ j u, [x, y][j]? = some u → (w.alloc (.cells #[x, y] t)).cell? ((⟨w.heap.size, 0, none⟩ : Addr).add j) = some u := by
  intro j u h
  have hb : Blk (w.alloc (.cells #[x, y] t)) w.heap.size t #[x, y] := Blk.new _ _ _
  match j, h with
  | 0, h => exact (hb.cell 0).trans (by simpa using h)
  | 1, h => exact (hb.cell 1).trans (by simpa using h)
  | j + 2, h => simp at h
set_option maxRecDepth 100000 in
set_option maxHeartbeats 4000000 in
theorem rcnew_any (K M Z d : Nat) (es : List Int) (nx : Nat) (tk : Bool) (w : World) (h : RC w K M Z d es nx tk) :
    Calls Tryd.prog 62 #[.pointer (some ⟨K, 0, none⟩)] w fun e w' => ∃ v, e = .returned v ∧ w'.ownsRow w.heap.size 3 1 v (twoL es es.length).length ((twoL es es.length).map (Value.int .i64)) ∧ Below w.heap.size w w' := by
  obtain ⟨i0, hi, hz0, hz1, hz2⟩ := info_parts infoD
  have hpos := h.old.pos
  have hKl := h.head.lt
  have hMl := h.old.head.lt
  have hZl := h.old.ring.lt
  obtain ⟨hc, -⟩ := rHead_cells h.head
  obtain ⟨hm0, hm1⟩ := rdHead_cells h.old
  have HR := Lib.hid h
  clear h
  go_enter Tryd.func62, Tryd.ntmps62
  go_wp2
  have hb0 : Below w.heap.size w (w.alloc (.cells #[] 3)) := (Below.refl _ _).alloc (Nat.le_refl _) _
  go_loopw [3, 5, 15] (fun v3 _ v15 wr => ∃ j : Nat, j ≤ es.length ∧ v15 = .int .i64 (j : Int) ∧ wr.ownsRow w.heap.size 3 1 v3 (2 * j) ((twoL es j).map (Value.int .i64)) ∧ Below w.heap.size w wr) (fun _ _ v15 _ => es.length - (intOf v15).toNat)
  case atStart => exact ⟨0, Nat.zero_le _, rfl, by simpa [twoL] using ownsRow_empty (Blk.new w _ _), hb0⟩
  case round =>
    clear hb0
    obtain ⟨j, hj, rfl, hrow, hbo⟩ := hrel
    have HR2 := Lib.hid hrow
    obtain ⟨a2', c2', rfl⟩ := ownsRow_slice hrow
    have hzo := hbo.size
    have hsn := Lib.hid (twoL_succ es j)
    clear hrow
    by_cases hlt : j < es.length
    · have hcj := (HR.out.below hbo).old.cellD j hlt
      rw [show es.getD j 0 = gD es j from rfl] at hcj
      generalize gD es j = y at *
      have hj2 : 2 * j ≤ 64 := by omega
      go_wp2_with (at_builtin; refine wpList_append_own _ rfl _ _ 52 rfl w.heap.size 3 i0 (.int .i64 0) 1 8 Tryd.underlying52 hi hz0 hz1 hz2 rfl (by decide) _ (2 * j) _ rfl (HR2.out.alloc _) ⟨wr.heap.size, 0, none⟩ 2 2 [.int .i64 y, .int .i64 y] rfl rfl (cells2_new _ _ _ _) (by simp [Value.oneCell']) (by unfold maxLen; omega) (by omega) (by simp; omega) ?_; intro v' w4 hown4 hgrow4 _; have hb4 := below_append HR2.out hzo hgrow4; clear hgrow4; replace hown4 := Lib.hid hown4)
      go_roundw
      case rel => exact ⟨j + 1, by omega, by go_num, by rw [hsn.out]; simpa [Nat.mul_add] using hown4.out, hbo.trans hb4⟩
      case measure => simp [intOf]; omega
    · obtain rfl : j = es.length := by omega
      go_wp2
      go_ret
      exact ⟨_, rfl, by rw [twoL_len]; exact HR2.out, hbo⟩
end Go.Proofs.YtplimhllfbdocaaDoor
