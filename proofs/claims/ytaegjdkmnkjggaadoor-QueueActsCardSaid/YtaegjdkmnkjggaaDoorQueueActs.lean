/- The walks of package queue: what turns it. Condition: the errors' cells. -/
import Derived.Test.YtaegjdkmnkjggaaDoorQueue
import Derived.Test.YtaegjdkmnkjggaaDoorErrCells
import Derived.Laws.OwnMore
namespace Go.Proofs.YtaegjdkmnkjggaaDoor
set_option linter.unusedVariables false
set_option linter.unusedSimpArgs false
open Go.RowKit Go.Proofs

theorem index_any (v : Value) (xs : List Int) (x : Int) (w : World) (h : ReadsInts w v xs) (b1 : xs.length < 9223372036854775807) :
    Calls Tryd.prog 74 #[v, .int .i64 x] w fun e w' => e = .returned (.int .i64 (idxI xs x)) ∧ w = w' := by
  obtain ⟨a, cap, rfl, hx⟩ := h
  have HX := Lib.hid hx
  clear hx
  go_enter Tryd.func74, Tryd.ntmps74
  go_wp2
  go_loop [8] (fun v8 => ∃ k : Nat, k ≤ xs.length ∧ v8 = .int .i64 (k : Int) ∧ x ∉ xs.take k) (fun v8 => xs.length - (intOf v8).toNat)
  case atStart => exact ⟨0, Nat.zero_le _, rfl, by simp⟩
  case round =>
    obtain ⟨k, hk, rfl, hn⟩ := hrel
    have HN := Lib.hid hn
    clear hn
    by_cases hlt : k < xs.length
    · obtain ⟨b, off, rfl, hc⟩ := HX.out (fun e => by rw [e] at hlt; simp at hlt)
      have c1 := hc k hlt
      clear hc
      by_cases he : x = xs[k]
      · have hI := idxI_hit (k := k) (by rw [List.getElem?_eq_getElem hlt, he]) HN.out
        replace hI := Lib.hid hI
        have he' : (x == xs[k]) = true := by simpa using he
        clear he
        go_wp2
        go_ret
        exact ⟨by rw [hI.out]; rfl, rfl⟩
      · have he' : (x == xs[k]) = false := by simpa using he
        have HN2 := Lib.hid (show x ∉ xs.take (k + 1) by rw [List.take_succ_eq_append_getElem hlt, List.mem_append]; intro h; exact h.elim HN.out (fun h => he (by simpa using h)))
        clear he
        go_wp2
        go_round
        case rel => exact ⟨k + 1, by omega, by go_num, HN2.out⟩
        case measure => simp [intOf]; omega
    · obtain rfl : k = xs.length := by omega
      have hI := Lib.hid (idxI_miss (by have := HN.out; rwa [List.take_length] at this))
      go_wp2
      go_ret
      exact ⟨by rw [hI.out]; rfl, rfl⟩
theorem contains_any (v : Value) (xs : List Int) (x : Int) (w : World) (h : ReadsInts w v xs) (b1 : xs.length < 9223372036854775807) :
    Calls Tryd.prog 78 #[v, .int .i64 x] w fun e w' => e = .returned (.bool (decide (x ∈ xs))) ∧ w = w' := by
  have hi := index_any v xs x w h b1
  by_cases hm : x ∈ xs
  · obtain ⟨k, h1, h2⟩ := mem_first hm
    rw [idxI_hit h1 h2] at hi
    rw [decide_eq_true hm]
    have hk : ((k : Int) ≥ 0) = True := by simp
    clear hm h1 h2
    go_enter Tryd.func78, Tryd.ntmps78
    go_wp2_with (go_at_call 74; refine hi.mono ?_; rintro e w' ⟨rfl, rfl⟩)
    go_ret
    exact ⟨rfl, rfl⟩
  · rw [idxI_miss hm] at hi
    rw [decide_eq_false hm]
    clear hm
    go_enter Tryd.func78, Tryd.ntmps78
    go_wp2_with (go_at_call 74; refine hi.mono ?_; rintro e w' ⟨rfl, rfl⟩)
    go_ret
    exact ⟨rfl, rfl⟩
theorem numHas_any (v : Value) (xs : List Int) (x : Int) (w : World) (h : ReadsInts w v xs) (b1 : xs.length < 9223372036854775807) :
    Calls Tryd.prog 16 #[v, .int .i64 x] w fun e w' => e = .returned (.bool (decide (x ∈ xs))) ∧ w = w' := by
  obtain ⟨a, cap, rfl, hx⟩ := h
  have HX := Lib.hid hx
  clear hx
  go_enter Tryd.func16, Tryd.ntmps16
  go_wp2
  go_loop [9] (fun v8 => ∃ k : Nat, k ≤ xs.length ∧ v8 = .int .i64 (k : Int) ∧ x ∉ xs.take k) (fun v8 => xs.length - (intOf v8).toNat)
  case atStart => exact ⟨0, Nat.zero_le _, rfl, by simp⟩
  case round =>
    obtain ⟨k, hk, rfl, hn⟩ := hrel
    have HN := Lib.hid hn
    clear hn
    by_cases hlt : k < xs.length
    · obtain ⟨b, off, rfl, hc⟩ := HX.out (fun e => by rw [e] at hlt; simp at hlt)
      have c1 := hc k hlt
      clear hc
      by_cases he : x = xs[k]
      · have hI := Lib.hid (decide_eq_true (show x ∈ xs by rw [he]; exact List.getElem_mem hlt))
        have he' : (xs[k] == x) = true := by simpa using he.symm
        clear he
        go_wp2
        go_ret
        exact ⟨by rw [hI.out]; rfl, rfl⟩
      · have he' : (xs[k] == x) = false := by simpa using fun e => he e.symm
        have HN2 := Lib.hid (show x ∉ xs.take (k + 1) by rw [List.take_succ_eq_append_getElem hlt, List.mem_append]; intro h; exact h.elim HN.out (fun h => he (by simpa using h)))
        clear he
        go_wp2
        go_round
        case rel => exact ⟨k + 1, by omega, by go_num, HN2.out⟩
        case measure => simp [intOf]; omega
    · obtain rfl : k = xs.length := by omega
      have hI := Lib.hid (decide_eq_false (show x ∉ xs by have := HN.out; rwa [List.take_length] at this))
      go_wp2
      go_ret
      exact ⟨by rw [hI.out]; rfl, rfl⟩
theorem qhas_any (q : QSt) (B R : Nat) (hq : q.Ok) (x : Int) (w : World) (h : QW w B R q) :
    Calls Tryd.prog 29 #[.pointer (some ⟨B, 0, none⟩), .int .i64 x] w fun e w' => e = .returned (.bool (decide (x ∈ q.list))) ∧ Below w.heap.size w w' := by
  have hl := qlist_any q B R hq w h
  have hb := q.list_length
  have h2 := hq.many
  have h3 := hq.most
  have HC := Lib.hid (fun (v : Value) (w' : World) (hv : ReadsInts w' v q.list) => contains_any v q.list x w' hv (by omega))
  clear h hq hb
  go_enter Tryd.func29, Tryd.ntmps29
  go_wp2_with (first
    | (go_at_call 73; refine hl.mono ?_; rintro e w1 ⟨va, vc, rfl, -, -, hv, hb1⟩; replace hv := Lib.hid hv)
    | (go_at_call 78; refine (HC.out _ _ hv.out).mono ?_; rintro e w' ⟨rfl, rfl⟩))
  go_ret
  exact ⟨rfl, hb1⟩
theorem qlen_any (q : QSt) (B R : Nat) (w : World) (h : QW w B R q) :
    Calls Tryd.prog 22 #[.pointer (some ⟨B, 0, none⟩)] w fun e w' => e = .returned (.int .i64 (q.many : Int)) ∧ w = w' := by
  obtain ⟨⟨c0, c1, c2⟩, -⟩ := h.cells
  clear h
  go_enter Tryd.func22, Tryd.ntmps22
  go_wp2
  go_ret
  exact ⟨rfl, rfl⟩
theorem qclear_any (q : QSt) (B R : Nat) (w : World) (h : QW w B R q) :
    Calls Tryd.prog 27 #[.pointer (some ⟨B, 0, none⟩)] w fun e w' => e = .returned (.tuple #[]) ∧ QW w' B R q.clear ∧ Chg (fun b => b = B ∨ b = R) w w' := by
  have H := Lib.hid h
  obtain ⟨⟨c0, c1, c2⟩, ⟨f0, f1, f2⟩⟩ := h.cells
  clear h
  go_enter Tryd.func27, Tryd.ntmps27
  go_wp2
  ((try simp only [Exit.inBlock, Exit.then]); first | refine bodyPost_end (results_none rfl _ _ _) rfl ?_ | refine bodyPost_ret (results_none rfl _ _ _) rfl ?_)
  refine ⟨rfl, ⟨(H.out.head.set 1 _).set 2 _, (H.out.ring.other (Ne.symm H.out.ne) _ _).other (Ne.symm H.out.ne) _ _, H.out.ne⟩, ?_⟩
  exact ((Chg.refl _ _).setCell (.inl (.inl rfl)) _).setCell (.inl (.inl rfl)) _
/-- how the first one is told -/
def headV (xs : List Int) : Value := match xs with | [] => .tuple #[.int .i64 0, .bool false] | x :: _ => .tuple #[.int .i64 x, .bool true]
theorem qhead_none (q : QSt) (B R : Nat) (hm : q.many = 0) (w : World) (h : QW w B R q) :
    Calls Tryd.prog 28 #[.pointer (some ⟨B, 0, none⟩)] w fun e w' => e = .returned (headV q.list) ∧ w = w' := by
  obtain ⟨⟨c0, c1, c2⟩, -⟩ := h.cells
  rw [q.list_nil hm]
  have hm' : ((q.many : Int) == 0) = true := by simp [hm]
  replace hm := Lib.hid hm
  clear h
  go_enter Tryd.func28, Tryd.ntmps28
  go_wp2
  go_ret2
  exact ⟨rfl, rfl⟩
theorem qhead_some (q : QSt) (B R : Nat) (hq : q.Ok) (hm : 0 < q.many) (w : World) (h : QW w B R q) :
    Calls Tryd.prog 28 #[.pointer (some ⟨B, 0, none⟩)] w fun e w' => e = .returned (headV q.list) ∧ w.drew = w' := by
  obtain ⟨⟨c0, c1, c2⟩, -⟩ := h.cells
  have hit := h.item hq 0
  rw [q.pop_list hq hm]
  rw [q.item0 hq] at hit
  have h1 := hq.first
  have h2 := hq.most
  have h1' : ((q.first : Nat) : Int) < (q.ring.length : Int) := by omega
  have hm' : ((q.many : Int) == 0) = false := by simp; omega
  clear h hq
  go_enter Tryd.func28, Tryd.ntmps28
  go_wp2
  refine wp_region_seq (fun _ => False) #[⟨0, 0, 512, 1, 0⟩, ⟨1, 1, 1024, 512, 0⟩, ⟨2, 3, 2048, 1024, 0⟩, ⟨4, 7, 4096, 2048, 1⟩, ⟨0, 0, 8192, 1, 0⟩, ⟨16, 16, 16384, 8192, 0⟩, ⟨32, 48, 32768, 16384, 0⟩, ⟨64, 112, 65536, 32768, 1⟩, ⟨136, 255, 131072, 69632, 0⟩, ⟨256, 511, 262144, 131072, 1⟩, ⟨1023, 1023, 4, 262144, 0⟩, ⟨2047, 2047, 8, 0, 0⟩] 648 [(0, 0), (1, 0), (2, 0), (3, 1), (4, 0), (5, 0), (6, 0), (7, 1), (8, 0), (9, 1), (10, 0), (11, 0)] (by kernel_rfl) (by kernel_rfl) (by kernel_rfl) (by kernel_rfl) (by kernel_rfl) (by kernel_rfl) (fun c a d v w h => by cases d <;> exact h) ?_
  refine seq_calc (by simp only [List.getElem?_toArray, List.getElem?_cons_succ, List.getElem?_cons_zero]; rfl) (by rfl) (fun u => by go_simp <;> with_reducible rfl) ?_
  try simp only [Act.put, List.setIfInBounds_toArray, List.set_cons_zero, List.set_cons_succ]
  refine seq_calc (by simp only [List.getElem?_toArray, List.getElem?_cons_succ, List.getElem?_cons_zero]; rfl) (by rfl) (fun u => by go_simp <;> with_reducible rfl) ?_
  try simp only [Act.put, List.setIfInBounds_toArray, List.set_cons_zero, List.set_cons_succ]
  refine seq_calc (by simp only [List.getElem?_toArray, List.getElem?_cons_succ, List.getElem?_cons_zero]; rfl) (by rfl) (fun u => by go_simp <;> with_reducible rfl) ?_
  try simp only [Act.put, List.setIfInBounds_toArray, List.set_cons_zero, List.set_cons_succ]
  refine seq_load1 (by simp only [List.getElem?_toArray, List.getElem?_cons_succ, List.getElem?_cons_zero]; rfl) (by rfl) rfl rfl Tryd.underlying22 rfl (by go_simp <;> with_reducible rfl) (by first | exact id | assumption | (simp; done) | (simp; omega)) ?_
  try simp only [Act.put, List.setIfInBounds_toArray, List.set_cons_zero, List.set_cons_succ]
  refine seq_calc (by simp only [List.getElem?_toArray, List.getElem?_cons_succ, List.getElem?_cons_zero]; rfl) (by rfl) (fun u => by go_simp <;> with_reducible rfl) ?_
  try simp only [Act.put, List.setIfInBounds_toArray, List.set_cons_zero, List.set_cons_succ]
  refine seq_calc (by simp only [List.getElem?_toArray, List.getElem?_cons_succ, List.getElem?_cons_zero]; rfl) (by rfl) (fun u => by go_simp <;> with_reducible rfl) ?_
  try simp only [Act.put, List.setIfInBounds_toArray, List.set_cons_zero, List.set_cons_succ]
  refine seq_calc (by simp only [List.getElem?_toArray, List.getElem?_cons_succ, List.getElem?_cons_zero]; rfl) (by rfl) (fun u => by go_simp <;> with_reducible rfl) ?_
  try simp only [Act.put, List.setIfInBounds_toArray, List.set_cons_zero, List.set_cons_succ]
  refine seq_load1 (by simp only [List.getElem?_toArray, List.getElem?_cons_succ, List.getElem?_cons_zero]; rfl) (by rfl) rfl rfl Tryd.underlying3 rfl (by go_simp <;> with_reducible rfl) (by first | exact id | assumption | (simp; done) | (simp; omega)) ?_
  try simp only [Act.put, List.setIfInBounds_toArray, List.set_cons_zero, List.set_cons_succ]
  refine seq_calc (by simp only [List.getElem?_toArray, List.getElem?_cons_succ, List.getElem?_cons_zero]; rfl) (by rfl) (fun u => by go_simp <;> with_reducible rfl) ?_
  try simp only [Act.put, List.setIfInBounds_toArray, List.set_cons_zero, List.set_cons_succ]
  refine seq_load1 (by simp only [List.getElem?_toArray, List.getElem?_cons_succ, List.getElem?_cons_zero]; rfl) (by rfl) rfl rfl Tryd.underlying3 rfl (by go_simp <;> with_reducible rfl) (by first | exact id | assumption | (simp; done) | (simp; omega)) ?_
  try simp only [Act.put, List.setIfInBounds_toArray, List.set_cons_zero, List.set_cons_succ]
  refine seq_calc (by simp only [List.getElem?_toArray, List.getElem?_cons_succ, List.getElem?_cons_zero]; rfl) (by rfl) (fun u => by go_simp <;> with_reducible rfl) ?_
  try simp only [Act.put, List.setIfInBounds_toArray, List.set_cons_zero, List.set_cons_succ]
  refine seq_calc (by simp only [List.getElem?_toArray, List.getElem?_cons_succ, List.getElem?_cons_zero]; rfl) (by rfl) (fun u => by go_simp <;> with_reducible rfl) ?_
  try simp only [Act.put, List.setIfInBounds_toArray, List.set_cons_zero, List.set_cons_succ]
  refine seq_nil ?_
  go_wp2
  go_ret2
  exact ⟨rfl, rfl⟩
theorem qhead_any (q : QSt) (B R : Nat) (hq : q.Ok) (w : World) (h : QW w B R q) :
    Calls Tryd.prog 28 #[.pointer (some ⟨B, 0, none⟩)] w fun e w' => e = .returned (headV q.list) ∧ Below w.heap.size w w' := by
  by_cases hm : q.many = 0
  · exact (qhead_none q B R hm w h).mono fun e w' ⟨h1, h2⟩ => ⟨h1, h2 ▸ Below.refl _ _⟩
  · exact (qhead_some q B R hq (by omega) w h).mono fun e w' ⟨h1, h2⟩ => ⟨h1, h2 ▸ (Below.refl _ _).drew⟩
theorem QSt.list_pos {q : QSt} (h : q.Ok) {x : Int} {l : List Int} (e : q.list = x :: l) : 0 < q.many := by
  have := q.list_length; rw [e] at this; simp at this; omega
/-- a queue behind its first one -/
def QSt.next (q : QSt) : QSt := if q.many = 0 then q else q.pop
theorem QSt.next_ok {q : QSt} (h : q.Ok) : q.next.Ok := by
  unfold QSt.next
  split
  · exact h
  · exact q.pop_ok h
theorem QSt.next_list {q : QSt} (h : q.Ok) : q.next.list = q.list.tail := by
  unfold QSt.next
  split
  · rw [q.list_nil ‹_›]; rfl
  · rw [q.pop_list h (by omega)]; rfl
set_option maxHeartbeats 1600000 in
theorem qpop_any (q : QSt) (B R : Nat) (hq : q.Ok) (w : World) (h : QW w B R q) :
    Calls Tryd.prog 21 #[.pointer (some ⟨B, 0, none⟩)] w fun e w' => e = .returned (headV q.list) ∧ QW w' B R q.next ∧ Chg (fun b => b = B ∨ b = R) w w' := by
  obtain ⟨⟨c0, c1, c2⟩, ⟨f0, f1, f2⟩⟩ := h.cells
  have H := Lib.hid h
  by_cases hm : q.many = 0
  · have hn : q.next = q := if_pos hm
    rw [hn]
    have hh := qhead_none q B R hm w h
    rw [q.list_nil hm] at hh ⊢
    simp only [headV] at hh ⊢
    replace hm := Lib.hid hm
    clear h hq hn
    go_enter Tryd.func21, Tryd.ntmps21
    go_wp2_with (go_at_call 28; refine hh.mono ?_; rintro e w' ⟨rfl, rfl⟩)
    go_ret2
    exact ⟨rfl, H.out, Chg.refl _ _⟩
  · have hn : q.next = q.pop := if_neg hm
    rw [hn]
    have hb := hq.most
    have hmm := hq.many
    have hh := qhead_some q B R hq (by omega) w h
    have ha := Lib.hid (qat_any q B R 1 hq (by omega) w.drew (h.below (Below.refl _ _).drew))
    rw [q.pop_list hq (by omega)] at hh ⊢
    simp only [headV] at hh ⊢
    have hn1 := Lib.hid (show ((q.many : Int) - 1) = ((q.many - 1 : Nat) : Int) by omega)
    have hm1 : 0 < q.many := by omega
    clear h hq hn hm
    go_enter Tryd.func21, Tryd.ntmps21
    go_wp2_with (first
      | (go_at_call 28; refine hh.mono ?_; rintro e w' ⟨rfl, rfl⟩)
      | (go_at_call 72; refine ha.out.mono ?_; rintro e w' ⟨rfl, rfl⟩))
    go_ret2
    refine ⟨rfl, ⟨?_, ((H.out.ring.drew.drew).other (Ne.symm H.out.ne) _ _).other (Ne.symm H.out.ne) _ _, H.out.ne⟩, ?_⟩
    · have := ((H.out.head.drew.drew).set 1 (.int .i64 ((q.at 1 : Nat) : Int))).set 2 (.int .i64 ((q.many : Int) - 1))
      rw [hn1.out] at this ⊢
      exact this
    · exact ((((Chg.refl _ _).drew).drew).setCell (.inl (.inl rfl)) _).setCell (.inl (.inl rfl)) _
set_option maxHeartbeats 1600000 in
theorem qpush_dup (q : QSt) (B R : Nat) (hq : q.Ok) (x : Int) (E : Nat → Addr) (hx : x ∈ q.list) (w : World) (h : QW w B R q) (he : EC w E [1, 2, 16]) :
    Calls Tryd.prog 17 #[.pointer (some ⟨B, 0, none⟩), .int .i64 x] w fun e w' => e = .returned (errAt E 16) ∧ Below w.heap.size w w' := by
  have hh := qhas_any q B R hq x w h
  rw [decide_eq_true hx] at hh
  have HE := Lib.hid he
  clear h hq hx he
  go_enter Tryd.func17, Tryd.ntmps17
  go_wp2_with (go_at_call 29; refine hh.mono ?_; rintro e w1 ⟨rfl, hb1⟩; have hg : w1.cell? ⟨1, 0, none⟩ = some (errAt E 16) := (HE.out.below hb1) 16 (by decide))
  go_ret
  exact ⟨rfl, hb1⟩
set_option maxHeartbeats 1600000 in
theorem qpush_full (q : QSt) (B R : Nat) (hq : q.Ok) (x : Int) (E : Nat → Addr) (hx : x ∉ q.list) (hm : q.many = q.ring.length) (w : World) (h : QW w B R q) (he : EC w E [1, 2, 16]) :
    Calls Tryd.prog 17 #[.pointer (some ⟨B, 0, none⟩), .int .i64 x] w fun e w' => e = .returned (errAt E 2) ∧ Below w.heap.size w w' := by
  have hh := qhas_any q B R hq x w h
  rw [decide_eq_false hx] at hh
  have HE := Lib.hid he
  have H := Lib.hid h
  have hm' : ((q.many : Int) == (q.ring.length : Int)) = true := by simp [hm]
  replace hm := Lib.hid hm
  clear h hq hx he
  go_enter Tryd.func17, Tryd.ntmps17
  go_wp2_with (go_at_call 29; refine hh.mono ?_; rintro e w1 ⟨rfl, hb1⟩; have hg : w1.cell? ⟨2, 0, none⟩ = some (errAt E 2) := (HE.out.below hb1) 2 (by decide); obtain ⟨⟨c0, c1, c2⟩, -⟩ := (H.out.below hb1).cells)
  refine wp_region_seq (fun _ => False) #[⟨0, 0, 2048, 1, 0⟩, ⟨1, 1, 4096, 2048, 0⟩, ⟨2, 3, 8192, 4096, 0⟩, ⟨4, 7, 16384, 8192, 1⟩, ⟨0, 0, 32768, 1, 0⟩, ⟨16, 16, 65536, 32768, 0⟩, ⟨32, 48, 131072, 65536, 0⟩, ⟨64, 112, 262144, 131072, 1⟩, ⟨128, 240, 524288, 262144, 0⟩, ⟨264, 511, 1048576, 540672, 0⟩, ⟨512, 1023, 1024, 1048576, 0⟩] 136 [(0, 0), (1, 0), (2, 0), (3, 1), (4, 0), (5, 0), (6, 0), (7, 1), (8, 0), (9, 0), (10, 0)] (by kernel_rfl) (by kernel_rfl) (by kernel_rfl) (by kernel_rfl) (by kernel_rfl) (by kernel_rfl) (fun c a d v w h => by cases d <;> exact h) ?_
  refine seq_calc (by simp only [List.getElem?_toArray, List.getElem?_cons_succ, List.getElem?_cons_zero]; rfl) (by rfl) (fun u => by go_simp <;> with_reducible rfl) ?_
  try simp only [Act.put, List.setIfInBounds_toArray, List.set_cons_zero, List.set_cons_succ]
  refine seq_calc (by simp only [List.getElem?_toArray, List.getElem?_cons_succ, List.getElem?_cons_zero]; rfl) (by rfl) (fun u => by go_simp <;> with_reducible rfl) ?_
  try simp only [Act.put, List.setIfInBounds_toArray, List.set_cons_zero, List.set_cons_succ]
  refine seq_calc (by simp only [List.getElem?_toArray, List.getElem?_cons_succ, List.getElem?_cons_zero]; rfl) (by rfl) (fun u => by go_simp <;> with_reducible rfl) ?_
  try simp only [Act.put, List.setIfInBounds_toArray, List.set_cons_zero, List.set_cons_succ]
  refine seq_load1 (by simp only [List.getElem?_toArray, List.getElem?_cons_succ, List.getElem?_cons_zero]; rfl) (by rfl) rfl rfl Tryd.underlying3 rfl (by go_simp <;> with_reducible rfl) (by first | exact id | assumption | (simp; done) | (simp; omega)) ?_
  try simp only [Act.put, List.setIfInBounds_toArray, List.set_cons_zero, List.set_cons_succ]
  refine seq_calc (by simp only [List.getElem?_toArray, List.getElem?_cons_succ, List.getElem?_cons_zero]; rfl) (by rfl) (fun u => by go_simp <;> with_reducible rfl) ?_
  try simp only [Act.put, List.setIfInBounds_toArray, List.set_cons_zero, List.set_cons_succ]
  refine seq_calc (by simp only [List.getElem?_toArray, List.getElem?_cons_succ, List.getElem?_cons_zero]; rfl) (by rfl) (fun u => by go_simp <;> with_reducible rfl) ?_
  try simp only [Act.put, List.setIfInBounds_toArray, List.set_cons_zero, List.set_cons_succ]
  refine seq_calc (by simp only [List.getElem?_toArray, List.getElem?_cons_succ, List.getElem?_cons_zero]; rfl) (by rfl) (fun u => by go_simp <;> with_reducible rfl) ?_
  try simp only [Act.put, List.setIfInBounds_toArray, List.set_cons_zero, List.set_cons_succ]
  refine seq_load1 (by simp only [List.getElem?_toArray, List.getElem?_cons_succ, List.getElem?_cons_zero]; rfl) (by rfl) rfl rfl Tryd.underlying22 rfl (by go_simp <;> with_reducible rfl) (by first | exact id | assumption | (simp; done) | (simp; omega)) ?_
  try simp only [Act.put, List.setIfInBounds_toArray, List.set_cons_zero, List.set_cons_succ]
  refine seq_calc (by simp only [List.getElem?_toArray, List.getElem?_cons_succ, List.getElem?_cons_zero]; rfl) (by rfl) (fun u => by go_simp <;> with_reducible rfl) ?_
  try simp only [Act.put, List.setIfInBounds_toArray, List.set_cons_zero, List.set_cons_succ]
  refine seq_calc (by simp only [List.getElem?_toArray, List.getElem?_cons_succ, List.getElem?_cons_zero]; rfl) (by rfl) (fun u => by go_simp <;> with_reducible rfl) ?_
  try simp only [Act.put, List.setIfInBounds_toArray, List.set_cons_zero, List.set_cons_succ]
  refine seq_calc (by simp only [List.getElem?_toArray, List.getElem?_cons_succ, List.getElem?_cons_zero]; rfl) (by rfl) (fun u => by go_simp <;> with_reducible rfl) ?_
  try simp only [Act.put, List.setIfInBounds_toArray, List.set_cons_zero, List.set_cons_succ]
  refine seq_nil ?_
  go_wp2
  go_ret
  exact ⟨rfl, hb1.drew⟩
set_option maxHeartbeats 1600000 in
theorem qpush_ok (q : QSt) (B R : Nat) (hq : q.Ok) (x : Int) (hx : x ∉ q.list) (hm : q.many < q.ring.length) (w : World) (h : QW w B R q) :
    Calls Tryd.prog 17 #[.pointer (some ⟨B, 0, none⟩), .int .i64 x] w fun e w' => e = .returned .nilIface ∧ QW w' B R (q.push x) ∧ Chg (fun b => b = B ∨ b = R) w w' := by
  have hh := qhas_any q B R hq x w h
  rw [decide_eq_false hx] at hh
  have H := Lib.hid h
  have hm' : ((q.many : Int) == (q.ring.length : Int)) = false := by simp; omega
  have hb := hq.most
  have HA := Lib.hid (fun (w' : World) (h' : QW w' B R q) => qat_any q B R q.many hq (by omega) w' h')
  have HI := Lib.hid (fun (w' : World) (h' : QW w' B R q) => h'.item hq q.many)
  have hal := q.at_lt hq q.many
  have hal' : ((q.at q.many : Nat) : Int) < (q.ring.length : Int) := by omega
  have hn1 := Lib.hid (show ((q.many : Int) + 1) = ((q.many + 1 : Nat) : Int) by omega)
  clear h hq hx
  go_enter Tryd.func17, Tryd.ntmps17
  go_wp2_with (go_at_call 29; refine hh.mono ?_; rintro e w1 ⟨rfl, hb1⟩; have H1 := Lib.hid (H.out.below hb1); obtain ⟨⟨c0, c1, c2⟩, ⟨f0, f1, f2⟩⟩ := (H.out.below hb1).cells; have hi := HI.out _ H1.out; have fR := H1.out.ring.frozen (q.at q.many); have hne := H1.out.ne)
  refine wp_region_seq (fun _ => False) #[⟨0, 0, 2048, 1, 0⟩, ⟨1, 1, 4096, 2048, 0⟩, ⟨2, 3, 8192, 4096, 0⟩, ⟨4, 7, 16384, 8192, 1⟩, ⟨0, 0, 32768, 1, 0⟩, ⟨16, 16, 65536, 32768, 0⟩, ⟨32, 48, 131072, 65536, 0⟩, ⟨64, 112, 262144, 131072, 1⟩, ⟨128, 240, 524288, 262144, 0⟩, ⟨264, 511, 1048576, 540672, 0⟩, ⟨512, 1023, 1024, 1048576, 0⟩] 136 [(0, 0), (1, 0), (2, 0), (3, 1), (4, 0), (5, 0), (6, 0), (7, 1), (8, 0), (9, 0), (10, 0)] (by kernel_rfl) (by kernel_rfl) (by kernel_rfl) (by kernel_rfl) (by kernel_rfl) (by kernel_rfl) (fun c a d v w h => by cases d <;> exact h) ?_
  refine seq_calc (by simp only [List.getElem?_toArray, List.getElem?_cons_succ, List.getElem?_cons_zero]; rfl) (by rfl) (fun u => by go_simp <;> with_reducible rfl) ?_
  try simp only [Act.put, List.setIfInBounds_toArray, List.set_cons_zero, List.set_cons_succ]
  refine seq_calc (by simp only [List.getElem?_toArray, List.getElem?_cons_succ, List.getElem?_cons_zero]; rfl) (by rfl) (fun u => by go_simp <;> with_reducible rfl) ?_
  try simp only [Act.put, List.setIfInBounds_toArray, List.set_cons_zero, List.set_cons_succ]
  refine seq_calc (by simp only [List.getElem?_toArray, List.getElem?_cons_succ, List.getElem?_cons_zero]; rfl) (by rfl) (fun u => by go_simp <;> with_reducible rfl) ?_
  try simp only [Act.put, List.setIfInBounds_toArray, List.set_cons_zero, List.set_cons_succ]
  refine seq_load1 (by simp only [List.getElem?_toArray, List.getElem?_cons_succ, List.getElem?_cons_zero]; rfl) (by rfl) rfl rfl Tryd.underlying3 rfl (by go_simp <;> with_reducible rfl) (by first | exact id | assumption | (simp; done) | (simp; omega)) ?_
  try simp only [Act.put, List.setIfInBounds_toArray, List.set_cons_zero, List.set_cons_succ]
  refine seq_calc (by simp only [List.getElem?_toArray, List.getElem?_cons_succ, List.getElem?_cons_zero]; rfl) (by rfl) (fun u => by go_simp <;> with_reducible rfl) ?_
  try simp only [Act.put, List.setIfInBounds_toArray, List.set_cons_zero, List.set_cons_succ]
  refine seq_calc (by simp only [List.getElem?_toArray, List.getElem?_cons_succ, List.getElem?_cons_zero]; rfl) (by rfl) (fun u => by go_simp <;> with_reducible rfl) ?_
  try simp only [Act.put, List.setIfInBounds_toArray, List.set_cons_zero, List.set_cons_succ]
  refine seq_calc (by simp only [List.getElem?_toArray, List.getElem?_cons_succ, List.getElem?_cons_zero]; rfl) (by rfl) (fun u => by go_simp <;> with_reducible rfl) ?_
  try simp only [Act.put, List.setIfInBounds_toArray, List.set_cons_zero, List.set_cons_succ]
  refine seq_load1 (by simp only [List.getElem?_toArray, List.getElem?_cons_succ, List.getElem?_cons_zero]; rfl) (by rfl) rfl rfl Tryd.underlying22 rfl (by go_simp <;> with_reducible rfl) (by first | exact id | assumption | (simp; done) | (simp; omega)) ?_
  try simp only [Act.put, List.setIfInBounds_toArray, List.set_cons_zero, List.set_cons_succ]
  refine seq_calc (by simp only [List.getElem?_toArray, List.getElem?_cons_succ, List.getElem?_cons_zero]; rfl) (by rfl) (fun u => by go_simp <;> with_reducible rfl) ?_
  try simp only [Act.put, List.setIfInBounds_toArray, List.set_cons_zero, List.set_cons_succ]
  refine seq_calc (by simp only [List.getElem?_toArray, List.getElem?_cons_succ, List.getElem?_cons_zero]; rfl) (by rfl) (fun u => by go_simp <;> with_reducible rfl) ?_
  try simp only [Act.put, List.setIfInBounds_toArray, List.set_cons_zero, List.set_cons_succ]
  refine seq_calc (by simp only [List.getElem?_toArray, List.getElem?_cons_succ, List.getElem?_cons_zero]; rfl) (by rfl) (fun u => by go_simp <;> with_reducible rfl) ?_
  try simp only [Act.put, List.setIfInBounds_toArray, List.set_cons_zero, List.set_cons_succ]
  refine seq_nil ?_
  go_wp2
  refine wp_region_seq (fun _ => False) #[⟨0, 0, 4194304, 1, 0⟩, ⟨1, 1, 8388608, 4194304, 0⟩, ⟨2, 3, 16777216, 8388608, 0⟩, ⟨4, 7, 33554432, 16777216, 1⟩, ⟨0, 0, 67108864, 1, 0⟩, ⟨0, 0, 134217728, 1, 0⟩, ⟨32, 32, 268435456, 134217728, 0⟩, ⟨64, 96, 536870912, 268435456, 0⟩, ⟨128, 224, 1073741824, 536870912, 1⟩, ⟨272, 496, 2147483648, 1140850688, 2⟩, ⟨0, 0, 4294967296, 2, 0⟩, ⟨2047, 2047, 8589934592, 2181038080, 0⟩, ⟨4095, 4095, 0, 12884901888, 3⟩] 264 [(0, 0), (1, 0), (2, 0), (3, 1), (4, 0), (5, 0), (6, 0), (7, 0), (8, 1), (10, 0), (9, 2), (11, 0), (12, 3)] (by kernel_rfl) (by kernel_rfl) (by kernel_rfl) (by kernel_rfl) (by kernel_rfl) (by kernel_rfl) (fun c a d v w h => by cases d <;> exact h) ?_
  refine seq_calc (by simp only [List.getElem?_toArray, List.getElem?_cons_succ, List.getElem?_cons_zero]; rfl) (by rfl) (fun u => by go_simp <;> with_reducible rfl) ?_
  try simp only [Act.put, List.setIfInBounds_toArray, List.set_cons_zero, List.set_cons_succ]
  refine seq_calc (by simp only [List.getElem?_toArray, List.getElem?_cons_succ, List.getElem?_cons_zero]; rfl) (by rfl) (fun u => by go_simp <;> with_reducible rfl) ?_
  try simp only [Act.put, List.setIfInBounds_toArray, List.set_cons_zero, List.set_cons_succ]
  refine seq_calc (by simp only [List.getElem?_toArray, List.getElem?_cons_succ, List.getElem?_cons_zero]; rfl) (by rfl) (fun u => by go_simp <;> with_reducible rfl) ?_
  try simp only [Act.put, List.setIfInBounds_toArray, List.set_cons_zero, List.set_cons_succ]
  refine seq_load1 (by simp only [List.getElem?_toArray, List.getElem?_cons_succ, List.getElem?_cons_zero]; rfl) (by rfl) rfl rfl Tryd.underlying22 rfl (by go_simp <;> with_reducible rfl) (by first | exact id | assumption | (simp; done) | (simp; omega)) ?_
  try simp only [Act.put, List.setIfInBounds_toArray, List.set_cons_zero, List.set_cons_succ]
  refine seq_calc (by simp only [List.getElem?_toArray, List.getElem?_cons_succ, List.getElem?_cons_zero]; rfl) (by rfl) (fun u => by go_simp <;> with_reducible rfl) ?_
  try simp only [Act.put, List.setIfInBounds_toArray, List.set_cons_zero, List.set_cons_succ]
  refine seq_calc (by simp only [List.getElem?_toArray, List.getElem?_cons_succ, List.getElem?_cons_zero]; rfl) (by rfl) (fun u => by go_simp <;> with_reducible rfl) ?_
  try simp only [Act.put, List.setIfInBounds_toArray, List.set_cons_zero, List.set_cons_succ]
  refine seq_calc (by simp only [List.getElem?_toArray, List.getElem?_cons_succ, List.getElem?_cons_zero]; rfl) (by rfl) (fun u => by go_simp <;> with_reducible rfl) ?_
  try simp only [Act.put, List.setIfInBounds_toArray, List.set_cons_zero, List.set_cons_succ]
  refine seq_calc (by simp only [List.getElem?_toArray, List.getElem?_cons_succ, List.getElem?_cons_zero]; rfl) (by rfl) (fun u => by go_simp <;> with_reducible rfl) ?_
  try simp only [Act.put, List.setIfInBounds_toArray, List.set_cons_zero, List.set_cons_succ]
  refine seq_load1 (by simp only [List.getElem?_toArray, List.getElem?_cons_succ, List.getElem?_cons_zero]; rfl) (by rfl) rfl rfl Tryd.underlying3 rfl (by go_simp <;> with_reducible rfl) (by first | exact id | assumption | (simp; done) | (simp; omega)) ?_
  try simp only [Act.put, List.setIfInBounds_toArray, List.set_cons_zero, List.set_cons_succ]
  refine seq_calc (by simp only [List.getElem?_toArray, List.getElem?_cons_succ, List.getElem?_cons_zero]; rfl) (by rfl) (fun u => by go_simp <;> with_reducible rfl) ?_
  try simp only [Act.put, List.setIfInBounds_toArray, List.set_cons_zero, List.set_cons_succ]
  refine seq_do (by simp only [List.getElem?_toArray, List.getElem?_cons_succ, List.getElem?_cons_zero]; rfl) (by rfl) (fun K hK => ?_); go_wp2_with (go_at_call 72; refine (HA.out _ (H1.out.below (by go_grown))).mono ?_; rintro e w' ⟨rfl, rfl⟩); refine hK.out _ _ (by first | (with_reducible exact Chg.refl _ _) | (with_reducible assumption) | (refine Chg.of_below ?_; with_reducible assumption) | (with_reducible exact (Chg.refl _ _).alloc _) | (with_reducible exact (Chg.refl _ _).drewN _) | (with_reducible exact (Chg.refl _ _).drew) | exact ⟨rfl, rfl, rfl, Nat.le_refl _, fun _ _ _ => rfl⟩) ?_; clear hK K
  try simp only [Act.put, List.setIfInBounds_toArray, List.set_cons_zero, List.set_cons_succ]
  refine seq_calc (by simp only [List.getElem?_toArray, List.getElem?_cons_succ, List.getElem?_cons_zero]; rfl) (by rfl) (fun u => by go_simp <;> with_reducible rfl) ?_
  try simp only [Act.put, List.setIfInBounds_toArray, List.set_cons_zero, List.set_cons_succ]
  refine seq_last (by simp only [List.getElem?_toArray, List.getElem?_cons_succ, List.getElem?_cons_zero]; rfl) (by rfl) (fun K hK => ?_); go_wp2_with (fail); refine hK.out _ _ ?_; clear hK K
  try simp only [Act.put, List.setIfInBounds_toArray, List.set_cons_zero, List.set_cons_succ]
  refine seq_nil ?_
  go_wp2
  go_ret
  refine ⟨rfl, ⟨?_, ?_, hne⟩, ?_⟩
  · have := ((H1.out.head.drew.drew.drew).other hne (q.at q.many) (.int .i64 x)).set 2 (.int .i64 ((q.many : Int) + 1))
    rw [hn1.out] at this ⊢
    rw [show (q.push x).cells R = (q.cells R).setIfInBounds 2 (.int .i64 ((q.many + 1 : Nat) : Int)) by simp [QSt.push, QSt.cells]]
    exact this
  · have := ((H1.out.ring.drew.drew.drew).set (q.at q.many) (.int .i64 x)).other (Ne.symm hne) 2 (.int .i64 ((q.many : Int) + 1))
    rw [show ((q.push x).ring.map (Value.int .i64)).toArray = ((q.ring.map (Value.int .i64)).toArray).setIfInBounds (q.at q.many) (.int .i64 x) by simp [QSt.push]]
    exact this
  · exact ((((((Chg.of_below hb1).drew).drew).drew)).setCell (.inl (.inr rfl)) _).setCell (.inl (.inl rfl)) _
/-- an empty queue of room for n -/
def QSt.new (n : Nat) : QSt := ⟨List.replicate n 0, 0, 0⟩
theorem QSt.new_ok {n : Nat} (h1 : 1 ≤ n) (h2 : n ≤ 40) : (QSt.new n).Ok := by constructor <;> simp [QSt.new] <;> omega
theorem QSt.new_list (n : Nat) : (QSt.new n).list = [] := rfl
theorem ownsRow_blk {w : World} {base g : Nat} {e : TypeId} {n : Nat} {xs : List Value} (h : w.ownsRow base e 1 (.slice (some ⟨g, 0, none⟩) n n) n xs) : Blk w g e xs.toArray := by
  rcases h.2 with ⟨h1, _⟩ | ⟨g', cap, cur, h1, _, h3, _, _, h4, h5⟩
  · cases h1
  · simp only [Value.slice.injEq, Option.some.injEq, Addr.mk.injEq, and_true, true_and] at h1
    obtain ⟨rfl, rfl⟩ := h1
    have : xs = cur.toList := by rw [← h5, List.take_of_length_le (by simp [h4])]
    rw [this]
    exact h3
/-- a queue, newly made -/
def NewQ (n : Nat) (w : World) (e : Ending) (w' : World) : Prop := ∃ B R, e = .returned (.tuple #[.pointer (some ⟨B, 0, none⟩), .nilIface]) ∧ QW w' B R (QSt.new n) ∧ w.heap.size ≤ B ∧ w.heap.size ≤ R ∧ Below w.heap.size w w'
set_option maxRecDepth 100000 in
set_option maxHeartbeats 1600000 in
theorem qnew_ok (n : Nat) (h1 : 1 ≤ n) (h2 : n ≤ 40) (w : World) :
    Calls Tryd.prog 15 #[.int .i64 (n : Int)] w (NewQ n w) := by
  obtain ⟨i0, hi, hz0, hz1, hz2⟩ := info_parts info3q
  have e1 : decide ((n : Int) < 1) = false := by simp; omega
  have e2 : decide ((n : Int) > 40) = false := by simp; omega
  go_enter Tryd.func15, Tryd.ntmps15
  go_wp2_with (at_make; refine wpList_make_full _ rfl _ _ 22 rfl w.heap.size 3 i0 (.int .i64 0) 1 Tryd.underlying22 hi hz0 hz1 .i64 .i64 _ _ n rfl rfl rfl rfl (by rw [hz2]; omega) (by unfold maxLen; omega) (Nat.le_refl _) ?_; intro w1 hown1 hgrow1; have hb1 := Lib.hid (ownsRow_blk hown1); have hB1 : Below w.heap.size w w1 := (Below.refl _ _).grown hgrow1 (Nat.le_refl _) (fun k e => by cases e); clear hgrow1 hown1)
  go_ret2
  refine ⟨w1.heap.size, w.heap.size, rfl, ⟨?_, ?_, by have := hb1.out.lt; omega⟩, hB1.size, Nat.le_refl _, hB1.alloc hB1.size _⟩
  · have := Blk.new w1 105 (QSt.cells w.heap.size (QSt.new n))
    simpa [QSt.cells, QSt.new] using this
  · have := hb1.out.alloc (.cells (QSt.cells w.heap.size (QSt.new n)) 105)
    rw [show (madeCells (Value.int .i64 0).cells (n * 1)).toList = List.replicate n (Value.int .i64 0) by rw [Nat.mul_one]; exact toList_madeCells_one _ _] at this
    rw [show ((QSt.new n).ring.map (Value.int .i64)) = List.replicate n (Value.int .i64 0) by simp [QSt.new]]
    simpa [QSt.cells, QSt.new] using this
theorem qnew_bad (a : Int) (ha : a < 1 ∨ 40 < a) (E : Nat → Addr) (w : World) (he : EC w E [1, 2, 16]) :
    Calls Tryd.prog 15 #[.int .i64 a] w fun e w' => e = .returned (.tuple #[.pointer none, errAt E 1]) ∧ Below w.heap.size w w' := by
  have hc : w.cell? ⟨0, 0, none⟩ = some (errAt E 1) := he 1 (by decide)
  clear he
  by_cases h1 : a < 1
  · have e1 : decide (a < 1) = true := by simpa using h1
    clear ha h1
    go_enter Tryd.func15, Tryd.ntmps15
    go_wp2
    refine wp_region_seq (fun _ => False) #[⟨0, 0, 1024, 0, 1⟩, ⟨0, 0, 4, 0, 0⟩, ⟨3, 3, 8, 1024, 0⟩] 1 [(0, 1), (1, 0), (2, 0)] (by kernel_rfl) (by kernel_rfl) (by kernel_rfl) (by kernel_rfl) (by kernel_rfl) (by kernel_rfl) (fun c a d v w h => by cases d <;> exact h) ?_
    refine seq_load1 (by simp only [List.getElem?_toArray, List.getElem?_cons_succ, List.getElem?_cons_zero]; rfl) (by rfl) rfl rfl Tryd.underlying26 rfl (by go_simp <;> with_reducible rfl) (by first | exact id | assumption | (simp; done) | (simp; omega)) ?_
    try simp only [Act.put, List.setIfInBounds_toArray, List.set_cons_zero, List.set_cons_succ]
    refine seq_calc (by simp only [List.getElem?_toArray, List.getElem?_cons_succ, List.getElem?_cons_zero]; rfl) (by rfl) (fun u => by go_simp <;> with_reducible rfl) ?_
    try simp only [Act.put, List.setIfInBounds_toArray, List.set_cons_zero, List.set_cons_succ]
    refine seq_calc (by simp only [List.getElem?_toArray, List.getElem?_cons_succ, List.getElem?_cons_zero]; rfl) (by rfl) (fun u => by go_simp <;> with_reducible rfl) ?_
    try simp only [Act.put, List.setIfInBounds_toArray, List.set_cons_zero, List.set_cons_succ]
    refine seq_nil ?_
    go_wp2
    go_ret2
    exact ⟨rfl, (Below.refl _ _).drew⟩
  · have e1 : decide (a < 1) = false := by simpa using h1
    have e2 : decide (a > 40) = true := by simp; omega
    clear ha h1
    go_enter Tryd.func15, Tryd.ntmps15
    go_wp2
    refine wp_region_seq (fun _ => False) #[⟨0, 0, 1024, 0, 1⟩, ⟨0, 0, 4, 0, 0⟩, ⟨3, 3, 8, 1024, 0⟩] 1 [(0, 1), (1, 0), (2, 0)] (by kernel_rfl) (by kernel_rfl) (by kernel_rfl) (by kernel_rfl) (by kernel_rfl) (by kernel_rfl) (fun c a d v w h => by cases d <;> exact h) ?_
    refine seq_load1 (by simp only [List.getElem?_toArray, List.getElem?_cons_succ, List.getElem?_cons_zero]; rfl) (by rfl) rfl rfl Tryd.underlying26 rfl (by go_simp <;> with_reducible rfl) (by first | exact id | assumption | (simp; done) | (simp; omega)) ?_
    try simp only [Act.put, List.setIfInBounds_toArray, List.set_cons_zero, List.set_cons_succ]
    refine seq_calc (by simp only [List.getElem?_toArray, List.getElem?_cons_succ, List.getElem?_cons_zero]; rfl) (by rfl) (fun u => by go_simp <;> with_reducible rfl) ?_
    try simp only [Act.put, List.setIfInBounds_toArray, List.set_cons_zero, List.set_cons_succ]
    refine seq_calc (by simp only [List.getElem?_toArray, List.getElem?_cons_succ, List.getElem?_cons_zero]; rfl) (by rfl) (fun u => by go_simp <;> with_reducible rfl) ?_
    try simp only [Act.put, List.setIfInBounds_toArray, List.set_cons_zero, List.set_cons_succ]
    refine seq_nil ?_
    go_wp2
    go_ret2
    exact ⟨rfl, (Below.refl _ _).drew⟩
/-- a queue without that number -/
def QSt.Without (q : QSt) (x : Int) (q' : QSt) : Prop := q'.Ok ∧ q'.ring.length = q.ring.length ∧ (q.list.Nodup → q'.list = q.list.filter fun y => decide (y ≠ x))
theorem qremove_no (q : QSt) (B R : Nat) (hq : q.Ok) (x : Int) (hx : x ∉ q.list) (w : World) (h : QW w B R q) :
    Calls Tryd.prog 18 #[.pointer (some ⟨B, 0, none⟩), .int .i64 x] w fun e w' => e = .returned (.bool false) ∧ Below w.heap.size w w' := by
  have hl := qlist_any q B R hq w h
  have hb := q.list_length
  have h2 := hq.many
  have h3 := hq.most
  have HC := Lib.hid (fun (v : Value) (w' : World) (hv : ReadsInts w' v q.list) => index_any v q.list x w' hv (by omega))
  rw [idxI_miss hx] at HC
  clear h hq hb hx
  go_enter Tryd.func18, Tryd.ntmps18
  go_wp2_with (first
    | (go_at_call 73; refine hl.mono ?_; rintro e w1 ⟨va, vc, rfl, -, -, hv, hb1⟩; replace hv := Lib.hid hv)
    | (go_at_call 74; refine (HC.out _ _ hv.out).mono ?_; rintro e w' ⟨rfl, rfl⟩))
  go_ret
  exact ⟨rfl, hb1⟩
set_option maxHeartbeats 3200000 in
theorem qremove_yes (q : QSt) (B R : Nat) (hq : q.Ok) (x : Int) (hx : x ∈ q.list) (w : World) (h : QW w B R q) :
    Calls Tryd.prog 18 #[.pointer (some ⟨B, 0, none⟩), .int .i64 x] w fun e w' => e = .returned (.bool true) ∧ (∃ q', q.Without x q' ∧ QW w' B R q') ∧ Chg (fun b => b = B ∨ b = R) w w' := by
  have hl := qlist_any q B R hq w h
  have hb := q.list_length
  have h2 := hq.many
  have h3 := hq.most
  obtain ⟨i, hi1, hi2⟩ := mem_first hx
  have him : i < q.many := by rw [← hb]; exact (List.getElem?_eq_some_iff.1 hi1).1
  have HC := Lib.hid (fun (v : Value) (w' : World) (hv : ReadsInts w' v q.list) => index_any v q.list x w' hv (by omega))
  rw [idxI_hit hi1 hi2] at HC
  have HQ := Lib.hid hq
  have H := Lib.hid h
  have HI1 := Lib.hid hi1
  have HLL := Lib.hid hb
  have hRz := h.ring.lt
  have hBz := h.head.lt
  clear h hq hx hi1 hi2 hb
  go_enter Tryd.func18, Tryd.ntmps18
  go_wp2_with (first
    | (go_at_call 73; refine hl.mono ?_; rintro e w1 ⟨va, vc, rfl, hcap, hbase, hv, hb1⟩; obtain ⟨-, hvx⟩ := hv.opened; obtain ⟨vb, vo, rfl, hcells⟩ := hvx (fun e => by have := HLL.out; rw [e] at this; simp at this; omega); have hvb := hbase _ rfl; rw [HLL.out] at hcap ⊢; replace hv := Lib.hid hv; replace hcells := Lib.hid hcells; clear hbase hvx)
    | (go_at_call 74; refine (HC.out _ _ (by have := hv.out; rwa [HLL.out] at this)).mono ?_; rintro e w' ⟨rfl, rfl⟩))
  · have hqi : q.many = i + 1 := by omega
    have HM := Lib.hid ((q.moved0 i).done HQ.out (by omega))
    have hn1 := Lib.hid (show ((q.many : Int) - 1) = ((q.many - 1 : Nat) : Int) by omega)
    replace hqi := Lib.hid hqi
    obtain ⟨⟨c0, c1, c2⟩, ⟨f0, f1, f2⟩⟩ := (H.out.below hb1).cells
    go_loopw [7, 8, 21] (fun v7 v8 v21 wr => v21 = .int .i64 0 ∧ wr = w1) (fun _ _ _ _ => 0)
    case atStart => exact ⟨rfl, rfl⟩
    case round =>
      obtain ⟨rfl, rfl⟩ := hrel
      have hz : ((0 : Int) < ((q.many - (i + 1) : Nat) : Int)) = False := by have := hqi.out; simp; omega
      go_wp2
      go_ret
      refine ⟨rfl, ⟨q.cut q.ring, ⟨QSt.cut_ok HQ.out rfl, rfl, fun hd => by rw [HM.out]; exact erase_filter hd HI1.out⟩, ?_⟩, (Chg.of_below hb1).setCell (.inl (.inl rfl)) _⟩
      have H1 := H.out.below hb1
      refine ⟨?_, H1.ring.other (Ne.symm H1.ne) _ _, H1.ne⟩
      have := H1.head.set 2 (.int .i64 ((q.many : Int) - 1))
      rw [hn1.out] at this ⊢
      exact this
  · rename_i hcne
    go_loopw [7, 8, 21] (fun v7 v8 v21 wr => ∃ (k : Nat) (r : List Int), k ≤ q.many - (i + 1) ∧ v21 = .int .i64 (k : Int) ∧ q.Moved i k r ∧ QW wr B R ⟨r, q.first, q.many⟩ ∧ Chg (fun b => b = B ∨ b = R) w1 wr) (fun _ _ v21 _ => (q.many - (i + 1)) - (intOf v21).toNat)
    case atStart => exact ⟨0, q.ring, by omega, rfl, q.moved0 i, H.out.below hb1, Chg.refl _ _⟩
    case round =>
      obtain ⟨k, r, hk, rfl, hmv, hQr, hC⟩ := hrel
      have hlen := hmv.len
      by_cases hlt : k < q.many - (i + 1)
      · have hlt' : (k : Int) < ((q.many - (i + 1) : Nat) : Int) := by omega
        have hqk : (QSt.mk r q.first q.many).Ok := ⟨(by show 1 ≤ r.length; have := HQ.out.pos; omega), (by show r.length ≤ 40; omega), (by show q.first < r.length; have := HQ.out.first; omega), (by show q.many ≤ r.length; omega)⟩
        have hat : (QSt.mk r q.first q.many).at (i + k) = q.at (i + k) := by simp [QSt.at, hlen]
        have HA := Lib.hid (fun (w' : World) h' => qat_any ⟨r, q.first, q.many⟩ B R (i + k) hqk (by omega) w' h')
        rw [hat] at HA
        have hatl := q.at_lt HQ.out (i + k)
        have hatl' : ((q.at (i + k) : Nat) : Int) < (r.length : Int) := by omega
        have hcell : wr.cell? ⟨vb, vo + (i + 1) + k, none⟩ = some (.int .i64 (q.item (i + k + 1))) := by
          have h0 := hcells.out (i + 1 + k) (by rw [HLL.out]; omega)
          have h1 : q.list[i + 1 + k]'(by rw [HLL.out]; omega) = q.item (i + k + 1) := by
            have := q.list_get (i + 1 + k) (by omega)
            rw [List.getElem?_eq_getElem (by rw [HLL.out]; omega)] at this
            rw [Option.some.inj this]; congr 1; omega
          rw [h1, ← Nat.add_assoc] at h0
          exact (hC.keep h0 (fun e => by rcases e with e | e <;> (simp at e; omega)))
        have hold : wr.cell? ⟨R, q.at (i + k), none⟩ = some (.int .i64 ((QSt.mk r q.first q.many).item (i + k))) := by rw [← hat]; exact hQr.item hqk (i + k)
        have hfro := hQr.ring.frozen (q.at (i + k))
        obtain ⟨⟨c0, c1, c2⟩, ⟨f0, f1, f2⟩⟩ := hQr.cells
        have hMN := Lib.hid (hmv.next HQ.out (by omega))
        replace hQr := Lib.hid hQr
        replace hmv := Lib.hid hmv
        replace hat := Lib.hid hat
        replace hlen := Lib.hid hlen
        clear hqk
        go_wp2
        refine wp_region_seq (fun _ => False) #[⟨0, 0, 67108864, 1, 0⟩, ⟨1, 1, 134217728, 67108864, 0⟩, ⟨2, 3, 268435456, 134217728, 0⟩, ⟨4, 7, 536870912, 268435456, 1⟩, ⟨0, 0, 1073741824, 1, 0⟩, ⟨0, 0, 2147483648, 64, 0⟩, ⟨0, 0, 4294967296, 128, 0⟩, ⟨96, 96, 8589934592, 6442450944, 0⟩, ⟨144, 240, 17179869184, 9663676416, 2⟩, ⟨0, 0, 34359738368, 256, 0⟩, ⟨1023, 1023, 68719476736, 17716740096, 0⟩, ⟨2047, 2047, 0, 103079215104, 3⟩] 8 [(0, 0), (1, 0), (2, 0), (3, 1), (4, 0), (5, 0), (6, 0), (7, 0), (9, 0), (8, 2), (10, 0), (11, 3)] (by kernel_rfl) (by kernel_rfl) (by kernel_rfl) (by kernel_rfl) (by kernel_rfl) (by kernel_rfl) (fun c a d v w h => by cases d <;> exact h) ?_
        refine seq_calc (by simp only [List.getElem?_toArray, List.getElem?_cons_succ, List.getElem?_cons_zero]; rfl) (by rfl) (fun u => by go_simp <;> with_reducible rfl) ?_
        try simp only [Act.put, List.setIfInBounds_toArray, List.set_cons_zero, List.set_cons_succ]
        refine seq_calc (by simp only [List.getElem?_toArray, List.getElem?_cons_succ, List.getElem?_cons_zero]; rfl) (by rfl) (fun u => by go_simp <;> with_reducible rfl) ?_
        try simp only [Act.put, List.setIfInBounds_toArray, List.set_cons_zero, List.set_cons_succ]
        refine seq_calc (by simp only [List.getElem?_toArray, List.getElem?_cons_succ, List.getElem?_cons_zero]; rfl) (by rfl) (fun u => by go_simp <;> with_reducible rfl) ?_
        try simp only [Act.put, List.setIfInBounds_toArray, List.set_cons_zero, List.set_cons_succ]
        refine seq_load1 (by simp only [List.getElem?_toArray, List.getElem?_cons_succ, List.getElem?_cons_zero]; rfl) (by rfl) rfl rfl Tryd.underlying22 rfl (by go_simp <;> with_reducible rfl) (by first | exact id | assumption | (simp; done) | (simp; omega)) ?_
        try simp only [Act.put, List.setIfInBounds_toArray, List.set_cons_zero, List.set_cons_succ]
        refine seq_calc (by simp only [List.getElem?_toArray, List.getElem?_cons_succ, List.getElem?_cons_zero]; rfl) (by rfl) (fun u => by go_simp <;> with_reducible rfl) ?_
        try simp only [Act.put, List.setIfInBounds_toArray, List.set_cons_zero, List.set_cons_succ]
        refine seq_calc (by simp only [List.getElem?_toArray, List.getElem?_cons_succ, List.getElem?_cons_zero]; rfl) (by rfl) (fun u => by go_simp <;> with_reducible rfl) ?_
        try simp only [Act.put, List.setIfInBounds_toArray, List.set_cons_zero, List.set_cons_succ]
        refine seq_calc (by simp only [List.getElem?_toArray, List.getElem?_cons_succ, List.getElem?_cons_zero]; rfl) (by rfl) (fun u => by go_simp <;> with_reducible rfl) ?_
        try simp only [Act.put, List.setIfInBounds_toArray, List.set_cons_zero, List.set_cons_succ]
        refine seq_calc (by simp only [List.getElem?_toArray, List.getElem?_cons_succ, List.getElem?_cons_zero]; rfl) (by rfl) (fun u => by go_simp <;> with_reducible rfl) ?_
        try simp only [Act.put, List.setIfInBounds_toArray, List.set_cons_zero, List.set_cons_succ]
        refine seq_calc (by simp only [List.getElem?_toArray, List.getElem?_cons_succ, List.getElem?_cons_zero]; rfl) (by rfl) (fun u => by go_simp <;> with_reducible rfl) ?_
        try simp only [Act.put, List.setIfInBounds_toArray, List.set_cons_zero, List.set_cons_succ]
        refine seq_do (by simp only [List.getElem?_toArray, List.getElem?_cons_succ, List.getElem?_cons_zero]; rfl) (by rfl) (fun K hK => ?_); go_wp2_with (go_at_call 72; refine (HA.out _ (hQr.out.below (by go_grown))).mono ?_; rintro e w' ⟨rfl, rfl⟩); refine hK.out _ _ (by first | (with_reducible exact Chg.refl _ _) | (with_reducible assumption) | (refine Chg.of_below ?_; with_reducible assumption) | (with_reducible exact (Chg.refl _ _).alloc _) | (with_reducible exact (Chg.refl _ _).drewN _) | (with_reducible exact (Chg.refl _ _).drew) | exact ⟨rfl, rfl, rfl, Nat.le_refl _, fun _ _ _ => rfl⟩) ?_; clear hK K
        try simp only [Act.put, List.setIfInBounds_toArray, List.set_cons_zero, List.set_cons_succ]
        refine seq_calc (by simp only [List.getElem?_toArray, List.getElem?_cons_succ, List.getElem?_cons_zero]; rfl) (by rfl) (fun u => by go_simp <;> with_reducible rfl) ?_
        try simp only [Act.put, List.setIfInBounds_toArray, List.set_cons_zero, List.set_cons_succ]
        refine seq_last (by simp only [List.getElem?_toArray, List.getElem?_cons_succ, List.getElem?_cons_zero]; rfl) (by rfl) (fun K hK => ?_); go_wp2_with (fail); refine hK.out _ _ ?_; clear hK K
        try simp only [Act.put, List.setIfInBounds_toArray, List.set_cons_zero, List.set_cons_succ]
        refine seq_nil ?_
        go_wp2
        go_roundw
        case rel =>
          refine ⟨k + 1, _, by omega, by go_num, hMN.out, ⟨?_, ?_, hQr.out.ne⟩, ((hC.setCell (.inl (.inr rfl)) _).drew).drew⟩
          · have := (hQr.out.head.other hQr.out.ne (q.at (i + k)) (.int .i64 (q.item (i + k + 1)))).drew.drew
            simpa [QSt.cells] using this
          · have := (hQr.out.ring.set (q.at (i + k)) (.int .i64 (q.item (i + k + 1)))).drew.drew
            simpa using this
        case measure => simp [intOf]; omega
      · obtain rfl : k = q.many - (i + 1) := by omega
        have HM := Lib.hid (hmv.done HQ.out (by omega))
        have hn1 := Lib.hid (show ((q.many : Int) - 1) = ((q.many - 1 : Nat) : Int) by omega)
        obtain ⟨⟨c0, c1, c2⟩, ⟨f0, f1, f2⟩⟩ := hQr.cells
        replace hQr := Lib.hid hQr
        replace hmv := Lib.hid hmv
        replace hlen := Lib.hid hlen
        go_wp2
        go_ret
        refine ⟨rfl, ⟨q.cut r, ⟨QSt.cut_ok HQ.out hlen.out, hlen.out, fun hd => by rw [HM.out]; exact erase_filter hd HI1.out⟩, ?_⟩, ((Chg.of_below hb1).trans hC).setCell (.inl (.inl rfl)) _⟩
        refine ⟨?_, hQr.out.ring.other (Ne.symm hQr.out.ne) _ _, hQr.out.ne⟩
        have := hQr.out.head.set 2 (.int .i64 ((q.many : Int) - 1))
        rw [hn1.out] at this ⊢
        exact this
end Go.Proofs.YtaegjdkmnkjggaaDoor
