/- Texts joined: Ref20P Ref20 Ref20b Ref20c Ref20d SchedSd SchedAlone SchedActs. No condition but those that stand within. -/
import Derived.Laws.AppendOwnNone
import Derived.Lib.MinMax
import Derived.Laws.OwnMore
import Derived.Deep.DeepCutAuto
import Derived.Deep.CutBlock
import Derived.Test.YtolhmibejhldkaaDoorPkSwar
import Derived.Test.YtolhmibejhldkaaDoorPkMeter
import Derived.Test.YtolhmibejhldkaaDoorPkErrs
import Derived.Test.YtolhmibejhldkaaDoorPkGroup
import Derived.Test.YtolhmibejhldkaaDoorPkTab
import Derived.Test.YtolhmibejhldkaaDoorPkQueue
import Derived.Test.YtolhmibejhldkaaDoorPkSched
set_option linter.unusedVariables false
set_option linter.unusedSimpArgs false
namespace Go.Proofs.YtolhmibejhldkaaDoor
open Go.RowKit Go.Proofs
def jLens (js : List (Int × Nat)) : List Int := js.map fun p => (p.2 : Int)
theorem lens_len (js : List (Int × Nat)) : (jLens js).length = js.length := by simp [jLens]
theorem ids_len (js : List (Int × Nat)) : (jIds js).length = js.length := by simp [jIds]
def fnd (js : List (Int × Nat)) (x : Int) : Nat := (jIds js).idxOf x
theorem fnd_cons (p : Int × Nat) (r : List (Int × Nat)) (x : Int) : fnd (p :: r) x = if p.1 = x then 0 else fnd r x + 1 := by
  show (p.1 :: jIds r).idxOf x = _
  rw [List.idxOf_cons]
  by_cases e : p.1 = x
  · rw [if_pos e]; simp [e]
  · rw [if_neg e]
    have : (p.1 == x) = false := by simpa using e
    rw [this]; rfl
theorem fnd_lt : ∀ {js : List (Int × Nat)} {x : Int}, x ∈ jIds js → fnd js x < js.length
  | [], _, h => by cases h
  | p :: r, x, h => by
    rw [fnd_cons, List.length_cons]
    split
    · omega
    · rename_i e
      have := fnd_lt (js := r) ((List.mem_cons.1 (show x ∈ p.1 :: jIds r from h)).resolve_left (fun e2 => e e2.symm))
      omega
theorem fnd_get : ∀ {js : List (Int × Nat)} {x : Int}, x ∈ jIds js → js[fnd js x]? = some (x, jGet js x)
  | [], _, h => by cases h
  | p :: r, x, h => by
    rw [fnd_cons]
    unfold jGet
    split
    · rename_i e; rw [← e]; rfl
    · rename_i e
      rw [List.getElem?_cons_succ]
      exact fnd_get ((List.mem_cons.1 (show x ∈ p.1 :: jIds r from h)).resolve_left (fun e2 => e e2.symm))
theorem fnd_cut : ∀ {js : List (Int × Nat)} {x : Int}, (jIds js).Nodup → x ∈ jIds js → js.take (fnd js x) ++ js.drop (fnd js x + 1) = js.filter fun p => decide (p.1 ≠ x)
  | [], _, _, h => by cases h
  | p :: r, x, hd, h => by
    have hd' : p.1 ∉ jIds r ∧ (jIds r).Nodup := List.nodup_cons.1 hd
    rw [fnd_cons]
    by_cases e : p.1 = x
    · rw [if_pos e, List.filter_cons_of_neg (by simp [e])]
      simp only [List.take_zero, List.nil_append, Nat.zero_add, List.drop_succ_cons, List.drop_zero]
      exact (List.filter_eq_self.2 fun q hq => by simpa using fun (e2 : q.1 = x) => hd'.1 (by rw [e, ← e2]; exact mem_ids hq)).symm
    · rw [if_neg e, List.filter_cons_of_pos (by simpa using e), List.take_succ_cons, List.drop_succ_cons, List.cons_append, fnd_cut hd'.2 ((List.mem_cons.1 (show x ∈ p.1 :: jIds r from h)).resolve_left (fun e2 => e e2.symm))]
theorem cut_none {js : List (Int × Nat)} {x : Int} (h : x ∉ jIds js) : (js.filter fun p => decide (p.1 ≠ x)) = js :=
  List.filter_eq_self.2 fun q hq => by simpa using fun (e2 : q.1 = x) => h (by rw [← e2]; exact mem_ids hq)
theorem cut_ids (js : List (Int × Nat)) (i : Nat) : jIds (js.take i ++ js.drop (i + 1)) = (jIds js).take i ++ (jIds js).drop (i + 1) := by simp [jIds]
theorem cut_lens (js : List (Int × Nat)) (i : Nat) : jLens (js.take i ++ js.drop (i + 1)) = (jLens js).take i ++ (jLens js).drop (i + 1) := by simp [jLens]
theorem sub_lens : ∀ {js : List (Int × Nat)} {x : Int} (n : Nat), (jIds js).Nodup → x ∈ jIds js → n ≤ jGet js x → jLens (jSub js x n) = (jLens js).set (fnd js x) ((jGet js x : Int) - (n : Int))
  | [], _, _, _, h, _ => by cases h
  | p :: r, x, n, hd, h, hn => by
    have hd' : p.1 ∉ jIds r ∧ (jIds r).Nodup := List.nodup_cons.1 hd
    rw [fnd_cons]
    show ((if p.1 = x then (p.1, p.2 - n) else p).2 : Int) :: jLens (jSub r x n) = ((p.2 : Int) :: jLens r).set _ _
    unfold jGet at hn ⊢
    by_cases e : p.1 = x
    · rw [if_pos e] at hn
      rw [if_pos e, if_pos e, if_pos e, List.set_cons_zero]
      have h2 : jSub r x n = r := by
        unfold jSub
        refine (List.map_congr_left fun q hq => ?_).trans (List.map_id r)
        rw [if_neg (fun (e2 : q.1 = x) => hd'.1 (by rw [e, ← e2]; exact mem_ids hq))]; rfl
      rw [h2]
      congr 1
      show ((p.2 - n : Nat) : Int) = _
      omega
    · rw [if_neg e] at hn
      rw [if_neg e, if_neg e, if_neg e, List.set_cons_succ, sub_lens n hd'.2 ((List.mem_cons.1 (show x ∈ p.1 :: jIds r from h)).resolve_left (fun e2 => e e2.symm)) hn]
theorem ownsRow_set {w : World} {base n g cap i : Nat} {e : TypeId} {xs : List Value} (h : w.ownsRow base e 1 (.slice (some ⟨g, 0, none⟩) n cap) n xs) (hi : i < n) (u : Value) :
    (w.setCell ⟨g, i, none⟩ u).ownsRow base e 1 (.slice (some ⟨g, 0, none⟩) n cap) n (xs.set i u) := by
  obtain ⟨h1, h2⟩ := h
  refine ⟨by simpa using h1, ?_⟩
  rcases h2 with ⟨e0, -⟩ | ⟨g', cap', cur, e0, hb, hg, hc, hm, hs, hx⟩
  · cases e0
  · cases e0
    refine .inr ⟨g, cap, cur.setIfInBounds i u, rfl, hb, Blk.set (show Blk w g e cur from hg) i u, hc, hm, by simpa using hs, ?_⟩
    rw [← hx]
    simp [List.take_set]
theorem ownsRow_other {w w' : World} {X : Nat → Prop} {base n : Nat} {e : TypeId} {v : Value} {xs : List Value} (h : w.ownsRow base e 1 v n xs) (hc : Chg X w w') (hne : ∀ b, v.ownBlock = some b → ¬ X b) : w'.ownsRow base e 1 v n xs := by
  refine ⟨h.1, ?_⟩
  rcases h.2 with h2 | ⟨g, cap, cur, rfl, hb, hh, hr⟩
  · exact .inl h2
  · exact .inr ⟨g, cap, cur, rfl, hb, (hc.block g (Array.getElem?_eq_some_iff.1 hh).1 (hne g rfl)).trans hh, hr⟩
theorem sliceI_to (b o n cap i : Nat) (h : i ≤ cap) (w : World) : (Instr.slice 37 (.slice (some ⟨b, o, none⟩) n cap) none (some (.int .i64 (i : Int))) none).run Tryd.prog w = .ok (.slice (some ⟨b, o, none⟩) i cap) w := by
  have hsz := Tryd.sizeOf3 w
  have hb : (Instr.sliceBounds true n cap none (some (.int .i64 (i : Int))) none).run Tryd.prog w = .ok (0, i, cap) w := by
    simp [Instr.sliceBounds, go_sem, h]
    try omega
  simp only [Instr.slice, Sem.run_bind, run_underlying Tryd.underlying37, Result.andThen, hb, hsz, Sem.run_pure]
  by_cases hc : cap = 0
  · subst hc
    obtain rfl : i = 0 := by omega
    rfl
  · rw [if_neg (by omega)]
    simp [Addr.add]
theorem sliceI_from (b n cap i : Nat) (h : i ≤ n) (hn : n ≤ cap) (w : World) : (Instr.slice 37 (.slice (some ⟨b, 0, none⟩) n cap) (some (.int .i64 (i : Int))) none none).run Tryd.prog w = .ok (.slice (some (if cap = i then ⟨b, 0, none⟩ else ⟨b, i, none⟩)) (n - i) (cap - i)) w := by
  have hsz := Tryd.sizeOf3 w
  have hb : (Instr.sliceBounds true n cap (some (.int .i64 (i : Int))) none none).run Tryd.prog w = .ok (i, n, cap) w := by
    simp [Instr.sliceBounds, go_sem, h]
    try omega
  by_cases hc : cap = i
  · simp only [Instr.slice, Sem.run_bind, run_underlying Tryd.underlying37, Result.andThen, hb, hsz, Sem.run_pure]; rw [if_pos hc, if_pos hc]
  · simp only [Instr.slice, Sem.run_bind, run_underlying Tryd.underlying37, Result.andThen, hb, hsz, Sem.run_pure]; rw [if_neg hc, if_neg hc]; simp [Addr.add]; try omega
end Go.Proofs.YtolhmibejhldkaaDoor

namespace Go.Proofs.YtolhmibejhldkaaDoor
open Go.RowKit Go.Proofs
structure DS (w : World) (Rb : Nat) (vI vL : Value) (k sp : Int) (js : List (Int × Nat)) : Prop where
  b : Blk w Rb 51 #[.int .i64 k, .int .i64 sp, vI, vL]
  i : w.ownsRow 0 3 1 vI js.length ((jIds js).map (Value.int .i64))
  l : w.ownsRow 0 3 1 vL js.length ((jLens js).map (Value.int .i64))
  n : ∀ b, vI.ownBlock = some b → vL.ownBlock ≠ some b
  z : vI.ownBlock ≠ some Rb ∧ vL.ownBlock ≠ some Rb
def DX (Rb : Nat) (vI vL : Value) (b : Nat) : Prop := b = Rb ∨ vI.ownBlock = some b ∨ vL.ownBlock = some b
section
variable {w w' w0 : World} {Rb : Nat} {vI vL : Value} {k sp : Int} {js : List (Int × Nat)}
theorem DS.lt (h : DS w Rb vI vL k sp js) : ∀ b, DX Rb vI vL b → b < w.heap.size := fun b hb => by
  rcases hb with e | e | e
  · rw [e]; exact h.b.lt
  · exact (h.i.lt b e).2
  · exact (h.l.lt b e).2
theorem DS.chg {X : Nat → Prop} (h : DS w Rb vI vL k sp js) (hc : Chg X w w') (hX : ∀ b, DX Rb vI vL b → ¬ X b) : DS w' Rb vI vL k sp js :=
  ⟨h.b.chg hc (hX _ (.inl rfl)), ownsRow_other h.i hc (fun b e => hX b (.inr (.inl e))), ownsRow_other h.l hc (fun b e => hX b (.inr (.inr e))), h.n, h.z⟩
theorem DS.later (h : DS w Rb vI vL k sp js) (hb : Below w.heap.size w w') : DS w' Rb vI vL k sp js := h.chg (X := fun _ => False) (Chg.of_below hb) (fun _ _ e => e)
theorem DS.cells (h : DS w Rb vI vL k sp js) : w.cell? ⟨Rb, 0, none⟩ = some (.int .i64 k) ∧ w.cell? ⟨Rb, 1, none⟩ = some (.int .i64 sp) ∧ w.cell? ⟨Rb, 2, none⟩ = some vI ∧ w.cell? ⟨Rb, 3, none⟩ = some vL ∧ Rb < w.heap.size ∧ ∀ j, w.frozen? ⟨Rb, j, none⟩ = false :=
  ⟨h.b.cell 0, h.b.cell 1, h.b.cell 2, h.b.cell 3, h.b.lt, fun j => h.b.frozen j⟩
theorem DS.val (h : DS w Rb vI vL k sp js) : ∃ aI cI aL cL, vI = .slice aI js.length cI ∧ vL = .slice aL js.length cL := by
  obtain ⟨a, c, e⟩ := ownsRow_slice h.i
  obtain ⟨b, d, f⟩ := ownsRow_slice h.l
  exact ⟨a, c, b, d, e, f⟩
def fz (js : List (Int × Nat)) (x : Int) : Int := if x ∈ jIds js then (fnd js x : Int) else -1
theorem fnd_le : ∀ {js : List (Int × Nat)} {x : Int} {i : Nat} {p : Int × Nat}, js[i]? = some p → p.1 = x → fnd js x ≤ i
  | [], _, _, _, h, _ => by simp at h
  | q :: r, x, 0, p, h, e => by
    rw [List.getElem?_cons_zero] at h
    obtain rfl := Option.some.inj h
    rw [fnd_cons, if_pos e]; exact Nat.le_refl _
  | q :: r, x, i + 1, p, h, e => by
    rw [List.getElem?_cons_succ] at h
    have := fnd_le h e
    rw [fnd_cons]
    split <;> omega
set_option maxRecDepth 100000 in
set_option maxHeartbeats 4000000 in
theorem dfind_any (x : Int) (hl : js.length ≤ 1000) (h : DS w Rb vI vL k sp js) :
    Calls Tryd.prog 40 #[.pointer (some ⟨Rb, 0, none⟩), .int .i64 x] w fun e w' => e = .returned (.int .i64 (fz js x)) ∧ w = w' := by
  obtain ⟨aI, cI, aL, cL, rfl, rfl⟩ := h.val
  obtain ⟨c0, c1, c2, c3, hz, -⟩ := h.cells
  obtain ⟨a2, cap2, hv2, hcs⟩ := (readsInts_own h.i).cellsOf
  have HCS := Lib.hid hcs
  have HV := Lib.hid hv2
  have hlen : (jIds js).length = js.length := ids_len js
  clear h hcs hv2
  go_enter Tryd.func40, Tryd.ntmps40
  go_wp2
  go_loopg [12] js.length (fun gk v12 wr => ∃ (i : Nat), i + gk = js.length ∧ v12 = .int .i64 (i : Int) ∧ i ≤ fnd js x ∧ w = wr)
  case atStart => exact ⟨0, by omega, rfl, Nat.zero_le _, rfl⟩
  case round =>
    obtain ⟨i, hi, rfl, hf, rfl⟩ := hrel
    by_cases hlt : i < js.length
    · have hltI : (i : Int) < (js.length : Int) := by omega
      obtain ⟨rb, ro, hae, hcj⟩ := HCS.out i (by omega)
      have hv3 := (Value.slice.inj HV.out).1
      rw [hae] at hv3
      subst hv3
      have hc0 := hcj w (Below.refl _ _)
      obtain ⟨p, hp⟩ : ∃ p, js[i]? = some p := ⟨js[i], List.getElem?_eq_getElem hlt⟩
      have hpx : (jIds js)[i]'(by omega) = p.1 := by
        have h2 : js[i] = p := by rw [List.getElem?_eq_getElem hlt] at hp; exact Option.some.inj hp
        simp [jIds, h2]
      rw [hpx] at hc0
      have HP := Lib.hid hp
      obtain ⟨y, l⟩ := p
      simp only at hc0
      clear hp hpx hcj HCS HV hae
      by_cases hyx : y = x
      · have e1 := fnd_le HP.out hyx
        have hm : x ∈ jIds js := by rw [← hyx]; exact mem_ids (List.mem_of_getElem? HP.out)
        have HF := Lib.hid (show fz js x = (i : Int) from by unfold fz; rw [if_pos hm]; omega)
        clear hm e1 hf
        subst hyx
        go_wp2
        go_ret
        exact ⟨by rw [HF.out]; rfl, rfl⟩
      · have HE := Lib.hid (show i + 1 ≤ fnd js x from by
          rcases Nat.lt_or_ge i (fnd js x) with h | h
          · exact h
          · exfalso
            have e : fnd js x = i := by omega
            have hm : x ∈ jIds js := by
              have h1 : (jIds js).idxOf x < (jIds js).length := by rw [hlen]; show fnd js x < _; omega
              exact List.idxOf_lt_length_iff.1 h1
            have h2 := fnd_get hm
            rw [e, HP.out] at h2
            exact hyx (congrArg Prod.fst (Option.some.inj h2)))
        go_wp2
        go_roundg (gk - 1)
        case measure => omega
        case rel => exact ⟨i + 1, by omega, by go_num, HE.out, rfl⟩
    · obtain rfl : i = js.length := by omega
      have HF := Lib.hid (show fz js x = -1 from if_neg (fun hm => by have := fnd_lt hm; omega))
      clear HCS HV
      go_wp2
      go_ret
      exact ⟨by rw [HF.out]; rfl, rfl⟩
theorem sum_take (js : List (Int × Nat)) (i : Nat) (p : Int × Nat) (h : js[i]? = some p) : jSum (js.take (i + 1)) = jSum (js.take i) + p.2 := by
  obtain ⟨hi, e⟩ := List.getElem?_eq_some_iff.1 h
  rw [List.take_succ_eq_append_getElem hi, e]
  unfold jSum
  simp
theorem take_sum (js : List (Int × Nat)) (i : Nat) : jSum (js.take i) ≤ jSum js := by
  have h : jSum js = jSum (js.take i) + jSum (js.drop i) := by
    conv => lhs; rw [← List.take_append_drop i js]
    unfold jSum
    rw [List.map_append, List.sum_append]
  omega
set_option maxRecDepth 100000 in
set_option maxHeartbeats 4000000 in
theorem dsum_any (hl : js.length ≤ 1000) (hs : jSum js ≤ 100000) (h : DS w Rb vI vL k sp js) :
    Calls Tryd.prog 24 #[.pointer (some ⟨Rb, 0, none⟩)] w fun e w' => e = .returned (.int .i64 ((jSum js : Nat) : Int)) ∧ w = w' := by
  obtain ⟨aI, cI, aL, cL, rfl, rfl⟩ := h.val
  obtain ⟨c0, c1, c2, c3, hz, -⟩ := h.cells
  obtain ⟨a2, cap2, hv2, hcs⟩ := (readsInts_own h.l).cellsOf
  have HCS := Lib.hid hcs
  have HV := Lib.hid hv2
  have hlen : (jLens js).length = js.length := lens_len js
  clear h hcs hv2
  go_enter Tryd.func24, Tryd.ntmps24
  go_wp2
  go_loopg [11, 3] js.length (fun gk v11 v3 wr => ∃ (i n : Nat), i + gk = js.length ∧ v11 = .int .i64 (i : Int) ∧ v3 = .int .i64 (n : Int) ∧ n = jSum (js.take i) ∧ w = wr)
  case atStart => exact ⟨0, 0, by omega, rfl, rfl, rfl, rfl⟩
  case round =>
    obtain ⟨i, n, hi, rfl, rfl, hn, rfl⟩ := hrel
    have hnb : n ≤ 100000 := by rw [hn]; exact Nat.le_trans (take_sum js i) hs
    have HN := Lib.hid hn
    clear hn
    by_cases hlt : i < js.length
    · have hltI : (i : Int) < (js.length : Int) := by omega
      obtain ⟨rb, ro, hae, hcj⟩ := HCS.out i (by omega)
      have hv3 := (Value.slice.inj HV.out).1
      rw [hae] at hv3
      subst hv3
      have hc0 := hcj w (Below.refl _ _)
      obtain ⟨p, hp⟩ : ∃ p, js[i]? = some p := ⟨js[i], List.getElem?_eq_getElem hlt⟩
      have hpx : (jLens js)[i]'(by omega) = (p.2 : Int) := by
        have h2 : js[i] = p := by rw [List.getElem?_eq_getElem hlt] at hp; exact Option.some.inj hp
        simp [jLens, h2]
      rw [hpx] at hc0
      have hst := sum_take js i p hp
      have hle := take_sum js (i + 1)
      obtain ⟨y, l⟩ := p
      simp only at hc0 hst
      have hlb : l ≤ 100000 := by omega
      have HS := Lib.hid (show n + l = jSum (js.take (i + 1)) by rw [hst, HN.out])
      clear hp hpx hcj HCS HV hae hst hle
      go_wp2
      go_roundg (gk - 1)
      case measure => omega
      case rel => exact ⟨i + 1, n + l, by omega, by go_num, by go_num, HS.out, rfl⟩
    · obtain rfl : i = js.length := by omega
      have HF := Lib.hid (show n = jSum js from by rw [HN.out, List.take_length])
      clear HCS HV HN
      go_wp2
      go_ret
      exact ⟨by rw [← HF.out]; rfl, rfl⟩
theorem row_cells {base n g cap : Nat} {xs : List Int} (h : w.ownsRow base 3 1 (.slice (some ⟨g, 0, none⟩) n cap) n (xs.map (Value.int .i64))) : ∀ j u, (xs.map (Value.int .i64))[j]? = some u → w.cell? ⟨g, j, none⟩ = some u := by
  intro j u hj
  have h5 := h.cells (g := g) rfl j
  have h6 : (⟨g, 0, none⟩ : Addr).add j = ⟨g, j, none⟩ := by
    simp only [Addr.add]; split
    · rename_i e; rw [e]
    · simp
  rw [h6] at h5
  exact h5 _ hj
theorem one_ints (xs : List Int) : ∀ u ∈ xs.map (Value.int .i64), u.oneCell' = true := by
  intro u hu
  obtain ⟨x, -, rfl⟩ := List.mem_map.1 hu
  rfl
theorem wp_append_intsD {o : Oper} {a : Act} {K : Act → World → Prop} {Q : Exit → Act → World → Prop} (s x : Operand)
    (ho : o.op = .call { callee := .builtin .append, args := #[s, x], argTypes := #[37, 37] })
    (base : Nat) (v : Value) (l1 : List Int) (n1 : Nat) (hn1 : n1 = l1.length) (hs : a.eval s = v) (hown : w.ownsRow base 3 1 v n1 (l1.map (Value.int .i64)))
    (ad : Addr) (m c : Nat) (l2 : List Int) (hm : l2.length = m) (hx : a.eval x = .slice (some ad) m c) (hc : ∀ j u, (l2.map (Value.int .i64))[j]? = some u → w.cell? (ad.add j) = some u) (hlen : n1 + m ≤ 1000000) (hbase : base ≤ w.heap.size)
    (h : ∀ v' w', w'.ownsRow base 3 1 v' (n1 + m) ((l1 ++ l2).map (Value.int .i64)) → Chg (fun b => base ≤ b) w w' → w.grownBy w' v.ownBlock → K (a.put o.dst v') w') : o.wp Tryd.prog a w K Q := by
  obtain ⟨i0, hi, hz0, hz1, hz2⟩ := info_parts info3q
  refine wp_append_own _ _ _ 37 ho base 3 i0 (.int .i64 0) 1 8 Tryd.underlying37 hi hz0 hz1 hz2 rfl (by decide) _ _ _ hs hown ad m c (l2.map (Value.int .i64)) hx (by rw [List.length_map, hm, Nat.mul_one]) hc (one_ints _) (by unfold maxLen; omega) (by omega) hbase ?_
  intro v' w' h1 h2 _
  refine h v' w' (by rw [List.map_append]; exact h1) ?_ h2
  exact ⟨h2.os, h2.tape, h2.output, h2.size, fun k hk hx => h2.block k hk (fun e => hx (hown.lt k e.symm).1)⟩
theorem add0 (g j : Nat) : (⟨g, 0, none⟩ : Addr).add j = ⟨g, j, none⟩ := by
  simp only [Addr.add]; split
  · rename_i e; rw [e]
  · simp
theorem addN' (g k j : Nat) : (⟨g, k, none⟩ : Addr).add j = ⟨g, k + j, none⟩ := by
  simp only [Addr.add]; split
  · rename_i e; rw [e]; rfl
  · rfl
theorem ownsRow_capD {base n g cap : Nat} {e : TypeId} {xs : List Value} (h : w.ownsRow base e 1 (.slice (some ⟨g, 0, none⟩) n cap) n xs) : base ≤ g ∧ g < w.heap.size ∧ n ≤ cap := by
  rcases h.2 with ⟨e, -⟩ | ⟨g', cap', cur, e, hb, hg, hc, -⟩
  · cases e
  · cases e
    exact ⟨hb, (Array.getElem?_eq_some_iff.1 hg).1, hc⟩
theorem cut_take {w' : World} {base n g cap i : Nat} {xs : List Int} (h : w.ownsRow base 3 1 (.slice (some ⟨g, 0, none⟩) n cap) n (xs.map (Value.int .i64))) (hb : Below w.heap.size w w') : ∀ j u, ((xs.take i).map (Value.int .i64))[j]? = some u → w'.cell? ((⟨g, 0, none⟩ : Addr).add j) = some u := fun j u hj => by
  rw [add0]
  have hc := row_cells h j u (by
    rw [List.map_take, List.getElem?_take] at hj
    split at hj
    · exact hj
    · cases hj)
  exact (hb.cell (World.block_lt_of_cell? _ _ hc)).trans hc
theorem cut_drop {w' : World} {base n g cap i : Nat} {ad : Addr} {xs : List Int} (h : w.ownsRow base 3 1 (.slice (some ⟨g, 0, none⟩) n cap) n (xs.map (Value.int .i64))) (hl : xs.length = n) (hb : Below w.heap.size w w') (had : ad = if cap = i then ⟨g, 0, none⟩ else ⟨g, i, none⟩) : ∀ j u, ((xs.drop i).map (Value.int .i64))[j]? = some u → w'.cell? (ad.add j) = some u := fun j u hj => by
  by_cases e : cap = i
  · have hn := (ownsRow_capD h).2.2
    rw [List.drop_eq_nil_of_le (by omega)] at hj
    cases hj
  · rw [had, if_neg e, addN']
    have hc := row_cells h (i + j) u (by rw [List.map_drop, List.getElem?_drop] at hj; exact hj)
    exact (hb.cell (World.block_lt_of_cell? _ _ hc)).trans hc
set_option maxRecDepth 100000 in
set_option maxHeartbeats 8000000 in
theorem dremove_yes (x : Int) (hx : x ∈ jIds js) (hd : (jIds js).Nodup) (hl : js.length ≤ 1000) (h : DS w Rb vI vL k sp js) :
    Calls Tryd.prog 21 #[.pointer (some ⟨Rb, 0, none⟩), .int .i64 x] w fun e w' => ∃ vI' vL', e = .returned (.bool true) ∧ DS w' Rb vI' vL' k sp (js.filter fun p => decide (p.1 ≠ x)) ∧ (∀ b, vI'.ownBlock = some b ∨ vL'.ownBlock = some b → w.heap.size ≤ b) ∧ Chg (fun b => b = Rb) w w' := by
  obtain ⟨i0, hi0, hz0, hz1, hz2⟩ := info_parts info3q
  have FD := Lib.hid (dfind_any x hl h)
  have H := Lib.hid h
  obtain ⟨i, hi⟩ : ∃ i, i = fnd js x := ⟨_, rfl⟩
  have hil : i < js.length := by rw [hi]; exact fnd_lt hx
  rw [show fz js x = (i : Int) by unfold fz; rw [if_pos hx, hi]] at FD
  have HC := Lib.hid (fnd_cut hd hx)
  have HI := Lib.hid hi
  obtain ⟨gI, cI, hvI⟩ : ∃ g c, vI = .slice (some ⟨g, 0, none⟩) js.length c := by
    rcases h.i.2 with ⟨-, e⟩ | ⟨g, cap, cur, e, -⟩
    · omega
    · exact ⟨g, cap, e⟩
  obtain ⟨gL, cL, hvL⟩ : ∃ g c, vL = .slice (some ⟨g, 0, none⟩) js.length c := by
    rcases h.l.2 with ⟨-, e⟩ | ⟨g, cap, cur, e, -⟩
    · omega
    · exact ⟨g, cap, e⟩
  subst hvI hvL
  obtain ⟨c0, c1, c2, c3, hz, hf⟩ := h.cells
  have f2 := hf 2
  have f3 := hf 3
  have n1 : js.length ≤ cI := (ownsRow_capD h.i).2.2
  have n2 : js.length ≤ cL := (ownsRow_capD h.l).2.2
  have hil2 : i + 1 ≤ js.length := hil
  have e1 : IntKind.i64.wrap ((i : Int) + 1) = ((i + 1 : Nat) : Int) := by rw [IntKind.wrap_i64]; omega
  have hi0 : ¬ (i : Int) < 0 := by omega
  clear h hx hd hi hf
  go_enter Tryd.func21, Tryd.ntmps21
  go_wp2_with (go_at_call 40; (with_reducible refine FD.out.mono ?_); rintro e w1 ⟨rfl, rfl⟩)
  have RI := Lib.hid H.out.i
  have slA := sliceI_to gI 0 js.length cI i (by omega)
  have slB := sliceI_from gI js.length cI (i + 1) hil2 (by omega)
  obtain ⟨ad, had⟩ : ∃ ad : Addr, ad = if cI = i + 1 then ⟨gI, 0, none⟩ else ⟨gI, i + 1, none⟩ := ⟨_, rfl⟩
  rw [← had, show ((i + 1 : Nat) : Int) = (i : Int) + 1 from by omega] at slB
  have HAD := Lib.hid had
  have hnX : ¬ w.heap.size ≤ Rb := Nat.not_le.2 (by first | exact hz | omega)
  have HLN := Lib.hid (ids_len js)
  have hcd := Chg.drewAlloc (fun b => w.heap.size ≤ b) w (.cells #[] 3)
  clear had
  refine wp_region_seq (fun b => w.heap.size ≤ b) #[⟨0, 0, 2048, 1, 0⟩, ⟨0, 0, 4096, 0, 2⟩, ⟨0, 0, 8192, 1, 0⟩, ⟨4, 4, 16384, 8192, 0⟩, ⟨8, 12, 32768, 16384, 0⟩, ⟨16, 28, 65536, 32768, 1⟩, ⟨0, 0, 131072, 32, 0⟩, ⟨96, 124, 262144, 196608, 0⟩, ⟨130, 254, 524288, 266240, 2⟩, ⟨0, 0, 1048576, 1, 0⟩, ⟨512, 512, 2097152, 1048576, 0⟩, ⟨1024, 1536, 4194304, 2097152, 0⟩, ⟨2048, 3584, 8388608, 4194304, 1⟩, ⟨0, 0, 16777216, 32, 0⟩, ⟨8192, 8192, 33554432, 16777216, 0⟩, ⟨20480, 32256, 67108864, 41943040, 0⟩, ⟨33024, 65534, 134217728, 67633152, 3⟩, ⟨131071, 131071, 268435456, 2048, 0⟩, ⟨262143, 262143, 536870912, 268435456, 0⟩, ⟨393215, 524287, 0, 671088640, 3⟩] 4128 [(0, 0), (2, 0), (3, 0), (4, 0), (5, 1), (6, 0), (7, 0), (9, 0), (10, 0), (11, 0), (12, 1), (13, 0), (14, 0), (15, 0), (1, 2), (8, 2), (16, 3), (17, 0), (18, 0), (19, 3)] (by kernel_rfl) (by kernel_rfl) (by kernel_rfl) (by kernel_rfl) (by kernel_rfl) (by kernel_rfl) (fun c a d v w h => by cases d <;> exact h) ?_
  refine zqC ?_; refine zqC ?_; refine zqC ?_; refine zqC ?_
  refine zq1 Tryd.underlying37 ?_
  try refine zqP ?_; refine zqC ?_; refine zqC ?_; refine zqC ?_; refine zqC ?_; refine zqC ?_
  refine zq1 Tryd.underlying37 ?_
  try refine zqP ?_; refine zqC ?_; refine zqC ?_; refine zqC ?_
  refine zqD fun K hK => ?_; go_wp2_with (fail); refine hkA hK (h := ?_); clear hK K
  try refine zqP ?_
  refine zqD fun K hK => ?_; (first | (refine wp_append_intsD _ _ rfl w.heap.size _ [] 0 rfl rfl ⟨rfl, .inr ⟨_, 0, #[], rfl, (by first | exact Nat.le_refl _ | simp), (by first | exact Blk.new _ _ _ | exact (Blk.new _ _ _).alloc _ | exact Blk.new_at (by simp)), by simp, by decide, rfl, rfl⟩⟩ ⟨gI, 0, none⟩ i cI ((jIds js).take i) (by rw [List.length_take, HLN.out]; omega) rfl (cut_take RI.out (by go_grown)) (by omega) (by simp; try omega) ?_; intro v1 w1 hr1 hc1 hg1; have R1 := Lib.hid hr1; have B1 := Lib.hid (Below.trans (show Below w.heap.size w _ from by go_grown) (hc1.below (n := w.heap.size) (by simp; try omega) (fun b hb e => absurd e (by omega)))); clear hr1 hg1) | (refine wp_append_intsD _ _ rfl w.heap.size _ ([] ++ (jIds js).take i) (0 + i) (by rw [List.nil_append, List.length_take, HLN.out]; omega) rfl R1.out ad (js.length - (i + 1)) (cI - (i + 1)) ((jIds js).drop (i + 1)) (by rw [List.length_drop, HLN.out]) rfl (cut_drop RI.out HLN.out B1.out HAD.out) (by omega) B1.out.size ?_; intro v2 w2 hr2 hc2 hg2; rw [show 0 + i + (js.length - (i + 1)) = js.length - 1 by omega, List.nil_append] at hr2; obtain ⟨a4, q4, rfl⟩ := ownsRow_slice hr2; have R2 := Lib.hid hr2; have B2 := Lib.hid (B1.out.trans (hc2.below (n := w.heap.size) B1.out.size (fun b hb e => absurd e (by omega)))); obtain ⟨k1, k2⟩ := bcell B2.out; clear hr2 hg2)); refine hkA hK (h := ?_); clear hK K
  try refine zqP ?_
  refine zqE fun K hK => ?_; (first | (refine wp_append_intsD _ _ rfl w.heap.size _ [] 0 rfl rfl ⟨rfl, .inr ⟨_, 0, #[], rfl, (by first | exact Nat.le_refl _ | simp), (by first | exact Blk.new _ _ _ | exact (Blk.new _ _ _).alloc _ | exact Blk.new_at (by simp)), by simp, by decide, rfl, rfl⟩⟩ ⟨gI, 0, none⟩ i cI ((jIds js).take i) (by rw [List.length_take, HLN.out]; omega) rfl (cut_take RI.out (by go_grown)) (by omega) (by simp; try omega) ?_; intro v1 w1 hr1 hc1 hg1; have R1 := Lib.hid hr1; have B1 := Lib.hid (Below.trans (show Below w.heap.size w _ from by go_grown) (hc1.below (n := w.heap.size) (by simp; try omega) (fun b hb e => absurd e (by omega)))); clear hr1 hg1) | (refine wp_append_intsD _ _ rfl w.heap.size _ ([] ++ (jIds js).take i) (0 + i) (by rw [List.nil_append, List.length_take, HLN.out]; omega) rfl R1.out ad (js.length - (i + 1)) (cI - (i + 1)) ((jIds js).drop (i + 1)) (by rw [List.length_drop, HLN.out]) rfl (cut_drop RI.out HLN.out B1.out HAD.out) (by omega) B1.out.size ?_; intro v2 w2 hr2 hc2 hg2; rw [show 0 + i + (js.length - (i + 1)) = js.length - 1 by omega, List.nil_append] at hr2; obtain ⟨a4, q4, rfl⟩ := ownsRow_slice hr2; have R2 := Lib.hid hr2; have B2 := Lib.hid (B1.out.trans (hc2.below (n := w.heap.size) B1.out.size (fun b hb e => absurd e (by omega)))); obtain ⟨k1, k2⟩ := bcell B2.out; clear hr2 hg2)); refine hK.out _ _ ?_; clear hK K
  try refine zqP ?_; refine zqC ?_; refine zqC ?_
  refine zqE fun K hK => ?_; go_wp2_with (fail); refine hK.out _ _ ?_; clear hK K
  try refine zqP ?_
  refine seq_nil ?_
  go_wp2
  refine wp_at (fun W hW => ?_)
  have hWc : Chg (fun b => b = Rb) w W := by rw [hW]; exact (Chg.of_below B2.out).setCell (X := fun b => b = Rb) (.inl rfl) _
  have hWB : Blk W Rb 51 #[.int .i64 k, .int .i64 sp, .slice a4 (js.length - 1) q4, .slice (some ⟨gL, 0, none⟩) js.length cL] := by rw [hW]; exact (H.out.b.below B2.out hz).set 2 _
  have hgL : gL ≠ Rb := fun e => H.out.z.2 (by rw [← e]; rfl)
  have hRL := ownsRow_other H.out.l hWc (fun b e f => by cases e; exact hgL f)
  have hI2 : W.ownsRow w.heap.size 3 1 (.slice a4 (js.length - 1) q4) (js.length - 1) (((jIds js).take i ++ (jIds js).drop (i + 1)).map (Value.int .i64)) := by
    rw [hW]
    exact ownsRow_setCell_below R2.out (a := ⟨Rb, 2, none⟩) hz _
  have HWC := Lib.hid hWc
  have HWB := Lib.hid hWB
  have HI2 := Lib.hid hI2
  have hzw := hWc.size
  have hzW : Rb < W.heap.size := hWB.lt
  have c2 := hWB.cell 2
  have c3 := hWB.cell 3
  have f3 := hWB.frozen 3
  have RI := Lib.hid hRL
  clear hW hWc hWB hI2 hRL k1 k2 R1 R2 B1 B2 HAD HLN hcd hc1 hc2 slA slB hnX
  have slA := sliceI_to gL 0 js.length cL i (by omega)
  have slB := sliceI_from gL js.length cL (i + 1) hil2 (by omega)
  obtain ⟨ad, had⟩ : ∃ ad : Addr, ad = if cL = i + 1 then ⟨gL, 0, none⟩ else ⟨gL, i + 1, none⟩ := ⟨_, rfl⟩
  rw [← had, show ((i + 1 : Nat) : Int) = (i : Int) + 1 from by omega] at slB
  have HAD := Lib.hid had
  have hnX : ¬ W.heap.size ≤ Rb := Nat.not_le.2 (by first | exact hz | omega)
  have HLN := Lib.hid (lens_len js)
  have hcd := Chg.drewAlloc (fun b => W.heap.size ≤ b) W (.cells #[] 3)
  clear had
  refine wp_region_seq (fun b => W.heap.size ≤ b) #[⟨0, 0, 1073741824, 1, 0⟩, ⟨0, 0, 2147483648, 0, 2⟩, ⟨0, 0, 4294967296, 1, 0⟩, ⟨4, 4, 8589934592, 4294967296, 0⟩, ⟨8, 12, 17179869184, 8589934592, 0⟩, ⟨16, 28, 34359738368, 17179869184, 1⟩, ⟨0, 0, 68719476736, 32, 0⟩, ⟨96, 124, 137438953472, 103079215104, 0⟩, ⟨130, 254, 274877906944, 139586437120, 2⟩, ⟨0, 0, 549755813888, 1, 0⟩, ⟨512, 512, 1099511627776, 549755813888, 0⟩, ⟨1024, 1536, 2199023255552, 1099511627776, 0⟩, ⟨2048, 3584, 4398046511104, 2199023255552, 1⟩, ⟨0, 0, 8796093022208, 32, 0⟩, ⟨8192, 8192, 17592186044416, 8796093022208, 0⟩, ⟨20480, 32256, 35184372088832, 21990232555520, 0⟩, ⟨33024, 65534, 70368744177664, 35459249995776, 3⟩, ⟨131071, 131071, 140737488355328, 1073741824, 0⟩, ⟨262143, 262143, 281474976710656, 140737488355328, 0⟩, ⟨393215, 524287, 0, 351843720888320, 3⟩] 4128 [(0, 0), (2, 0), (3, 0), (4, 0), (5, 1), (6, 0), (7, 0), (9, 0), (10, 0), (11, 0), (12, 1), (13, 0), (14, 0), (15, 0), (1, 2), (8, 2), (16, 3), (17, 0), (18, 0), (19, 3)] (by kernel_rfl) (by kernel_rfl) (by kernel_rfl) (by kernel_rfl) (by kernel_rfl) (by kernel_rfl) (fun c a d v w h => by cases d <;> exact h) ?_
  refine zqC ?_; refine zqC ?_; refine zqC ?_; refine zqC ?_
  refine zq1 Tryd.underlying37 ?_
  try refine zqP ?_; refine zqC ?_; refine zqC ?_; refine zqC ?_; refine zqC ?_; refine zqC ?_
  refine zq1 Tryd.underlying37 ?_
  try refine zqP ?_; refine zqC ?_; refine zqC ?_; refine zqC ?_
  refine zqD fun K hK => ?_; go_wp2_with (fail); refine hkA hK (h := ?_); clear hK K
  try refine zqP ?_
  refine zqD fun K hK => ?_; (first | (refine wp_append_intsD _ _ rfl W.heap.size _ [] 0 rfl rfl ⟨rfl, .inr ⟨_, 0, #[], rfl, (by first | exact Nat.le_refl _ | simp), (by first | exact Blk.new _ _ _ | exact (Blk.new _ _ _).alloc _ | exact Blk.new_at (by simp)), by simp, by decide, rfl, rfl⟩⟩ ⟨gL, 0, none⟩ i cL ((jLens js).take i) (by rw [List.length_take, HLN.out]; omega) rfl (cut_take RI.out (by go_grown)) (by omega) (by simp; try omega) ?_; intro v1 w1 hr1 hc1 hg1; have R1 := Lib.hid hr1; have B1 := Lib.hid (Below.trans (show Below W.heap.size W _ from by go_grown) (hc1.below (n := W.heap.size) (by simp; try omega) (fun b hb e => absurd e (by omega)))); clear hr1 hg1) | (refine wp_append_intsD _ _ rfl W.heap.size _ ([] ++ (jLens js).take i) (0 + i) (by rw [List.nil_append, List.length_take, HLN.out]; omega) rfl R1.out ad (js.length - (i + 1)) (cL - (i + 1)) ((jLens js).drop (i + 1)) (by rw [List.length_drop, HLN.out]) rfl (cut_drop RI.out HLN.out B1.out HAD.out) (by omega) B1.out.size ?_; intro v2 w2 hr2 hc2 hg2; rw [show 0 + i + (js.length - (i + 1)) = js.length - 1 by omega, List.nil_append] at hr2; obtain ⟨a5, q5, rfl⟩ := ownsRow_slice hr2; have R2 := Lib.hid hr2; have B2 := Lib.hid (B1.out.trans (hc2.below (n := W.heap.size) B1.out.size (fun b hb e => absurd e (by omega)))); obtain ⟨k1, k2⟩ := bcell B2.out; clear hr2 hg2)); refine hkA hK (h := ?_); clear hK K
  try refine zqP ?_
  refine zqE fun K hK => ?_; (first | (refine wp_append_intsD _ _ rfl W.heap.size _ [] 0 rfl rfl ⟨rfl, .inr ⟨_, 0, #[], rfl, (by first | exact Nat.le_refl _ | simp), (by first | exact Blk.new _ _ _ | exact (Blk.new _ _ _).alloc _ | exact Blk.new_at (by simp)), by simp, by decide, rfl, rfl⟩⟩ ⟨gL, 0, none⟩ i cL ((jLens js).take i) (by rw [List.length_take, HLN.out]; omega) rfl (cut_take RI.out (by go_grown)) (by omega) (by simp; try omega) ?_; intro v1 w1 hr1 hc1 hg1; have R1 := Lib.hid hr1; have B1 := Lib.hid (Below.trans (show Below W.heap.size W _ from by go_grown) (hc1.below (n := W.heap.size) (by simp; try omega) (fun b hb e => absurd e (by omega)))); clear hr1 hg1) | (refine wp_append_intsD _ _ rfl W.heap.size _ ([] ++ (jLens js).take i) (0 + i) (by rw [List.nil_append, List.length_take, HLN.out]; omega) rfl R1.out ad (js.length - (i + 1)) (cL - (i + 1)) ((jLens js).drop (i + 1)) (by rw [List.length_drop, HLN.out]) rfl (cut_drop RI.out HLN.out B1.out HAD.out) (by omega) B1.out.size ?_; intro v2 w2 hr2 hc2 hg2; rw [show 0 + i + (js.length - (i + 1)) = js.length - 1 by omega, List.nil_append] at hr2; obtain ⟨a5, q5, rfl⟩ := ownsRow_slice hr2; have R2 := Lib.hid hr2; have B2 := Lib.hid (B1.out.trans (hc2.below (n := W.heap.size) B1.out.size (fun b hb e => absurd e (by omega)))); obtain ⟨k1, k2⟩ := bcell B2.out; clear hr2 hg2)); refine hK.out _ _ ?_; clear hK K
  try refine zqP ?_; refine zqC ?_; refine zqC ?_
  refine zqE fun K hK => ?_; go_wp2_with (fail); refine hK.out _ _ ?_; clear hK K
  try refine zqP ?_
  refine seq_nil ?_
  go_wp2
  go_ret
  have hids := cut_ids js i
  have hlens := cut_lens js i
  have hcut := HC.out
  rw [← HI.out] at hcut
  rw [hcut] at hids hlens
  have hlc : (js.filter fun p => decide (p.1 ≠ x)).length = js.length - 1 := by
    rw [← hcut, List.length_append, List.length_take, List.length_drop]; omega
  have hI3 := ownsRow_setCell_below (ownsRow_own HI2.out B2.out) (a := ⟨Rb, 3, none⟩) hz (.slice a5 (js.length - 1) q5)
  have hL3 := ownsRow_setCell_below R2.out (a := ⟨Rb, 3, none⟩) hzW (.slice a5 (js.length - 1) q5)
  rw [← hids] at hI3
  rw [← hlens] at hL3
  have hIb : ∀ b, (Value.slice a4 (js.length - 1) q4).ownBlock = some b → w.heap.size ≤ b ∧ b < W.heap.size := fun b e => HI2.out.lt b e
  have hLb : ∀ b, (Value.slice a5 (js.length - 1) q5).ownBlock = some b → W.heap.size ≤ b := fun b e => (R2.out.lt b e).1
  refine ⟨_, _, rfl, ⟨(HWB.out.below B2.out hzW).set 3 _, by rw [hlc]; exact ownsRow_base hI3 (Nat.zero_le _), by rw [hlc]; exact ownsRow_base hL3 (Nat.zero_le _), fun b e f => ?_, fun e => ?_, fun e => ?_⟩, fun b hb => ?_, ?_⟩
  · have := (hIb b e).2; have := hLb b f; omega
  · have := (hIb Rb e).1; omega
  · have := hLb Rb e; omega
  · rcases hb with e | e
    · exact (hIb b e).1
    · have := hLb b e; omega
  · exact (HWC.out.thenBelow B2.out).setCell (X := fun b => b = Rb) (.inl rfl) _
set_option maxRecDepth 100000 in
theorem dremove_no (x : Int) (hx : x ∉ jIds js) (hl : js.length ≤ 1000) (h : DS w Rb vI vL k sp js) :
    Calls Tryd.prog 21 #[.pointer (some ⟨Rb, 0, none⟩), .int .i64 x] w fun e w' => e = .returned (.bool false) ∧ w = w' := by
  have FD := Lib.hid (dfind_any x hl h)
  rw [show fz js x = -1 from if_neg hx] at FD
  clear h hx
  go_enter Tryd.func21, Tryd.ntmps21
  go_wp2_with (go_at_call 40; (with_reducible refine FD.out.mono ?_); rintro e w1 ⟨rfl, rfl⟩)
  go_ret
  exact ⟨rfl, rfl⟩
theorem dremove_any (x : Int) (hd : (jIds js).Nodup) (hl : js.length ≤ 1000) (h : DS w Rb vI vL k sp js) :
    Calls Tryd.prog 21 #[.pointer (some ⟨Rb, 0, none⟩), .int .i64 x] w fun e w' => ∃ vI' vL', e = .returned (.bool (decide (x ∈ jIds js))) ∧ DS w' Rb vI' vL' k sp (js.filter fun p => decide (p.1 ≠ x)) ∧ (∀ b, DX Rb vI' vL' b → DX Rb vI vL b ∨ w.heap.size ≤ b) ∧ Chg (fun b => b = Rb) w w' := by
  by_cases hx : x ∈ jIds js
  · rw [decide_eq_true hx]
    refine (dremove_yes x hx hd hl h).mono ?_
    rintro e w' ⟨vI', vL', e1, e2, e3, e4⟩
    refine ⟨vI', vL', e1, e2, fun b hb => ?_, e4⟩
    rcases hb with e | e | e
    · exact .inl (.inl e)
    · exact .inr (e3 b (.inl e))
    · exact .inr (e3 b (.inr e))
  · rw [decide_eq_false hx]
    refine (dremove_no x hx hl h).mono ?_
    rintro e w' ⟨e1, rfl⟩
    exact ⟨vI, vL, e1, by rw [cut_none hx]; exact h, fun b hb => .inl hb, Chg.refl _ _⟩
end
end Go.Proofs.YtolhmibejhldkaaDoor

namespace Go.Proofs.YtolhmibejhldkaaDoor
open Go.RowKit Go.Proofs
section
variable {w w' w0 : World} {Rb : Nat} {vI vL : Value} {k sp : Int} {js : List (Int × Nat)}
theorem DS.rows {n : Nat} (h : DS w Rb vI vL k sp js) (hn : n = js.length) (h1 : 1 ≤ js.length) : ∃ gI cI gL cL, vI = .slice (some ⟨gI, 0, none⟩) n cI ∧ vL = .slice (some ⟨gL, 0, none⟩) n cL ∧ gI ≠ Rb ∧ gL ≠ Rb ∧ gI ≠ gL ∧ gI < w.heap.size ∧ gL < w.heap.size := by
  subst hn
  obtain ⟨gI, cI, rfl⟩ : ∃ g c, vI = .slice (some ⟨g, 0, none⟩) js.length c := by
    rcases h.i.2 with ⟨-, e⟩ | ⟨g, cap, cur, e, -⟩
    · omega
    · exact ⟨g, cap, e⟩
  obtain ⟨gL, cL, rfl⟩ : ∃ g c, vL = .slice (some ⟨g, 0, none⟩) js.length c := by
    rcases h.l.2 with ⟨-, e⟩ | ⟨g, cap, cur, e, -⟩
    · omega
    · exact ⟨g, cap, e⟩
  exact ⟨gI, cI, gL, cL, rfl, rfl, fun e => h.z.1 (by rw [← e]; rfl), fun e => h.z.2 (by rw [← e]; rfl), fun e => h.n gI rfl (by rw [e]; rfl), (h.i.lt gI rfl).2, (h.l.lt gL rfl).2⟩
theorem DS.cell {gI cI gL cL n : Nat} (h : DS w Rb (.slice (some ⟨gI, 0, none⟩) n cI) (.slice (some ⟨gL, 0, none⟩) n cL) k sp js) (hn : n = js.length) {i : Nat} {p : Int × Nat} (hp : js[i]? = some p) : w.cell? ⟨gI, i, none⟩ = some (.int .i64 p.1) ∧ w.cell? ⟨gL, i, none⟩ = some (.int .i64 (p.2 : Int)) := by
  subst hn
  refine ⟨row_cells h.i i _ ?_, row_cells h.l i _ ?_⟩
  · rw [List.getElem?_map]; unfold jIds; rw [List.getElem?_map, hp]; rfl
  · rw [List.getElem?_map]; unfold jLens; rw [List.getElem?_map, hp]; rfl
theorem DS.frozen {gI cI gL cL n : Nat} (h : DS w Rb (.slice (some ⟨gI, 0, none⟩) n cI) (.slice (some ⟨gL, 0, none⟩) n cL) k sp js) (j : Nat) : w.frozen? ⟨gL, j, none⟩ = false := by
  rcases h.l.2 with ⟨e, -⟩ | ⟨g, cap, cur, e, -, hg, -⟩
  · cases e
  · cases e
    exact Blk.frozen (show Blk w gL _ cur from hg) j
theorem DS.sub {gI cI gL cL n0 : Nat} (h : DS w Rb (.slice (some ⟨gI, 0, none⟩) n0 cI) (.slice (some ⟨gL, 0, none⟩) n0 cL) k sp js) (hn0 : n0 = js.length) (hd : (jIds js).Nodup) {x : Int} (hx : x ∈ jIds js) {n : Nat} (hn : n ≤ jGet js x) :
    DS (w.setCell ⟨gL, fnd js x, none⟩ (.int .i64 ((jGet js x : Int) - (n : Int)))) Rb (.slice (some ⟨gI, 0, none⟩) n0 cI) (.slice (some ⟨gL, 0, none⟩) n0 cL) k sp (jSub js x n) := by
  subst hn0
  have hc : Chg (fun b => b = gL) w (w.setCell ⟨gL, fnd js x, none⟩ (.int .i64 ((jGet js x : Int) - (n : Int)))) := (Chg.refl _ _).set1 _ _
  have hl : (jSub js x n).length = js.length := by simp [jSub]
  have hL := ownsRow_set h.l (fnd_lt hx) (.int .i64 ((jGet js x : Int) - (n : Int)))
  refine ⟨h.b.chg hc (fun e => h.z.2 (by rw [e]; rfl)), ?_, ?_, h.n, h.z⟩
  · rw [hl, sub_ids]
    exact ownsRow_other h.i hc (fun b e f => h.n b e (by rw [f]; rfl))
  · rw [hl, sub_lens n hd hx hn]
    rw [List.map_set]
    exact hL
theorem DS.spent {sp' : Int} (h : DS w Rb vI vL k sp js) : DS (w.setCell ⟨Rb, 1, none⟩ (.int .i64 sp')) Rb vI vL k sp' js := by
  have hc : Chg (fun b => b = Rb) w (w.setCell ⟨Rb, 1, none⟩ (.int .i64 sp')) := (Chg.refl _ _).set1 _ _
  exact ⟨h.b.set 1 _, ownsRow_other h.i hc (fun b e f => h.z.1 (by rw [← f]; exact e)), ownsRow_other h.l hc (fun b e f => h.z.2 (by rw [← f]; exact e)), h.n, h.z⟩
structure DL (w0 w : World) (Rb : Nat) (v0 u0 vI vL vE : Value) (k sp : Int) (js : List (Int × Nat)) (E : List Int) : Prop where
  d : DS w Rb vI vL k sp js
  e : w.ownsRow w0.heap.size 3 1 vE E.length (E.map (Value.int .i64))
  n : ∀ b, vE.ownBlock = some b → ¬ DX Rb vI vL b
  c : Chg (fun b => DX Rb v0 u0 b) w0 w
  x : ∀ b, DX Rb vI vL b → DX Rb v0 u0 b ∨ w0.heap.size ≤ b
  l : ∀ b, DX Rb v0 u0 b → b < w0.heap.size
variable {v0 u0 vE : Value} {E : List Int}
theorem DL.later (h : DL w0 w Rb v0 u0 vI vL vE k sp js E) (hb : Below w.heap.size w w') : DL w0 w' Rb v0 u0 vI vL vE k sp js E :=
  ⟨h.d.later hb, ownsRow_own h.e hb, h.n, h.c.thenBelow hb, h.x, h.l⟩
theorem DL.doc {X : Nat → Prop} {vI' vL' : Value} {sp' : Int} {js' : List (Int × Nat)} (h : DL w0 w Rb v0 u0 vI vL vE k sp js E) (hd : DS w' Rb vI' vL' k sp' js') (hc : Chg X w w') (hX : ∀ b, X b → DX Rb vI vL b) (hx : ∀ b, DX Rb vI' vL' b → DX Rb vI vL b ∨ w.heap.size ≤ b) :
    DL w0 w' Rb v0 u0 vI' vL' vE k sp' js' E := by
  have hz := h.c.size
  refine ⟨hd, ownsRow_other h.e hc (fun b e f => h.n b e (hX b f)), fun b e f => ?_, h.c.trans' hc (fun b hb e => ?_), fun b hb => ?_, h.l⟩
  · rcases hx b f with f | f
    · exact h.n b e f
    · have := (h.e.lt b e).2; omega
  · rcases h.x b (hX b e) with f | f
    · exact f
    · omega
  · rcases hx b hb with e | e
    · exact h.x b e
    · exact .inr (by omega)
theorem DL.ended {x : Int} {vE' : Value} {o : Obj} {n : Nat} (hn : n = E.length) (h : DL w0 w Rb v0 u0 vI vL vE k sp js E) (he : w'.ownsRow w0.heap.size 3 1 vE' (n + 1) (E.map (Value.int .i64) ++ [.int .i64 x])) (hg : (w.alloc o).grownBy w' vE.ownBlock) (hf : vE'.ownBlock = vE.ownBlock ∨ vE'.ownBlock = some (w.alloc o).heap.size) :
    DL w0 w' Rb v0 u0 vI vL vE' k sp js (E ++ [x]) := by
  subst hn
  have hrow : ∀ b, vE.ownBlock = some b → w0.heap.size ≤ b := fun b e => (h.e.lt b e).1
  have hlt := h.d.lt
  refine ⟨(h.d.later ((Below.refl _ _).alloc (Nat.le_refl _) o)).chg (chg_of_grown hg) (fun b hb e => h.n b e.symm hb), by simpa using he, fun b e f => ?_, (h.c.thenBelow ((Below.refl _ _).alloc (Nat.le_refl _) o)).trans' (chg_of_grown hg) (fun b hb e => ?_), h.x, h.l⟩
  · rcases hf with hf | hf
    · exact h.n b (hf.symm.trans e) f
    · have h1 := Option.some.inj (hf.symm.trans e)
      have h2 := hlt b f
      rw [World.size_alloc] at h1
      omega
  · have := hrow b e.symm; omega
structure DC (w0 w : World) (Rb : Nat) (v0 u0 vI vL vE : Value) (k sp : Int) (js : List (Int × Nat)) (E : List Int) (vC : Value) (J : List (Int × Nat)) : Prop where
  l : DL w0 w Rb v0 u0 vI vL vE k sp js E
  r : ReadsInts w vC (jIds J)
  n : ∀ b, vC.ownBlock = some b → ¬ DX Rb vI vL b ∧ vE.ownBlock ≠ some b ∧ b < w.heap.size
variable {vC : Value} {J : List (Int × Nat)}
theorem DC.later (h : DC w0 w Rb v0 u0 vI vL vE k sp js E vC J) (hb : Below w.heap.size w w') : DC w0 w' Rb v0 u0 vI vL vE k sp js E vC J :=
  ⟨h.l.later hb, h.r.later hb, fun b e => ⟨(h.n b e).1, (h.n b e).2.1, by have := (h.n b e).2.2; have := hb.size; omega⟩⟩
theorem DC.ended {x : Int} {vE' : Value} {o : Obj} {n : Nat} (h : DC w0 w Rb v0 u0 vI vL vE k sp js E vC J) (hn : n = E.length) (he : w'.ownsRow w0.heap.size 3 1 vE' (n + 1) (E.map (Value.int .i64) ++ [.int .i64 x])) (hg : (w.alloc o).grownBy w' vE.ownBlock) (hf : vE'.ownBlock = vE.ownBlock ∨ vE'.ownBlock = some (w.alloc o).heap.size) :
    DC w0 w' Rb v0 u0 vI vL vE' k sp js (E ++ [x]) vC J := by
  subst hn
  have hz := hg.size
  rw [World.size_alloc] at hz
  refine ⟨DL.ended rfl h.l he hg hf, readsInts_grown (h.r.later ((Below.refl _ _).alloc (Nat.le_refl _) o)) hg (fun b e => (h.n b e).2.1), fun b e => ?_⟩
  obtain ⟨n1, n2, n3⟩ := h.n b e
  refine ⟨n1, fun e2 => ?_, by omega⟩
  rcases hf with hf | hf
  · exact n2 (hf.symm.trans e2)
  · have h1 := Option.some.inj (hf.symm.trans e2)
    rw [World.size_alloc] at h1
    omega
theorem DC.removed {vI' vL' : Value} {js' : List (Int × Nat)} (h : DC w0 w Rb v0 u0 vI vL vE k sp js E vC J) (hd : DS w' Rb vI' vL' k sp js') (hc : Chg (fun b => b = Rb) w w') (hx : ∀ b, DX Rb vI' vL' b → DX Rb vI vL b ∨ w.heap.size ≤ b) :
    DC w0 w' Rb v0 u0 vI' vL' vE k sp js' E vC J := by
  have hz := hc.size
  refine ⟨h.l.doc hd hc (fun b e => .inl e) hx, readsInts_chg h.r hc (fun b e f => (h.n b e).1 (.inl f)), fun b e => ?_⟩
  obtain ⟨n1, n2, n3⟩ := h.n b e
  refine ⟨fun f => ?_, n2, by omega⟩
  rcases hx b f with f | f
  · exact n1 f
  · omega
end
end Go.Proofs.YtolhmibejhldkaaDoor

namespace Go.Proofs.YtolhmibejhldkaaDoor
open Go.RowKit Go.Proofs
section
variable {w w' w0 : World} {Rb : Nat} {vI vL : Value} {sp : Int} {js : List (Int × Nat)}
theorem all_news {base n g cap : Nat} {xs : List Int} (h : w.ownsRow base 3 1 (.slice (some ⟨g, 0, none⟩) n cap) n (xs.map (Value.int .i64))) (hb : Below w.heap.size w w') : ∀ j u, (xs.map (Value.int .i64))[j]? = some u → w'.cell? ((⟨g, 0, none⟩ : Addr).add j) = some u := fun j u hj => by
  rw [add0]
  have hc := row_cells h j u hj
  exact (hb.cell (World.block_lt_of_cell? _ _ hc)).trans hc
theorem mid64 {k : Nat} {js : List (Int × Nat)} {own : Int} (h : ∀ p ∈ js, p.2 ≤ 64) : ∀ p ∈ sMid k js own, p.2 ≤ 64 := fun p hp => by
  obtain ⟨q, hq, rfl⟩ := List.mem_map.1 (show p ∈ js.map (fun p => if p.1 = own then (p.1, p.2 - sOwn k js own) else p) from hp)
  have := h q hq
  split
  · show q.2 - _ ≤ 64; omega
  · exact this
set_option maxRecDepth 100000 in
set_option maxHeartbeats 8000000 in
theorem dserve_no (k : Nat) (hk : 1 ≤ k ∧ k ≤ 64) (own : Int) (hx : own ∉ jIds js) (hd : (jIds js).Nodup) (hl : js.length ≤ 40) (h64 : ∀ p ∈ js, p.2 ≤ 64) (hsp : 0 ≤ sp ∧ sp ≤ 700000) (h : DS w Rb vI vL (k : Int) sp js) :
    Calls Tryd.prog 23 #[.pointer (some ⟨Rb, 0, none⟩), .int .i64 own] w fun e w' => ∃ v vI' vL', e = .returned v ∧ w'.ownsRow w.heap.size 3 1 v (sEnd k js own).length ((sEnd k js own).map (Value.int .i64)) ∧ DS w' Rb vI' vL' (k : Int) (sp + (sSpent k js own : Nat)) (sJobs k js own) ∧ (∀ b, DX Rb vI' vL' b → DX Rb vI vL b ∨ w.heap.size ≤ b) ∧ Chg (fun b => DX Rb vI vL b) w w' := by
  obtain ⟨i0, hi0, hz0, hz1, hz2⟩ := info_parts info3q
  have HD := Lib.hid hd
  have HL := Lib.hid h.lt
  have H0 := Lib.hid h
  have hO0 : sOwn k js own = 0 := by unfold sOwn; rw [get_none js own hx]; exact Nat.zero_min _
  have hM0 : sMid k js own = js := by unfold sMid; rw [hO0]; exact sub_zero js own
  have hO8 : sOwn k js own ≤ 512 := by omega
  have HO0 := Lib.hid hO0
  have HM0 := Lib.hid hM0
  have FD := Lib.hid (fun (W : World) (hs : DS W Rb vI vL (k : Int) sp js) => dfind_any own (by omega) hs)
  rw [show fz js own = -1 from if_neg hx] at FD
  have S1 := Lib.hid (h.later ((Below.refl w.heap.size w).alloc (Nat.le_refl _) (.cells #[] 3)))
  obtain ⟨c0, c1, c2, c3, hz, -⟩ := h.cells
  clear h hx hd hO0 hM0
  go_enter Tryd.func23, Tryd.ntmps23
  go_wp2_with (go_at_call 40; (with_reducible refine (FD.out _ S1.out).mono ?_); rintro e w1 ⟨rfl, rfl⟩)
  have SA := Lib.hid (show DL w (w.alloc (.cells #[] 3)) Rb vI vL vI vL (.slice (some ⟨w.heap.size, 0, none⟩) 0 0) (k : Int) (sp + (sOwn k js own : Nat)) (sMid k js own) [] from
    ⟨by rw [HM0.out, HO0.out]; simpa using S1.out, ownsRow_empty (Blk.new w _ _), fun b e f => by have h1 := HL.out b f; have h2 : w.heap.size = b := Option.some.inj e; omega, Chg.of_below ((Below.refl _ _).alloc (Nat.le_refl _) _), fun b e => .inl e, HL.out⟩)
  have hnd0 : (jIds (sMid k js own)).Nodup := by rw [mid_ids]; exact HD.out
  have h640 : ∀ p ∈ sMid k js own, p.2 ≤ 64 := mid64 h64
  have HND0 := Lib.hid hnd0
  have H640 := Lib.hid h640
  have hml : (sMid k js own).length = js.length := by have := congrArg List.length (mid_ids k js own); rw [ids_len, ids_len] at this; exact this
  obtain ⟨T, hT⟩ : ∃ T, T = oth k (sMid k js own) := ⟨_, rfl⟩
  have HT := Lib.hid hT
  obtain ⟨spO, hspO⟩ : ∃ spO : Int, spO = sp + (sOwn k js own : Nat) := ⟨_, rfl⟩
  rw [← hspO] at SA
  have hspb : 0 ≤ spO ∧ spO ≤ 701000 := by omega
  have HSPO := Lib.hid hspO
  have HML := Lib.hid hml
  clear hnd0 h640 hT hspO hml
  go_loopg [8, 5] (k + js.length) (fun gk v8 v5 wr => ∃ (c1 : Nat) (j1 : List (Int × Nat)) (E : List Int) (t : Nat) (vI' vL' : Value), c1 + j1.length = gk ∧ v8 = .int .i64 (c1 : Int) ∧ t + c1 ≤ k ∧ E.length + j1.length ≤ js.length ∧ T = ((oth c1 j1).1, E ++ (oth c1 j1).2.1, t + (oth c1 j1).2.2) ∧ DL w wr Rb vI vL vI' vL' v5 (k : Int) (spO + (t : Int)) j1 E ∧ (jIds j1).Nodup ∧ ∀ p ∈ j1, p.2 ≤ 64)
  case atStart => exact ⟨k, sMid k js own, [], 0, vI, vL, by rw [HML.out], rfl, by omega, by rw [HML.out]; simp, by rw [HT.out]; simp, by simpa using SA.out, HND0.out, H640.out⟩
  case round =>
    clear SA HML H640 HND0
    obtain ⟨c1, j1, E, t, vI', vL', hg, rfl, ht, hE, hT1, hL, hnd, h641⟩ := hrel
    have L := Lib.hid hL
    have T1 := Lib.hid hT1
    have ND := Lib.hid hnd
    have H64 := Lib.hid h641
    obtain ⟨c0, c1c, c2, c3, hzR, hfR⟩ := hL.d.cells
    have fR1 := hfR 1
    obtain ⟨nE, hnE⟩ : ∃ nE, nE = E.length := ⟨_, rfl⟩
    have hre := hL.e
    rw [← hnE] at hre hE
    obtain ⟨aE, capE, rfl⟩ := ownsRow_slice hre
    have HNE := Lib.hid hnE
    have RE := Lib.hid hre
    have zw := hL.c.size
    clear hL hT1 hnd h641 hre hnE hfR
    by_cases hc1 : c1 = 0
    · subst hc1
      have HJ := Lib.hid (show oth k (sMid k js own) = (j1, E, t) from by rw [← HT.out, T1.out, oth_zero]; simp)
      have hcz : ((0 : Nat) : Int) = 0 := rfl
      clear hg T1
      obtain ⟨m, hm⟩ : ∃ m, m = j1.length := ⟨_, rfl⟩
      have hmE : nE + m ≤ js.length := by rw [hm]; exact hE
      have HM := Lib.hid hm
      skip
      rcases L.out.d.i.2 with ⟨hvI, hn0⟩ | ⟨gI, cI, curI, hvI, -⟩
      · obtain rfl : m = 0 := by rw [hm]; exact hn0
        subst hvI
        clear hm hn0 hE
        have h00 : ((0 : Nat) : Int) = 0 := rfl
        have hown6 := ownsRow_empty (Blk.new wr 3 #[])
        have B6 := Lib.hid ((Below.refl wr.heap.size wr).alloc (Nat.le_refl _) (.cells #[] 3))
        obtain ⟨aC, haC⟩ : ∃ aC, aC = some (⟨wr.heap.size, 0, none⟩ : Addr) := ⟨_, rfl⟩
        obtain ⟨capC, hcapC⟩ : ∃ c, c = 0 := ⟨_, rfl⟩
        rw [← haC] at hown6
        have hown6 : (wr.alloc (.cells #[] 3)).ownsRow wr.heap.size 3 1 (.slice aC 0 capC) 0 ((jIds j1).map (Value.int .i64)) := by
          rw [hcapC, List.eq_nil_of_length_eq_zero (HM.out.symm)]
          exact hown6
        have DC0 := Lib.hid (show DC w (wr.alloc (.cells #[] 3)) Rb vI vL _ _ (.slice aE nE capE) (k : Int) (spO + (t : Int)) j1 E (.slice aC _ capC) j1 from ⟨L.out.later B6.out, readsInts_own hown6, fun b e => ⟨fun f => by have h1 := L.out.d.lt b f; have h2 := (hown6.lt b e).1; omega, fun f => by have h1 := (L.out.e.lt b f).2; have h2 := (hown6.lt b e).1; omega, (hown6.lt b e).2⟩⟩)
        subst haC hcapC
        clear hown6
        go_wp2_with (at_builtin; refine wpList_append_own_none rfl _ _ 37 rfl wr.heap.size 3 i0 1 Tryd.underlying37 hi0 (.slice (some ⟨wr.heap.size, 0, none⟩) 0 0) 0 [] rfl (ownsRow_empty (Blk.new wr _ _)) rfl ?_)
        refine wp_loop_rounds 1 ?_
        rw [rounds_succ]
        go_wp2
        go_ret
        have hj0 : j1 = [] := List.eq_nil_of_length_eq_zero (by have := HM.out; omega)
        have hE1 : sEnd k js own = E := by unfold sEnd; rw [HJ.out, hj0]; simp [jIds]
        have hJ1 : sJobs k js own = j1 := by unfold sJobs; rw [HJ.out, hj0]; rfl
        have hs1 : sp + ((sSpent k js own : Nat) : Int) = spO + (t : Int) := by unfold sSpent; rw [HJ.out, HSPO.out]; show sp + ((sOwn k js own + t : Nat) : Int) = _; omega
        have h1 := DC0.out
        refine ⟨_, _, _, rfl, ?_, by rw [hs1, hJ1]; exact h1.l.d, h1.l.x, h1.l.c⟩
        rw [hE1]
        exact h1.l.e
      · rw [← hm] at hvI
        subst hvI
        have RI := L.out.d.i
        rw [← hm] at RI
        have RI := Lib.hid RI
        clear hm hE
        go_wp2_with (at_builtin; (refine wpList_append_own _ rfl _ _ 37 rfl wr.heap.size 3 i0 (.int .i64 0) 1 8 Tryd.underlying37 hi0 hz0 hz1 hz2 rfl (by decide) (.slice (some ⟨wr.heap.size, 0, none⟩) 0 0) 0 [] rfl (ownsRow_empty (Blk.new wr _ _)) ⟨gI, 0, none⟩ m cI ((jIds j1).map (Value.int .i64)) rfl (by rw [List.length_map, ids_len, ← HM.out, Nat.mul_one]) (all_news RI.out ((Below.refl _ _).alloc (Nat.le_refl _) _)) (one_ints _) (by unfold maxLen; omega) (by omega) (by simp) ?_; intro v6 w6 hown6 hgrow6 _; have B6 := Lib.hid (show Below wr.heap.size wr w6 from Below.grown ((Below.refl _ _).alloc (Nat.le_refl _) _) hgrow6 (by simp) (fun k e => by simp [Value.ownBlock] at e; omega)); simp only [Nat.zero_add, List.nil_append] at hown6; obtain ⟨aC, capC, rfl⟩ := ownsRow_slice hown6; have DC0 := Lib.hid (show DC w w6 Rb vI vL _ _ (.slice aE nE capE) (k : Int) (spO + (t : Int)) j1 E (.slice aC _ capC) j1 from ⟨L.out.later B6.out, readsInts_own hown6, fun b e => ⟨fun f => by have h1 := L.out.d.lt b f; have h2 := (hown6.lt b e).1; omega, fun f => by have h1 := (L.out.e.lt b f).2; have h2 := (hown6.lt b e).1; omega, (hown6.lt b e).2⟩⟩); clear hown6 hgrow6))
        obtain ⟨j1', hj1'⟩ : ∃ q, q = j1 := ⟨_, rfl⟩
        subst hj1'
        go_loopg [110, 5] m (fun gk v110 v5 wr => ∃ (i : Nat) (vI2 vL2 : Value), i + gk = m ∧ v110 = .int .i64 (i : Int) ∧ DC w wr Rb vI vL vI2 vL2 v5 (k : Int) (spO + (t : Int)) (lpJ j1' i) (E ++ lpE j1' i) (.slice aC m capC) j1')
        case atStart => exact ⟨0, _, _, by omega, rfl, by rw [(lp_zero j1').1, (lp_zero j1').2, List.append_nil]; exact DC0.out⟩
        case round =>
          clear DC0 c0 c1c c2 c3 hzR fR1
          obtain ⟨i, vI2, vL2, hi, rfl, hD⟩ := hrel
          have D := Lib.hid hD
          obtain ⟨nE2, hnE2⟩ : ∃ n, n = (E ++ lpE j1' i).length := ⟨_, rfl⟩
          have hre2 := hD.l.e
          rw [← hnE2] at hre2
          obtain ⟨aE2, capE2, rfl⟩ := ownsRow_slice hre2
          have RE2 := Lib.hid hre2
          have hnE8 : nE2 ≤ 80 := by
            have h1 := lpE_len j1' i
            have h2 := HM.out
            rw [hnE2, List.length_append, ← HNE.out]
            omega
          have HNE2 := Lib.hid hnE2
          have zw2 := hD.l.c.size
          obtain ⟨c0, c1c, c2, c3, hzR, -⟩ := hD.l.d.cells
          clear hre2 hnE2
          by_cases hlt : i < m
          · have hltI : (i : Int) < (m : Int) := by omega
            have hjlen : i < j1'.length := by rw [← HM.out]; exact hlt
            obtain ⟨a2, cap2, hv2, hcs⟩ := hD.r.cellsOf
            obtain ⟨rb, ro, hae, hcj⟩ := hcs i (by rw [ids_len]; exact hjlen)
            have hv3 := (Value.slice.inj hv2).1
            rw [hae] at hv3
            subst hv3
            have hc0 := hcj wr (Below.refl _ _)
            obtain ⟨p, hp⟩ : ∃ p, j1'[i]? = some p := ⟨j1'[i], List.getElem?_eq_getElem hjlen⟩
            have hpx : (jIds j1')[i]'(by rw [ids_len]; exact hjlen) = p.1 := by
              have h2 : j1'[i] = p := by rw [List.getElem?_eq_getElem hjlen] at hp; exact Option.some.inj hp
              simp [jIds, h2]
            rw [hpx] at hc0
            have hmem : p ∈ lpJ j1' i := lp_at hp
            have hndp := lp_nodup ND.out i
            have hget := get_of_mem hndp hmem
            have hxm := mem_ids hmem
            have HP := Lib.hid hp
            obtain ⟨x, l⟩ := p
            simp only at hc0 hget hxm
            have hlen40 : (lpJ j1' i).length ≤ 40 := by
              have h1 := (lp_sub j1' i).length_le
              have h2 := HM.out
              omega
            obtain ⟨n2, hn2⟩ : ∃ n, n = (lpJ j1' i).length := ⟨_, rfl⟩
            obtain ⟨gI2, cI2, gL2, cL2, rfl, rfl, nI2, nL2, nIL2, zI2, zL2⟩ := hD.l.d.rows hn2 (by
              rcases Nat.eq_zero_or_pos (lpJ j1' i).length with h0 | h0
              · rw [List.length_eq_zero_iff.1 h0] at hmem; cases hmem
              · exact h0)
            obtain ⟨f, hf⟩ : ∃ f, f = fnd (lpJ j1' i) x := ⟨_, rfl⟩
            have hfl : f < n2 := by rw [hf, hn2]; exact fnd_lt hxm
            have hfI : (f : Int) < (n2 : Int) := by omega
            have hn40 : n2 ≤ 40 := by rw [hn2]; exact hlen40
            have hfc := (hD.l.d.cell hn2 (i := f) (p := (x, l)) (by rw [hf]; rw [← hget]; exact fnd_get hxm)).2
            simp only at hfc
            have FD := Lib.hid (fun (W : World) (hb : Below wr.heap.size wr W) => dfind_any x (by omega) (hD.l.d.later hb))
            rw [show fz (lpJ j1' i) x = (f : Int) from by unfold fz; rw [if_pos hxm, hf]] at FD
            have HL40 := Lib.hid hlen40
            have HN2 := Lib.hid hn2
            have HND2 := Lib.hid hndp
            clear hD hcs hcj hv2 hae hp hpx hmem hget hxm hf hn2 hlen40 hndp
            go_wp2
            refine wp_region_seq (fun _ => False) #[⟨0, 0, 2^114, 1, 0⟩, ⟨1, 1, 2^115, 2^114, 0⟩, ⟨2, 3, 2^116, 2^115, 0⟩, ⟨4, 7, 2^117, 2^116, 1⟩, ⟨0, 0, 2^118, 1, 0⟩, ⟨0, 0, 2^119, 1024, 0⟩, ⟨48, 48, 2^120, (2^118+2^119), 2⟩, ⟨72, 127, 2^121, (2^117+2^120), 0⟩, ⟨128, 255, 2^122, 2^121, 1⟩, ⟨256, 511, 2^123, 2^122, 0⟩] 264 [(0, 0), (1, 0), (2, 0), (3, 1), (4, 0), (5, 0), (6, 2), (7, 0), (8, 1), (9, 0)] (by kernel_rfl) (by kernel_rfl) (by kernel_rfl) (by kernel_rfl) (by kernel_rfl) (by kernel_rfl) (fun c a d v w h => by cases d <;> exact h) ?_
            refine zqC ?_; refine zqC ?_; refine zqC ?_
            refine zq1 Tryd.underlying37 ?_
            try refine zqP ?_; refine zqC ?_; refine zqC ?_
            refine zqD fun K hK => ?_; go_wp2_with (go_at_call 40; (with_reducible refine (FD.out _ (Below.refl _ _).drew).mono ?_); rintro e w7 ⟨rfl, rfl⟩); refine hkA hK (h := ?_); clear hK K
            try refine zqP ?_; refine zqC ?_
            refine zq1 Tryd.underlying3 ?_
            try refine zqP ?_; refine zqC ?_
            refine seq_nil ?_
            by_cases hl0 : l = 0
            · subst hl0
              go_wp2_with (first
                | (at_builtin; (refine app_own2 rfl _ _ 37 rfl w.heap.size 3 i0 (.int .i64 0) 1 8 Tryd.underlying37 hi0 hz0 hz1 hz2 rfl (by decide) _ _ _ rfl ((ownsRow_own RE2.out (Below.refl _ _).drew).alloc _) ⟨wr.heap.size, 0, none⟩ 1 1 [.int .i64 x] rfl rfl (cell_one_new _ _ _) (by simp [Value.oneCell']) (by unfold maxLen; omega) (by omega) (by simp; omega) (by decide) ?_; intro v9 w9 hown9 hgrow9 hf9; have D9 := Lib.hid (DC.ended (D.out.later (Below.refl _ _).drew) HNE2.out hown9 hgrow9 hf9); obtain ⟨a9, cap9, rfl⟩ := ownsRow_succ hown9; clear hown9 hgrow9 hf9))
                | (go_at_call 21; ((with_reducible refine (dremove_any x HND2.out (by have := HL40.out; omega) D9.out.l.d).mono ?_); rintro e w10 ⟨vI3, vL3, rfl, hd3, hx3, hc3⟩; have D10 := Lib.hid (D9.out.removed hd3 hc3 hx3); clear hd3 hx3 hc3)))
              go_roundg (gk - 1)
              case measure => omega
              case rel =>
                obtain ⟨h1, h2⟩ := lp_no ND.out HP.out rfl
                refine ⟨i + 1, vI3, vL3, by omega, by go_num, ?_⟩
                rw [h1, h2, ← List.append_assoc]
                exact D10.out
            · have hl0I : ¬ (l : Int) = 0 := by omega
              go_wp2
              go_roundg (gk - 1)
              case measure => omega
              case rel =>
                obtain ⟨h1, h2⟩ := lp_yes HP.out (Nat.pos_of_ne_zero hl0)
                refine ⟨i + 1, .slice (some ⟨gI2, 0, none⟩) n2 cI2, .slice (some ⟨gL2, 0, none⟩) n2 cL2, by omega, by go_num, ?_⟩
                rw [h1, h2]
                exact D.out.later (Below.refl _ _).drew
          · obtain rfl : i = m := by omega
            clear hD
            go_wp2
            go_ret
            have hE1 : E ++ lpE j1' i = sEnd k js own := by rw [HM.out, (lp_end j1').2]; unfold sEnd; rw [HJ.out]
            have hJ1 : lpJ j1' i = sJobs k js own := by rw [HM.out, (lp_end j1').1]; unfold sJobs; rw [HJ.out]
            have hs1 : sp + ((sSpent k js own : Nat) : Int) = spO + (t : Int) := by unfold sSpent; rw [HJ.out, HSPO.out]; show sp + ((sOwn k js own + t : Nat) : Int) = _; omega
            have h1 := D.out
            rw [hE1, hJ1] at h1
            exact ⟨_, _, _, rfl, h1.l.e, by rw [hs1]; exact h1.l.d, h1.l.x, h1.l.c⟩
    · have hcI : (0 : Int) < (c1 : Int) := by omega
      by_cases hj1 : j1 = []
      · have HJ := Lib.hid (show oth k (sMid k js own) = (j1, E, t) from by rw [← HT.out, T1.out, hj1, oth_nil]; simp)
        have hjz : j1.length = 0 := by rw [hj1]; rfl
        clear hg T1 hj1
        obtain ⟨m, hm⟩ : ∃ m, m = j1.length := ⟨_, rfl⟩
        have hmE : nE + m ≤ js.length := by rw [hm]; exact hE
        have HM := Lib.hid hm
        have hmz : ¬ (0 : Int) < (m : Int) := by omega
        rcases L.out.d.i.2 with ⟨hvI, hn0⟩ | ⟨gI, cI, curI, hvI, -⟩
        · obtain rfl : m = 0 := by rw [hm]; exact hn0
          subst hvI
          clear hm hn0 hE
          have h00 : ((0 : Nat) : Int) = 0 := rfl
          have hown6 := ownsRow_empty (Blk.new wr 3 #[])
          have B6 := Lib.hid ((Below.refl wr.heap.size wr).alloc (Nat.le_refl _) (.cells #[] 3))
          obtain ⟨aC, haC⟩ : ∃ aC, aC = some (⟨wr.heap.size, 0, none⟩ : Addr) := ⟨_, rfl⟩
          obtain ⟨capC, hcapC⟩ : ∃ c, c = 0 := ⟨_, rfl⟩
          rw [← haC] at hown6
          have hown6 : (wr.alloc (.cells #[] 3)).ownsRow wr.heap.size 3 1 (.slice aC 0 capC) 0 ((jIds j1).map (Value.int .i64)) := by
            rw [hcapC, List.eq_nil_of_length_eq_zero (HM.out.symm)]
            exact hown6
          have DC0 := Lib.hid (show DC w (wr.alloc (.cells #[] 3)) Rb vI vL _ _ (.slice aE nE capE) (k : Int) (spO + (t : Int)) j1 E (.slice aC _ capC) j1 from ⟨L.out.later B6.out, readsInts_own hown6, fun b e => ⟨fun f => by have h1 := L.out.d.lt b f; have h2 := (hown6.lt b e).1; omega, fun f => by have h1 := (L.out.e.lt b f).2; have h2 := (hown6.lt b e).1; omega, (hown6.lt b e).2⟩⟩)
          subst haC hcapC
          clear hown6
          go_wp2_with (at_builtin; refine wpList_append_own_none rfl _ _ 37 rfl wr.heap.size 3 i0 1 Tryd.underlying37 hi0 (.slice (some ⟨wr.heap.size, 0, none⟩) 0 0) 0 [] rfl (ownsRow_empty (Blk.new wr _ _)) rfl ?_)
          refine wp_loop_rounds 1 ?_
          rw [rounds_succ]
          go_wp2
          go_ret
          have hj0 : j1 = [] := List.eq_nil_of_length_eq_zero (by have := HM.out; omega)
          have hE1 : sEnd k js own = E := by unfold sEnd; rw [HJ.out, hj0]; simp [jIds]
          have hJ1 : sJobs k js own = j1 := by unfold sJobs; rw [HJ.out, hj0]; rfl
          have hs1 : sp + ((sSpent k js own : Nat) : Int) = spO + (t : Int) := by unfold sSpent; rw [HJ.out, HSPO.out]; show sp + ((sOwn k js own + t : Nat) : Int) = _; omega
          have h1 := DC0.out
          refine ⟨_, _, _, rfl, ?_, by rw [hs1, hJ1]; exact h1.l.d, h1.l.x, h1.l.c⟩
          rw [hE1]
          exact h1.l.e
        · rw [← hm] at hvI
          subst hvI
          have RI := L.out.d.i
          rw [← hm] at RI
          have RI := Lib.hid RI
          clear hm hE
          go_wp2_with (at_builtin; (refine wpList_append_own _ rfl _ _ 37 rfl wr.heap.size 3 i0 (.int .i64 0) 1 8 Tryd.underlying37 hi0 hz0 hz1 hz2 rfl (by decide) (.slice (some ⟨wr.heap.size, 0, none⟩) 0 0) 0 [] rfl (ownsRow_empty (Blk.new wr _ _)) ⟨gI, 0, none⟩ m cI ((jIds j1).map (Value.int .i64)) rfl (by rw [List.length_map, ids_len, ← HM.out, Nat.mul_one]) (all_news RI.out ((Below.refl _ _).alloc (Nat.le_refl _) _)) (one_ints _) (by unfold maxLen; omega) (by omega) (by simp) ?_; intro v6 w6 hown6 hgrow6 _; have B6 := Lib.hid (show Below wr.heap.size wr w6 from Below.grown ((Below.refl _ _).alloc (Nat.le_refl _) _) hgrow6 (by simp) (fun k e => by simp [Value.ownBlock] at e; omega)); simp only [Nat.zero_add, List.nil_append] at hown6; obtain ⟨aC, capC, rfl⟩ := ownsRow_slice hown6; have DC0 := Lib.hid (show DC w w6 Rb vI vL _ _ (.slice aE nE capE) (k : Int) (spO + (t : Int)) j1 E (.slice aC _ capC) j1 from ⟨L.out.later B6.out, readsInts_own hown6, fun b e => ⟨fun f => by have h1 := L.out.d.lt b f; have h2 := (hown6.lt b e).1; omega, fun f => by have h1 := (L.out.e.lt b f).2; have h2 := (hown6.lt b e).1; omega, (hown6.lt b e).2⟩⟩); clear hown6 hgrow6))
          refine wp_loop_rounds 1 ?_
          rw [rounds_succ]
          go_wp2
          go_ret
          have hj0 : j1 = [] := List.eq_nil_of_length_eq_zero (by have := HM.out; omega)
          have hE1 : sEnd k js own = E := by unfold sEnd; rw [HJ.out, hj0]; simp [jIds]
          have hJ1 : sJobs k js own = j1 := by unfold sJobs; rw [HJ.out, hj0]; rfl
          have hs1 : sp + ((sSpent k js own : Nat) : Int) = spO + (t : Int) := by unfold sSpent; rw [HJ.out, HSPO.out]; show sp + ((sOwn k js own + t : Nat) : Int) = _; omega
          have h1 := DC0.out
          refine ⟨_, _, _, rfl, ?_, by rw [hs1, hJ1]; exact h1.l.d, h1.l.x, h1.l.c⟩
          rw [hE1]
          exact h1.l.e
      · obtain ⟨⟨x, l⟩, r, rfl⟩ := List.exists_cons_of_ne_nil hj1
        clear hj1
        obtain ⟨m, hm⟩ : ∃ m, m = ((x, l) :: r).length := ⟨_, rfl⟩
        obtain ⟨gI, cI, gL, cL, rfl, rfl, nI, nL, nIL, zI, zL⟩ := L.out.d.rows hm (by simp)
        have hp0 : ((x, l) :: r)[0]? = some (x, l) := rfl
        obtain ⟨i0c, l0c⟩ := L.out.d.cell hm hp0
        have fL0 := L.out.d.frozen 0
        have HM := Lib.hid hm
        have hm2 : m = r.length + 1 := by rw [hm]; simp
        have hlE : nE + m ≤ js.length := by rw [hm]; exact hE
        have hgk : c1 + m = gk := by rw [hm]; exact hg
        have hm1 : (0 : Int) < (m : Int) := by omega
        have HM2 := Lib.hid hm2
        clear hm hm2 hE hg hp0
        simp only at i0c l0c
        by_cases hl0 : l = 0
        · subst hl0
          have h00 : ((0 : Nat) : Int) = 0 := rfl
          rw [h00] at l0c
          clear h00
          go_wp2_with (first
            | (at_builtin; (refine app_own2 rfl _ _ 37 rfl w.heap.size 3 i0 (.int .i64 0) 1 8 Tryd.underlying37 hi0 hz0 hz1 hz2 rfl (by decide) _ _ _ rfl (RE.out.alloc _) ⟨wr.heap.size, 0, none⟩ 1 1 [.int .i64 x] rfl rfl (cell_one_new _ _ _) (by simp [Value.oneCell']) (by unfold maxLen; omega) (by omega) (by simp; omega) (by decide) ?_; intro v9 w9 hown9 hgrow9 hf9; have L9 := Lib.hid (DL.ended HNE.out L.out hown9 hgrow9 hf9); obtain ⟨a9, cap9, rfl⟩ := ownsRow_succ hown9; obtain ⟨q0, q1, q2, q3, qz, -⟩ := L9.out.d.cells; have q0c := (L9.out.d.cell HM.out (i := 0) (p := (x, 0)) rfl).1; clear hown9 hgrow9 hf9))
            | (go_at_call 21; ((with_reducible refine (dremove_any x ND.out (by rw [← HM.out]; omega) L9.out.d).mono ?_); rintro e w10 ⟨vI2, vL2, rfl, hd2, hx2, hc2⟩; have L10 := Lib.hid (L9.out.doc hd2 hc2 (fun b e => .inl e) hx2); clear hd2 hx2 hc2)))
          go_roundg (gk - 1)
          case measure => omega
          case rel =>
            have h10 := L10.out
            rw [cut_head ND.out] at h10
            refine ⟨c1, r, E ++ [x], t, _, _, by have := HM2.out; omega, rfl, ht, ?_, ?_, h10, (List.nodup_cons.1 ND.out).2, fun p hp => H64.out p (List.mem_cons_of_mem _ hp)⟩
            · rw [List.length_append, ← HNE.out]; have := HM2.out; simp; omega
            · rw [T1.out, oth_end c1 (by omega) x r]; simp
        · have hl64 : l ≤ 64 := H64.out (x, l) List.mem_cons_self
          have hlI : ¬ (l : Int) = 0 := by omega
          have hf0 : fnd ((x, l) :: r) x = 0 := by rw [fnd_cons, if_pos rfl]
          have hgx : jGet ((x, l) :: r) x = l := get_head x l r
          have SB := L.out.d.sub HM.out ND.out (x := x) List.mem_cons_self (n := 1) (by rw [hgx]; omega)
          obtain ⟨l', hl'⟩ : ∃ l', l = l' + 1 := ⟨l - 1, by omega⟩
          have hsub : jSub ((x, l) :: r) x 1 = (x, l') :: r := by rw [hl']; exact sub_head (by rw [← hl']; exact ND.out)
          rw [hf0, hgx, hsub, show ((1 : Nat) : Int) = 1 from rfl] at SB
          have SB := Lib.hid SB
          have HL' := Lib.hid hl'
          clear hf0 hgx hsub hl'
          go_wp2
          go_roundg (gk - 1)
          case measure => omega
          case rel =>
            have h12 : DL w _ Rb vI vL (.slice (some ⟨gI, 0, none⟩) m cI) (.slice (some ⟨gL, 0, none⟩) m cL) (.slice aE nE capE) (k : Int) (spO + (t : Int) + 1) ((x, l') :: r) E := L.out.doc (X := fun b => b = gL ∨ b = Rb) (SB.out.spent (sp' := spO + (t : Int) + 1)) (((Chg.refl _ _).setCell (.inl (.inl rfl)) _).setCell (.inl (.inr rfl)) _) (fun b e => by rcases e with e | e; exact .inr (.inr (by rw [e]; rfl)); exact .inl e) (fun b e => .inl e)
            refine ⟨c1 - 1, (x, l') :: r, E, t + 1, .slice (some ⟨gI, 0, none⟩) m cI, .slice (some ⟨gL, 0, none⟩) m cL, ?_, by go_num, by omega, ?_, ?_, ?_, ?_, ?_⟩
            · have := HM2.out; simp; omega
            · rw [← HNE.out]; have := HM2.out; simp; omega
            · obtain ⟨d, hd⟩ : ∃ d, c1 = d + 1 := ⟨c1 - 1, by omega⟩
              rw [T1.out, hd, HL'.out, oth_step, show d + 1 - 1 = d from rfl]
              exact Prod.ext rfl (Prod.ext rfl (show t + (_ + 1) = t + 1 + _ by omega))
            · rw [show spO + ((t + 1 : Nat) : Int) = spO + (t : Int) + 1 by omega]
              exact h12
            · exact ND.out
            · intro p hp
              rcases List.mem_cons.1 hp with rfl | hp
              · have := HL'.out; show l' ≤ 64; omega
              · exact H64.out p (List.mem_cons_of_mem _ hp)
set_option maxRecDepth 100000 in
set_option maxHeartbeats 8000000 in
theorem dserve_yes (k : Nat) (hk : 1 ≤ k ∧ k ≤ 64) (own : Int) (hx : own ∈ jIds js) (hd : (jIds js).Nodup) (hl : js.length ≤ 40) (h64 : ∀ p ∈ js, p.2 ≤ 64) (hsp : 0 ≤ sp ∧ sp ≤ 700000) (h : DS w Rb vI vL (k : Int) sp js) :
    Calls Tryd.prog 23 #[.pointer (some ⟨Rb, 0, none⟩), .int .i64 own] w fun e w' => ∃ v vI' vL', e = .returned v ∧ w'.ownsRow w.heap.size 3 1 v (sEnd k js own).length ((sEnd k js own).map (Value.int .i64)) ∧ DS w' Rb vI' vL' (k : Int) (sp + (sSpent k js own : Nat)) (sJobs k js own) ∧ (∀ b, DX Rb vI' vL' b → DX Rb vI vL b ∨ w.heap.size ≤ b) ∧ Chg (fun b => DX Rb vI vL b) w w' := by
  obtain ⟨i0, hi0, hz0, hz1, hz2⟩ := info_parts info3q
  have HD := Lib.hid hd
  have HL := Lib.hid h.lt
  obtain ⟨n0, hn0⟩ : ∃ n, n = js.length := ⟨_, rfl⟩
  obtain ⟨gI, cI, gL, cL, hvI, hvL, nI, nL, nIL, zI, zL⟩ := h.rows hn0 (by rcases Nat.eq_zero_or_pos js.length with h0 | h0; rw [List.length_eq_zero_iff.1 h0] at hx; cases hx; exact h0)
  have h0 := h
  rw [hvI, hvL] at h
  have HVI := Lib.hid hvI
  have HVL := Lib.hid hvL
  rw [hvI, hvL] at HL
  obtain ⟨f, hf⟩ : ∃ f, f = fnd js own := ⟨_, rfl⟩
  obtain ⟨l, hll⟩ : ∃ l, l = jGet js own := ⟨_, rfl⟩
  have hg := fnd_get hx
  rw [← hf, ← hll] at hg
  have hfl : f < n0 := by rw [hf, hn0]; exact fnd_lt hx
  have hfI : (f : Int) < (n0 : Int) := by omega
  have hl64 : l ≤ 64 := h64 _ (List.mem_of_getElem? hg)
  obtain ⟨O, hO⟩ : ∃ O, O = sOwn k js own := ⟨_, rfl⟩
  have hOm : O = min l (8 * k) := by rw [hO, hll]; rfl
  have hO8 : sOwn k js own ≤ 512 := by rw [← hO]; omega
  have hOl : O ≤ l := by omega
  have em : min (l : Int) (8 * (k : Int)) = (O : Int) := by omega
  have e8 : IntKind.i64.wrap (8 * (k : Int)) = 8 * (k : Int) := by rw [IntKind.wrap_i64]; omega
  have FD := Lib.hid (fun (W : World) (hs : DS W Rb (.slice (some ⟨gI, 0, none⟩) n0 cI) (.slice (some ⟨gL, 0, none⟩) n0 cL) (k : Int) sp js) => dfind_any own (by omega) hs)
  rw [show fz js own = (f : Int) from by unfold fz; rw [if_pos hx, hf]] at FD
  have S1 := h.later (((Below.refl w.heap.size w).alloc (Nat.le_refl _) (.cells #[] 3)))
  have hlc := (h.cell hn0 hg).2
  have hfr := h.frozen (gI := gI) (gL := gL) f
  have SB := (h.sub hn0 hd hx (n := O) (by rw [← hll]; exact hOl)).spent (sp' := sp + (O : Int))
  rw [← hf, ← hll] at SB
  have HM := Lib.hid (show jSub js own O = sMid k js own from by rw [hO]; rfl)
  rw [HM.out] at SB
  obtain ⟨c0, c1, c2, c3, hz, hfz⟩ := h.cells
  have fR1 := hfz 1
  have nR := nL.symm
  have S1 := Lib.hid S1
  have SB := Lib.hid SB
  have HO := Lib.hid hO
  simp only at hlc
  clear h h0 hx hd hg hf hll hO hOm hn0 hfz hvI hvL
  go_enter Tryd.func23, Tryd.ntmps23
  go_wp2_with (go_at_call 40; (with_reducible refine (FD.out _ S1.out).mono ?_); rintro e w1 ⟨rfl, rfl⟩)
  refine wp_region_seq (fun _ => False) #[⟨0, 0, 131072, 1, 0⟩, ⟨1, 1, 262144, 131072, 0⟩, ⟨2, 3, 524288, 262144, 0⟩, ⟨4, 7, 1048576, 524288, 1⟩, ⟨0, 0, 2097152, 64, 0⟩, ⟨24, 31, 4194304, 3145728, 0⟩, ⟨32, 63, 8388608, 4194304, 1⟩, ⟨0, 0, 16777216, 1, 0⟩, ⟨128, 128, 33554432, 16777216, 0⟩, ⟨256, 384, 67108864, 33554432, 0⟩, ⟨512, 896, 134217728, 67108864, 1⟩, ⟨1024, 1920, 268435456, 134217728, 0⟩, ⟨2112, 4095, 536870912, 276824064, 0⟩, ⟨8191, 8191, 128, 536870912, 0⟩] 1096 [(0, 0), (1, 0), (2, 0), (3, 1), (4, 0), (5, 0), (6, 1), (7, 0), (8, 0), (9, 0), (10, 1), (11, 0), (12, 0), (13, 0)] (by kernel_rfl) (by kernel_rfl) (by kernel_rfl) (by kernel_rfl) (by kernel_rfl) (by kernel_rfl) (fun c a d v w h => by cases d <;> exact h) ?_
  refine zqC ?_; refine zqC ?_; refine zqC ?_
  refine zq1 Tryd.underlying37 ?_
  try refine zqP ?_; refine zqC ?_; refine zqC ?_
  refine zq1 Tryd.underlying3 ?_
  try refine zqP ?_; refine zqC ?_; refine zqC ?_; refine zqC ?_
  refine zq1 Tryd.underlying3 ?_
  try refine zqP ?_; refine zqC ?_; refine zqC ?_; refine zqC ?_
  refine seq_nil ?_
  go_wp2
  have hw2 : ((w.setCell ⟨gL, f, none⟩ (.int .i64 ((l : Int) - (O : Int)))).setCell ⟨Rb, 1, none⟩ (.int .i64 (sp + (O : Int)))).heap.size = w.heap.size := by simp
  have SA := Lib.hid (show DL w (((w.setCell ⟨gL, f, none⟩ (.int .i64 ((l : Int) - (O : Int)))).setCell ⟨Rb, 1, none⟩ (.int .i64 (sp + (O : Int)))).alloc (.cells #[] 3)).drew Rb (.slice (some ⟨gI, 0, none⟩) n0 cI) (.slice (some ⟨gL, 0, none⟩) n0 cL) (.slice (some ⟨gI, 0, none⟩) n0 cI) (.slice (some ⟨gL, 0, none⟩) n0 cL) (.slice (some ⟨w.heap.size, 0, none⟩) 0 0) (k : Int) (sp + (sOwn k js own : Nat)) (sMid k js own) [] from by
    have hb := ((Below.refl _ ((w.setCell ⟨gL, f, none⟩ (.int .i64 ((l : Int) - (O : Int)))).setCell ⟨Rb, 1, none⟩ (.int .i64 (sp + (O : Int))))).alloc (Nat.le_refl _) (.cells #[] 3)).drew
    refine ⟨by rw [← HO.out]; exact SB.out.later hb, ?_, fun b e f => by have h1 := HL.out b f; have h2 : w.heap.size = b := Option.some.inj e; omega, ?_, fun b e => .inl e, HL.out⟩
    · have h1 := ownsRow_empty (Blk.new ((w.setCell ⟨gL, f, none⟩ (.int .i64 ((l : Int) - (O : Int)))).setCell ⟨Rb, 1, none⟩ (.int .i64 (sp + (O : Int)))) 3 #[])
      rw [hw2] at h1
      exact ownsRow_own h1 (Below.refl _ _).drew
    · exact Chg.thenBelow (Chg.setCell (Chg.setCell (Chg.refl _ _) (.inl (.inr (.inr rfl))) _) (.inl (.inl rfl)) _) hb)
  clear c0 c1 c2 c3 hlc hfr em e8 fR1
  rw [← HVI.out, ← HVL.out] at SA HL
  have hz : Rb < w.heap.size := HL.out Rb (.inl rfl)
  have hnd0 : (jIds (sMid k js own)).Nodup := by rw [mid_ids]; exact HD.out
  have h640 : ∀ p ∈ sMid k js own, p.2 ≤ 64 := mid64 h64
  have HND0 := Lib.hid hnd0
  have H640 := Lib.hid h640
  have hml : (sMid k js own).length = js.length := by have := congrArg List.length (mid_ids k js own); rw [ids_len, ids_len] at this; exact this
  obtain ⟨T, hT⟩ : ∃ T, T = oth k (sMid k js own) := ⟨_, rfl⟩
  have HT := Lib.hid hT
  obtain ⟨spO, hspO⟩ : ∃ spO : Int, spO = sp + (sOwn k js own : Nat) := ⟨_, rfl⟩
  rw [← hspO] at SA
  have hspb : 0 ≤ spO ∧ spO ≤ 701000 := by omega
  have HSPO := Lib.hid hspO
  have HML := Lib.hid hml
  clear hnd0 h640 hT hspO hml
  go_loopg [8, 5] (k + js.length) (fun gk v8 v5 wr => ∃ (c1 : Nat) (j1 : List (Int × Nat)) (E : List Int) (t : Nat) (vI' vL' : Value), c1 + j1.length = gk ∧ v8 = .int .i64 (c1 : Int) ∧ t + c1 ≤ k ∧ E.length + j1.length ≤ js.length ∧ T = ((oth c1 j1).1, E ++ (oth c1 j1).2.1, t + (oth c1 j1).2.2) ∧ DL w wr Rb vI vL vI' vL' v5 (k : Int) (spO + (t : Int)) j1 E ∧ (jIds j1).Nodup ∧ ∀ p ∈ j1, p.2 ≤ 64)
  case atStart => exact ⟨k, sMid k js own, [], 0, vI, vL, by rw [HML.out], rfl, by omega, by rw [HML.out]; simp, by rw [HT.out]; simp, by simpa using SA.out, HND0.out, H640.out⟩
  case round =>
    clear SA HML H640 HND0
    obtain ⟨c1, j1, E, t, vI', vL', hg, rfl, ht, hE, hT1, hL, hnd, h641⟩ := hrel
    have L := Lib.hid hL
    have T1 := Lib.hid hT1
    have ND := Lib.hid hnd
    have H64 := Lib.hid h641
    obtain ⟨c0, c1c, c2, c3, hzR, hfR⟩ := hL.d.cells
    have fR1 := hfR 1
    obtain ⟨nE, hnE⟩ : ∃ nE, nE = E.length := ⟨_, rfl⟩
    have hre := hL.e
    rw [← hnE] at hre hE
    obtain ⟨aE, capE, rfl⟩ := ownsRow_slice hre
    have HNE := Lib.hid hnE
    have RE := Lib.hid hre
    have zw := hL.c.size
    clear hL hT1 hnd h641 hre hnE hfR
    by_cases hc1 : c1 = 0
    · subst hc1
      have HJ := Lib.hid (show oth k (sMid k js own) = (j1, E, t) from by rw [← HT.out, T1.out, oth_zero]; simp)
      have hcz : ((0 : Nat) : Int) = 0 := rfl
      clear hg T1
      obtain ⟨m, hm⟩ : ∃ m, m = j1.length := ⟨_, rfl⟩
      have hmE : nE + m ≤ js.length := by rw [hm]; exact hE
      have HM := Lib.hid hm
      skip
      rcases L.out.d.i.2 with ⟨hvI, hn0⟩ | ⟨gI, cI, curI, hvI, -⟩
      · obtain rfl : m = 0 := by rw [hm]; exact hn0
        subst hvI
        clear hm hn0 hE
        have h00 : ((0 : Nat) : Int) = 0 := rfl
        have hown6 := ownsRow_empty (Blk.new wr 3 #[])
        have B6 := Lib.hid ((Below.refl wr.heap.size wr).alloc (Nat.le_refl _) (.cells #[] 3))
        obtain ⟨aC, haC⟩ : ∃ aC, aC = some (⟨wr.heap.size, 0, none⟩ : Addr) := ⟨_, rfl⟩
        obtain ⟨capC, hcapC⟩ : ∃ c, c = 0 := ⟨_, rfl⟩
        rw [← haC] at hown6
        have hown6 : (wr.alloc (.cells #[] 3)).ownsRow wr.heap.size 3 1 (.slice aC 0 capC) 0 ((jIds j1).map (Value.int .i64)) := by
          rw [hcapC, List.eq_nil_of_length_eq_zero (HM.out.symm)]
          exact hown6
        have DC0 := Lib.hid (show DC w (wr.alloc (.cells #[] 3)) Rb vI vL _ _ (.slice aE nE capE) (k : Int) (spO + (t : Int)) j1 E (.slice aC _ capC) j1 from ⟨L.out.later B6.out, readsInts_own hown6, fun b e => ⟨fun f => by have h1 := L.out.d.lt b f; have h2 := (hown6.lt b e).1; omega, fun f => by have h1 := (L.out.e.lt b f).2; have h2 := (hown6.lt b e).1; omega, (hown6.lt b e).2⟩⟩)
        subst haC hcapC
        clear hown6
        go_wp2_with (at_builtin; refine wpList_append_own_none rfl _ _ 37 rfl wr.heap.size 3 i0 1 Tryd.underlying37 hi0 (.slice (some ⟨wr.heap.size, 0, none⟩) 0 0) 0 [] rfl (ownsRow_empty (Blk.new wr _ _)) rfl ?_)
        refine wp_loop_rounds 1 ?_
        rw [rounds_succ]
        go_wp2
        go_ret
        have hj0 : j1 = [] := List.eq_nil_of_length_eq_zero (by have := HM.out; omega)
        have hE1 : sEnd k js own = E := by unfold sEnd; rw [HJ.out, hj0]; simp [jIds]
        have hJ1 : sJobs k js own = j1 := by unfold sJobs; rw [HJ.out, hj0]; rfl
        have hs1 : sp + ((sSpent k js own : Nat) : Int) = spO + (t : Int) := by unfold sSpent; rw [HJ.out, HSPO.out]; show sp + ((sOwn k js own + t : Nat) : Int) = _; omega
        have h1 := DC0.out
        refine ⟨_, _, _, rfl, ?_, by rw [hs1, hJ1]; exact h1.l.d, h1.l.x, h1.l.c⟩
        rw [hE1]
        exact h1.l.e
      · rw [← hm] at hvI
        subst hvI
        have RI := L.out.d.i
        rw [← hm] at RI
        have RI := Lib.hid RI
        clear hm hE
        go_wp2_with (at_builtin; (refine wpList_append_own _ rfl _ _ 37 rfl wr.heap.size 3 i0 (.int .i64 0) 1 8 Tryd.underlying37 hi0 hz0 hz1 hz2 rfl (by decide) (.slice (some ⟨wr.heap.size, 0, none⟩) 0 0) 0 [] rfl (ownsRow_empty (Blk.new wr _ _)) ⟨gI, 0, none⟩ m cI ((jIds j1).map (Value.int .i64)) rfl (by rw [List.length_map, ids_len, ← HM.out, Nat.mul_one]) (all_news RI.out ((Below.refl _ _).alloc (Nat.le_refl _) _)) (one_ints _) (by unfold maxLen; omega) (by omega) (by simp) ?_; intro v6 w6 hown6 hgrow6 _; have B6 := Lib.hid (show Below wr.heap.size wr w6 from Below.grown ((Below.refl _ _).alloc (Nat.le_refl _) _) hgrow6 (by simp) (fun k e => by simp [Value.ownBlock] at e; omega)); simp only [Nat.zero_add, List.nil_append] at hown6; obtain ⟨aC, capC, rfl⟩ := ownsRow_slice hown6; have DC0 := Lib.hid (show DC w w6 Rb vI vL _ _ (.slice aE nE capE) (k : Int) (spO + (t : Int)) j1 E (.slice aC _ capC) j1 from ⟨L.out.later B6.out, readsInts_own hown6, fun b e => ⟨fun f => by have h1 := L.out.d.lt b f; have h2 := (hown6.lt b e).1; omega, fun f => by have h1 := (L.out.e.lt b f).2; have h2 := (hown6.lt b e).1; omega, (hown6.lt b e).2⟩⟩); clear hown6 hgrow6))
        obtain ⟨j1', hj1'⟩ : ∃ q, q = j1 := ⟨_, rfl⟩
        subst hj1'
        go_loopg [110, 5] m (fun gk v110 v5 wr => ∃ (i : Nat) (vI2 vL2 : Value), i + gk = m ∧ v110 = .int .i64 (i : Int) ∧ DC w wr Rb vI vL vI2 vL2 v5 (k : Int) (spO + (t : Int)) (lpJ j1' i) (E ++ lpE j1' i) (.slice aC m capC) j1')
        case atStart => exact ⟨0, _, _, by omega, rfl, by rw [(lp_zero j1').1, (lp_zero j1').2, List.append_nil]; exact DC0.out⟩
        case round =>
          clear DC0 c0 c1c c2 c3 hzR fR1
          obtain ⟨i, vI2, vL2, hi, rfl, hD⟩ := hrel
          have D := Lib.hid hD
          obtain ⟨nE2, hnE2⟩ : ∃ n, n = (E ++ lpE j1' i).length := ⟨_, rfl⟩
          have hre2 := hD.l.e
          rw [← hnE2] at hre2
          obtain ⟨aE2, capE2, rfl⟩ := ownsRow_slice hre2
          have RE2 := Lib.hid hre2
          have hnE8 : nE2 ≤ 80 := by
            have h1 := lpE_len j1' i
            have h2 := HM.out
            rw [hnE2, List.length_append, ← HNE.out]
            omega
          have HNE2 := Lib.hid hnE2
          have zw2 := hD.l.c.size
          obtain ⟨c0, c1c, c2, c3, hzR, -⟩ := hD.l.d.cells
          clear hre2 hnE2
          by_cases hlt : i < m
          · have hltI : (i : Int) < (m : Int) := by omega
            have hjlen : i < j1'.length := by rw [← HM.out]; exact hlt
            obtain ⟨a2, cap2, hv2, hcs⟩ := hD.r.cellsOf
            obtain ⟨rb, ro, hae, hcj⟩ := hcs i (by rw [ids_len]; exact hjlen)
            have hv3 := (Value.slice.inj hv2).1
            rw [hae] at hv3
            subst hv3
            have hc0 := hcj wr (Below.refl _ _)
            obtain ⟨p, hp⟩ : ∃ p, j1'[i]? = some p := ⟨j1'[i], List.getElem?_eq_getElem hjlen⟩
            have hpx : (jIds j1')[i]'(by rw [ids_len]; exact hjlen) = p.1 := by
              have h2 : j1'[i] = p := by rw [List.getElem?_eq_getElem hjlen] at hp; exact Option.some.inj hp
              simp [jIds, h2]
            rw [hpx] at hc0
            have hmem : p ∈ lpJ j1' i := lp_at hp
            have hndp := lp_nodup ND.out i
            have hget := get_of_mem hndp hmem
            have hxm := mem_ids hmem
            have HP := Lib.hid hp
            obtain ⟨x, l⟩ := p
            simp only at hc0 hget hxm
            have hlen40 : (lpJ j1' i).length ≤ 40 := by
              have h1 := (lp_sub j1' i).length_le
              have h2 := HM.out
              omega
            obtain ⟨n2, hn2⟩ : ∃ n, n = (lpJ j1' i).length := ⟨_, rfl⟩
            obtain ⟨gI2, cI2, gL2, cL2, rfl, rfl, nI2, nL2, nIL2, zI2, zL2⟩ := hD.l.d.rows hn2 (by
              rcases Nat.eq_zero_or_pos (lpJ j1' i).length with h0 | h0
              · rw [List.length_eq_zero_iff.1 h0] at hmem; cases hmem
              · exact h0)
            obtain ⟨f, hf⟩ : ∃ f, f = fnd (lpJ j1' i) x := ⟨_, rfl⟩
            have hfl : f < n2 := by rw [hf, hn2]; exact fnd_lt hxm
            have hfI : (f : Int) < (n2 : Int) := by omega
            have hn40 : n2 ≤ 40 := by rw [hn2]; exact hlen40
            have hfc := (hD.l.d.cell hn2 (i := f) (p := (x, l)) (by rw [hf]; rw [← hget]; exact fnd_get hxm)).2
            simp only at hfc
            have FD := Lib.hid (fun (W : World) (hb : Below wr.heap.size wr W) => dfind_any x (by omega) (hD.l.d.later hb))
            rw [show fz (lpJ j1' i) x = (f : Int) from by unfold fz; rw [if_pos hxm, hf]] at FD
            have HL40 := Lib.hid hlen40
            have HN2 := Lib.hid hn2
            have HND2 := Lib.hid hndp
            clear hD hcs hcj hv2 hae hp hpx hmem hget hxm hf hn2 hlen40 hndp
            go_wp2
            refine wp_region_seq (fun _ => False) #[⟨0, 0, 2^114, 1, 0⟩, ⟨1, 1, 2^115, 2^114, 0⟩, ⟨2, 3, 2^116, 2^115, 0⟩, ⟨4, 7, 2^117, 2^116, 1⟩, ⟨0, 0, 2^118, 1, 0⟩, ⟨0, 0, 2^119, 1024, 0⟩, ⟨48, 48, 2^120, (2^118+2^119), 2⟩, ⟨72, 127, 2^121, (2^117+2^120), 0⟩, ⟨128, 255, 2^122, 2^121, 1⟩, ⟨256, 511, 2^123, 2^122, 0⟩] 264 [(0, 0), (1, 0), (2, 0), (3, 1), (4, 0), (5, 0), (6, 2), (7, 0), (8, 1), (9, 0)] (by kernel_rfl) (by kernel_rfl) (by kernel_rfl) (by kernel_rfl) (by kernel_rfl) (by kernel_rfl) (fun c a d v w h => by cases d <;> exact h) ?_
            refine zqC ?_; refine zqC ?_; refine zqC ?_
            refine zq1 Tryd.underlying37 ?_
            try refine zqP ?_; refine zqC ?_; refine zqC ?_
            refine zqD fun K hK => ?_; go_wp2_with (go_at_call 40; (with_reducible refine (FD.out _ (Below.refl _ _).drew).mono ?_); rintro e w7 ⟨rfl, rfl⟩); refine hkA hK (h := ?_); clear hK K
            try refine zqP ?_; refine zqC ?_
            refine zq1 Tryd.underlying3 ?_
            try refine zqP ?_; refine zqC ?_
            refine seq_nil ?_
            by_cases hl0 : l = 0
            · subst hl0
              go_wp2_with (first
                | (at_builtin; (refine app_own2 rfl _ _ 37 rfl w.heap.size 3 i0 (.int .i64 0) 1 8 Tryd.underlying37 hi0 hz0 hz1 hz2 rfl (by decide) _ _ _ rfl ((ownsRow_own RE2.out (Below.refl _ _).drew).alloc _) ⟨wr.heap.size, 0, none⟩ 1 1 [.int .i64 x] rfl rfl (cell_one_new _ _ _) (by simp [Value.oneCell']) (by unfold maxLen; omega) (by omega) (by simp; omega) (by decide) ?_; intro v9 w9 hown9 hgrow9 hf9; have D9 := Lib.hid (DC.ended (D.out.later (Below.refl _ _).drew) HNE2.out hown9 hgrow9 hf9); obtain ⟨a9, cap9, rfl⟩ := ownsRow_succ hown9; clear hown9 hgrow9 hf9))
                | (go_at_call 21; ((with_reducible refine (dremove_any x HND2.out (by have := HL40.out; omega) D9.out.l.d).mono ?_); rintro e w10 ⟨vI3, vL3, rfl, hd3, hx3, hc3⟩; have D10 := Lib.hid (D9.out.removed hd3 hc3 hx3); clear hd3 hx3 hc3)))
              go_roundg (gk - 1)
              case measure => omega
              case rel =>
                obtain ⟨h1, h2⟩ := lp_no ND.out HP.out rfl
                refine ⟨i + 1, vI3, vL3, by omega, by go_num, ?_⟩
                rw [h1, h2, ← List.append_assoc]
                exact D10.out
            · have hl0I : ¬ (l : Int) = 0 := by omega
              go_wp2
              go_roundg (gk - 1)
              case measure => omega
              case rel =>
                obtain ⟨h1, h2⟩ := lp_yes HP.out (Nat.pos_of_ne_zero hl0)
                refine ⟨i + 1, .slice (some ⟨gI2, 0, none⟩) n2 cI2, .slice (some ⟨gL2, 0, none⟩) n2 cL2, by omega, by go_num, ?_⟩
                rw [h1, h2]
                exact D.out.later (Below.refl _ _).drew
          · obtain rfl : i = m := by omega
            clear hD
            go_wp2
            go_ret
            have hE1 : E ++ lpE j1' i = sEnd k js own := by rw [HM.out, (lp_end j1').2]; unfold sEnd; rw [HJ.out]
            have hJ1 : lpJ j1' i = sJobs k js own := by rw [HM.out, (lp_end j1').1]; unfold sJobs; rw [HJ.out]
            have hs1 : sp + ((sSpent k js own : Nat) : Int) = spO + (t : Int) := by unfold sSpent; rw [HJ.out, HSPO.out]; show sp + ((sOwn k js own + t : Nat) : Int) = _; omega
            have h1 := D.out
            rw [hE1, hJ1] at h1
            exact ⟨_, _, _, rfl, h1.l.e, by rw [hs1]; exact h1.l.d, h1.l.x, h1.l.c⟩
    · have hcI : (0 : Int) < (c1 : Int) := by omega
      by_cases hj1 : j1 = []
      · have HJ := Lib.hid (show oth k (sMid k js own) = (j1, E, t) from by rw [← HT.out, T1.out, hj1, oth_nil]; simp)
        have hjz : j1.length = 0 := by rw [hj1]; rfl
        clear hg T1 hj1
        obtain ⟨m, hm⟩ : ∃ m, m = j1.length := ⟨_, rfl⟩
        have hmE : nE + m ≤ js.length := by rw [hm]; exact hE
        have HM := Lib.hid hm
        have hmz : ¬ (0 : Int) < (m : Int) := by omega
        rcases L.out.d.i.2 with ⟨hvI, hn0⟩ | ⟨gI, cI, curI, hvI, -⟩
        · obtain rfl : m = 0 := by rw [hm]; exact hn0
          subst hvI
          clear hm hn0 hE
          have h00 : ((0 : Nat) : Int) = 0 := rfl
          have hown6 := ownsRow_empty (Blk.new wr 3 #[])
          have B6 := Lib.hid ((Below.refl wr.heap.size wr).alloc (Nat.le_refl _) (.cells #[] 3))
          obtain ⟨aC, haC⟩ : ∃ aC, aC = some (⟨wr.heap.size, 0, none⟩ : Addr) := ⟨_, rfl⟩
          obtain ⟨capC, hcapC⟩ : ∃ c, c = 0 := ⟨_, rfl⟩
          rw [← haC] at hown6
          have hown6 : (wr.alloc (.cells #[] 3)).ownsRow wr.heap.size 3 1 (.slice aC 0 capC) 0 ((jIds j1).map (Value.int .i64)) := by
            rw [hcapC, List.eq_nil_of_length_eq_zero (HM.out.symm)]
            exact hown6
          have DC0 := Lib.hid (show DC w (wr.alloc (.cells #[] 3)) Rb vI vL _ _ (.slice aE nE capE) (k : Int) (spO + (t : Int)) j1 E (.slice aC _ capC) j1 from ⟨L.out.later B6.out, readsInts_own hown6, fun b e => ⟨fun f => by have h1 := L.out.d.lt b f; have h2 := (hown6.lt b e).1; omega, fun f => by have h1 := (L.out.e.lt b f).2; have h2 := (hown6.lt b e).1; omega, (hown6.lt b e).2⟩⟩)
          subst haC hcapC
          clear hown6
          go_wp2_with (at_builtin; refine wpList_append_own_none rfl _ _ 37 rfl wr.heap.size 3 i0 1 Tryd.underlying37 hi0 (.slice (some ⟨wr.heap.size, 0, none⟩) 0 0) 0 [] rfl (ownsRow_empty (Blk.new wr _ _)) rfl ?_)
          refine wp_loop_rounds 1 ?_
          rw [rounds_succ]
          go_wp2
          go_ret
          have hj0 : j1 = [] := List.eq_nil_of_length_eq_zero (by have := HM.out; omega)
          have hE1 : sEnd k js own = E := by unfold sEnd; rw [HJ.out, hj0]; simp [jIds]
          have hJ1 : sJobs k js own = j1 := by unfold sJobs; rw [HJ.out, hj0]; rfl
          have hs1 : sp + ((sSpent k js own : Nat) : Int) = spO + (t : Int) := by unfold sSpent; rw [HJ.out, HSPO.out]; show sp + ((sOwn k js own + t : Nat) : Int) = _; omega
          have h1 := DC0.out
          refine ⟨_, _, _, rfl, ?_, by rw [hs1, hJ1]; exact h1.l.d, h1.l.x, h1.l.c⟩
          rw [hE1]
          exact h1.l.e
        · rw [← hm] at hvI
          subst hvI
          have RI := L.out.d.i
          rw [← hm] at RI
          have RI := Lib.hid RI
          clear hm hE
          go_wp2_with (at_builtin; (refine wpList_append_own _ rfl _ _ 37 rfl wr.heap.size 3 i0 (.int .i64 0) 1 8 Tryd.underlying37 hi0 hz0 hz1 hz2 rfl (by decide) (.slice (some ⟨wr.heap.size, 0, none⟩) 0 0) 0 [] rfl (ownsRow_empty (Blk.new wr _ _)) ⟨gI, 0, none⟩ m cI ((jIds j1).map (Value.int .i64)) rfl (by rw [List.length_map, ids_len, ← HM.out, Nat.mul_one]) (all_news RI.out ((Below.refl _ _).alloc (Nat.le_refl _) _)) (one_ints _) (by unfold maxLen; omega) (by omega) (by simp) ?_; intro v6 w6 hown6 hgrow6 _; have B6 := Lib.hid (show Below wr.heap.size wr w6 from Below.grown ((Below.refl _ _).alloc (Nat.le_refl _) _) hgrow6 (by simp) (fun k e => by simp [Value.ownBlock] at e; omega)); simp only [Nat.zero_add, List.nil_append] at hown6; obtain ⟨aC, capC, rfl⟩ := ownsRow_slice hown6; have DC0 := Lib.hid (show DC w w6 Rb vI vL _ _ (.slice aE nE capE) (k : Int) (spO + (t : Int)) j1 E (.slice aC _ capC) j1 from ⟨L.out.later B6.out, readsInts_own hown6, fun b e => ⟨fun f => by have h1 := L.out.d.lt b f; have h2 := (hown6.lt b e).1; omega, fun f => by have h1 := (L.out.e.lt b f).2; have h2 := (hown6.lt b e).1; omega, (hown6.lt b e).2⟩⟩); clear hown6 hgrow6))
          refine wp_loop_rounds 1 ?_
          rw [rounds_succ]
          go_wp2
          go_ret
          have hj0 : j1 = [] := List.eq_nil_of_length_eq_zero (by have := HM.out; omega)
          have hE1 : sEnd k js own = E := by unfold sEnd; rw [HJ.out, hj0]; simp [jIds]
          have hJ1 : sJobs k js own = j1 := by unfold sJobs; rw [HJ.out, hj0]; rfl
          have hs1 : sp + ((sSpent k js own : Nat) : Int) = spO + (t : Int) := by unfold sSpent; rw [HJ.out, HSPO.out]; show sp + ((sOwn k js own + t : Nat) : Int) = _; omega
          have h1 := DC0.out
          refine ⟨_, _, _, rfl, ?_, by rw [hs1, hJ1]; exact h1.l.d, h1.l.x, h1.l.c⟩
          rw [hE1]
          exact h1.l.e
      · obtain ⟨⟨x, l⟩, r, rfl⟩ := List.exists_cons_of_ne_nil hj1
        clear hj1
        obtain ⟨m, hm⟩ : ∃ m, m = ((x, l) :: r).length := ⟨_, rfl⟩
        obtain ⟨gI, cI, gL, cL, rfl, rfl, nI, nL, nIL, zI, zL⟩ := L.out.d.rows hm (by simp)
        have hp0 : ((x, l) :: r)[0]? = some (x, l) := rfl
        obtain ⟨i0c, l0c⟩ := L.out.d.cell hm hp0
        have fL0 := L.out.d.frozen 0
        have HM := Lib.hid hm
        have hm2 : m = r.length + 1 := by rw [hm]; simp
        have hlE : nE + m ≤ js.length := by rw [hm]; exact hE
        have hgk : c1 + m = gk := by rw [hm]; exact hg
        have hm1 : (0 : Int) < (m : Int) := by omega
        have HM2 := Lib.hid hm2
        clear hm hm2 hE hg hp0
        simp only at i0c l0c
        by_cases hl0 : l = 0
        · subst hl0
          have h00 : ((0 : Nat) : Int) = 0 := rfl
          rw [h00] at l0c
          clear h00
          go_wp2_with (first
            | (at_builtin; (refine app_own2 rfl _ _ 37 rfl w.heap.size 3 i0 (.int .i64 0) 1 8 Tryd.underlying37 hi0 hz0 hz1 hz2 rfl (by decide) _ _ _ rfl (RE.out.alloc _) ⟨wr.heap.size, 0, none⟩ 1 1 [.int .i64 x] rfl rfl (cell_one_new _ _ _) (by simp [Value.oneCell']) (by unfold maxLen; omega) (by omega) (by simp; omega) (by decide) ?_; intro v9 w9 hown9 hgrow9 hf9; have L9 := Lib.hid (DL.ended HNE.out L.out hown9 hgrow9 hf9); obtain ⟨a9, cap9, rfl⟩ := ownsRow_succ hown9; obtain ⟨q0, q1, q2, q3, qz, -⟩ := L9.out.d.cells; have q0c := (L9.out.d.cell HM.out (i := 0) (p := (x, 0)) rfl).1; clear hown9 hgrow9 hf9))
            | (go_at_call 21; ((with_reducible refine (dremove_any x ND.out (by rw [← HM.out]; omega) L9.out.d).mono ?_); rintro e w10 ⟨vI2, vL2, rfl, hd2, hx2, hc2⟩; have L10 := Lib.hid (L9.out.doc hd2 hc2 (fun b e => .inl e) hx2); clear hd2 hx2 hc2)))
          go_roundg (gk - 1)
          case measure => omega
          case rel =>
            have h10 := L10.out
            rw [cut_head ND.out] at h10
            refine ⟨c1, r, E ++ [x], t, _, _, by have := HM2.out; omega, rfl, ht, ?_, ?_, h10, (List.nodup_cons.1 ND.out).2, fun p hp => H64.out p (List.mem_cons_of_mem _ hp)⟩
            · rw [List.length_append, ← HNE.out]; have := HM2.out; simp; omega
            · rw [T1.out, oth_end c1 (by omega) x r]; simp
        · have hl64 : l ≤ 64 := H64.out (x, l) List.mem_cons_self
          have hlI : ¬ (l : Int) = 0 := by omega
          have hf0 : fnd ((x, l) :: r) x = 0 := by rw [fnd_cons, if_pos rfl]
          have hgx : jGet ((x, l) :: r) x = l := get_head x l r
          have SB := L.out.d.sub HM.out ND.out (x := x) List.mem_cons_self (n := 1) (by rw [hgx]; omega)
          obtain ⟨l', hl'⟩ : ∃ l', l = l' + 1 := ⟨l - 1, by omega⟩
          have hsub : jSub ((x, l) :: r) x 1 = (x, l') :: r := by rw [hl']; exact sub_head (by rw [← hl']; exact ND.out)
          rw [hf0, hgx, hsub, show ((1 : Nat) : Int) = 1 from rfl] at SB
          have SB := Lib.hid SB
          have HL' := Lib.hid hl'
          clear hf0 hgx hsub hl'
          go_wp2
          go_roundg (gk - 1)
          case measure => omega
          case rel =>
            have h12 : DL w _ Rb vI vL (.slice (some ⟨gI, 0, none⟩) m cI) (.slice (some ⟨gL, 0, none⟩) m cL) (.slice aE nE capE) (k : Int) (spO + (t : Int) + 1) ((x, l') :: r) E := L.out.doc (X := fun b => b = gL ∨ b = Rb) (SB.out.spent (sp' := spO + (t : Int) + 1)) (((Chg.refl _ _).setCell (.inl (.inl rfl)) _).setCell (.inl (.inr rfl)) _) (fun b e => by rcases e with e | e; exact .inr (.inr (by rw [e]; rfl)); exact .inl e) (fun b e => .inl e)
            refine ⟨c1 - 1, (x, l') :: r, E, t + 1, .slice (some ⟨gI, 0, none⟩) m cI, .slice (some ⟨gL, 0, none⟩) m cL, ?_, by go_num, by omega, ?_, ?_, ?_, ?_, ?_⟩
            · have := HM2.out; simp; omega
            · rw [← HNE.out]; have := HM2.out; simp; omega
            · obtain ⟨d, hd⟩ : ∃ d, c1 = d + 1 := ⟨c1 - 1, by omega⟩
              rw [T1.out, hd, HL'.out, oth_step, show d + 1 - 1 = d from rfl]
              exact Prod.ext rfl (Prod.ext rfl (show t + (_ + 1) = t + 1 + _ by omega))
            · rw [show spO + ((t + 1 : Nat) : Int) = spO + (t : Int) + 1 by omega]
              exact h12
            · exact ND.out
            · intro p hp
              rcases List.mem_cons.1 hp with rfl | hp
              · have := HL'.out; show l' ≤ 64; omega
              · exact H64.out p (List.mem_cons_of_mem _ hp)
theorem dserve_any (k : Nat) (hk : 1 ≤ k ∧ k ≤ 64) (own : Int) (hd : (jIds js).Nodup) (hl : js.length ≤ 40) (h64 : ∀ p ∈ js, p.2 ≤ 64) (hsp : 0 ≤ sp ∧ sp ≤ 700000) (h : DS w Rb vI vL (k : Int) sp js) :
    Calls Tryd.prog 23 #[.pointer (some ⟨Rb, 0, none⟩), .int .i64 own] w fun e w' => ∃ v vI' vL', e = .returned v ∧ w'.ownsRow w.heap.size 3 1 v (sEnd k js own).length ((sEnd k js own).map (Value.int .i64)) ∧ DS w' Rb vI' vL' (k : Int) (sp + (sSpent k js own : Nat)) (sJobs k js own) ∧ (∀ b, DX Rb vI' vL' b → DX Rb vI vL b ∨ w.heap.size ≤ b) ∧ Chg (fun b => DX Rb vI vL b) w w' := by
  by_cases hx : own ∈ jIds js
  · exact dserve_yes k hk own hx hd hl h64 hsp h
  · exact dserve_no k hk own hx hd hl h64 hsp h
end
end Go.Proofs.YtolhmibejhldkaaDoor

namespace Go.Proofs.YtolhmibejhldkaaDoor
open Go.RowKit Go.Proofs
theorem wp_append_rowD {w : World} {o : Oper} {a : Act} {K : Act → World → Prop} {Q : Exit → Act → World → Prop} (s x : Operand)
    (ho : o.op = .call { callee := .builtin .append, args := #[s, x], argTypes := #[37, 37] })
    (base : Nat) (v : Value) (l1 : List Int) (hs : a.eval s = v) (hown : w.ownsRow base 3 1 v l1.length (l1.map (Value.int .i64))) (hv : v.ownBlock ≠ none)
    (u : Value) (l2 : List Int) (hu : a.eval x = u) (hr : (u = .slice none 0 0 ∧ l2 = []) ∨ ∃ ad c, u = .slice (some ad) l2.length c ∧ ∀ j y, (l2.map (Value.int .i64))[j]? = some y → w.cell? (ad.add j) = some y) (hlen : l1.length + l2.length ≤ 1000000) (hbase : base ≤ w.heap.size)
    (h : ∀ v' w', w'.ownsRow base 3 1 v' (l1 ++ l2).length ((l1 ++ l2).map (Value.int .i64)) → w.grownBy w' v.ownBlock → (v'.ownBlock = v.ownBlock ∨ v'.ownBlock = some w.heap.size) → K (a.put o.dst v') w') : o.wp Tryd.prog a w K Q := by
  obtain ⟨i0, hi, hz0, hz1, hz2⟩ := info_parts info3q
  rcases hr with ⟨rfl, rfl⟩ | ⟨ad, c, rfl, hnews⟩
  · have hrun := run_append_owned_none (P := Tryd.prog) (w := w) base 37 o.type 3 i0 1 Tryd.underlying37 hi v _ _ hown
    unfold Oper.wp
    simp [execOp, ho, resolve, invoke, builtin, hs, hu, hrun, Result.andThen]
    exact h v w (by simpa using hown) ⟨rfl, rfl, rfl, Nat.le_refl _, fun _ _ _ => rfl⟩ (.inl rfl)
  · have hl : (l2.map (Value.int .i64)).length = l2.length * 1 := by simp
    have h1 := one_ints l2
    obtain ⟨v', w', hrun, r1, r2, r3⟩ := run_append_own (P := Tryd.prog) w base 37 o.type 3 i0 (.int .i64 0) 1 8 Tryd.underlying37 hi hz0 hz1 hz2 rfl (by decide) v _ _ hown ad l2.length c (l2.map (Value.int .i64)) hl hnews h1 (by unfold maxLen; omega) (by omega) hbase
    have hf : v'.ownBlock = v.ownBlock ∨ v'.ownBlock = some w.heap.size := by
      rcases hown.2 with ⟨rfl, -⟩ | ⟨g, cap, cur, rfl, hbg, hg, hnc, hcm, hcs, htake⟩
      · exact absurd rfl hv
      · by_cases hroom : l1.length + l2.length ≤ cap
        · have hfit : l1.length * i0.size + (l2.map (Value.int .i64)).length ≤ cur.size := by rw [hl, hcs, hz1]; omega
          have hr2 := run_append_room (P := Tryd.prog) w 37 o.type 3 i0 Tryd.underlying37 hi g l1.length cap cur hg ad l2.length c _ (by rw [hz1]; exact hl) hnews h1 hroom hfit
          rw [hr2] at hrun
          cases hrun
          exact .inl rfl
        · have hr2 := run_append_grow (P := Tryd.prog) w 37 o.type 3 i0 (.int .i64 0) Tryd.underlying37 hi hz0 ⟨g, 0, none⟩ l1.length cap _ (by rw [hz1]; exact hown.1) (hown.cells (g := g) rfl) ad l2.length c _ (by rw [hz1]; exact hl) hnews (by omega) (by omega) (growslice_fits (by omega) (by rw [hz2]; omega))
          rw [hr2] at hrun
          cases hrun
          exact .inr rfl
    unfold Oper.wp execOp
    simp only [ho, resolve, invoke, builtin, Sem.run_bind, Sem.run_pure, Result.andThen_ok, List.map_toArray, List.map_cons, List.map_nil, hs, hu, hrun]
    exact h v' w' (by rw [List.length_append, List.map_append]; exact r1) r2 hf
structure RA (w0 w : World) (l : List (Option (Value × List Int))) : Prop where
  b : Below w0.heap.size w0 w
  o : ∀ (i : Nat) (v : Value) (xs : List Int), l[i]? = some (some (v, xs)) → w.ownsRow w0.heap.size 3 1 v xs.length (xs.map (Value.int .i64)) ∧ v.ownBlock ≠ none
  n : ∀ (i j : Nat) (v : Value) (xs : List Int) (u : Value) (ys : List Int), i ≠ j → l[i]? = some (some (v, xs)) → l[j]? = some (some (u, ys)) → ∀ b, v.ownBlock = some b → u.ownBlock ≠ some b
theorem RA.put {w0 w w' : World} {l : List (Option (Value × List Int))} (h : RA w0 w l) {i : Nat} {v : Value} {xs : List Int} {row : Option Nat} (hi : i < l.length) (hg : w.grownBy w' row) (ho : w'.ownsRow w0.heap.size 3 1 v xs.length (xs.map (Value.int .i64))) (hv : v.ownBlock ≠ none)
    (hr : ∀ b, row = some b → w0.heap.size ≤ b ∧ ∀ j u ys, j ≠ i → l[j]? = some (some (u, ys)) → u.ownBlock ≠ some b) (hf : v.ownBlock = row ∨ v.ownBlock = some w.heap.size) : RA w0 w' (l.set i (some (v, xs))) := by
  have hne : ∀ j u ys, j ≠ i → l[j]? = some (some (u, ys)) → ∀ b, v.ownBlock = some b → u.ownBlock ≠ some b := fun j u ys hj hl b hb hu => by
    rcases hf with hf | hf
    · exact (hr b (hf.symm.trans hb)).2 j u ys hj hl hu
    · have h1 := ((h.o j u ys hl).1.lt b hu).2
      have h2 := Option.some.inj (hf.symm.trans hb)
      omega
  have hget : ∀ j x, (l.set i (some (v, xs)))[j]? = some (some x) → (j = i ∧ x = (v, xs)) ∨ (j ≠ i ∧ l[j]? = some (some x)) := fun j x hx => by
    rw [List.getElem?_set] at hx
    by_cases e : i = j
    · subst e
      rw [if_pos rfl, if_pos hi] at hx
      exact .inl ⟨rfl, (Option.some.inj (Option.some.inj hx)).symm⟩
    · rw [if_neg e] at hx
      exact .inr ⟨fun f => e f.symm, hx⟩
  refine ⟨h.b.grown hg h.b.size (fun k hk => (hr k hk).1), fun j u ys hj => ?_, fun j k u ys z zs hjk hj hk b hb hz => ?_⟩
  · rcases hget j _ hj with ⟨rfl, e⟩ | ⟨e, hl⟩
    · cases e; exact ⟨ho, hv⟩
    · obtain ⟨h1, h2⟩ := h.o j u ys hl
      refine ⟨ownsRow_other h1 (chg_of_grown hg) (fun b hb hx => ?_), h2⟩
      exact (hr b hx.symm).2 j u ys e hl hb
  · rcases hget j _ hj with ⟨rfl, e⟩ | ⟨e, hl⟩
    · cases e
      rcases hget k _ hk with ⟨rfl, -⟩ | ⟨e2, hl2⟩
      · exact hjk rfl
      · exact hne k z zs e2 hl2 b hb hz
    · rcases hget k _ hk with ⟨rfl, e3⟩ | ⟨e2, hl2⟩
      · cases e3
        exact hne j u ys e hl b hz hb
      · exact h.n j k u ys z zs hjk hl hl2 b hb hz
theorem RA.new {w0 w : World} {l : List (Option (Value × List Int))} (h : RA w0 w l) (i : Nat) (hi : i < l.length) (xs : List Int) (hm : xs.length ≤ 1000) : RA w0 (w.alloc (.cells (xs.map (Value.int .i64)).toArray 3)) (l.set i (some (.slice (some ⟨w.heap.size, 0, none⟩) xs.length xs.length, xs))) := by
  refine h.put (row := none) hi ⟨rfl, rfl, rfl, by simp, fun k hk _ => Below.heap_alloc _ _ _ hk⟩ ⟨by simp, .inr ⟨_, _, _, rfl, h.b.size, Blk.new _ _ _, Nat.le_refl _, by unfold maxLen; omega, by simp, by simp [List.take_of_length_le]⟩⟩ (fun e => by cases e) (fun b e => by cases e) (.inr rfl)
theorem RA.app {w0 w w' : World} {l : List (Option (Value × List Int))} (h : RA w0 w l) (i : Nat) {v v' : Value} {xs ys : List Int} (hl : l[i]? = some (some (v, xs))) (ho : w'.ownsRow w0.heap.size 3 1 v' (xs ++ ys).length ((xs ++ ys).map (Value.int .i64))) (hg : w.grownBy w' v.ownBlock) (hf : v'.ownBlock = v.ownBlock ∨ v'.ownBlock = some w.heap.size) :
    RA w0 w' (l.set i (some (v', xs ++ ys))) := by
  obtain ⟨h1, h2⟩ := h.o i v xs hl
  refine h.put (row := v.ownBlock) (List.getElem?_eq_some_iff.1 hl).1 hg ho ?_ (fun b e => ⟨(h1.lt b e).1, fun j u zs hj hlj => h.n i j v xs u zs (fun f => hj f.symm) hl hlj b e⟩) hf
  rcases hf with hf | hf
  · rw [hf]; exact h2
  · rw [hf]; exact fun e => by cases e
theorem own_news {w : World} {base : Nat} {v : Value} {xs : List Int} (h : w.ownsRow base 3 1 v xs.length (xs.map (Value.int .i64)) ∧ v.ownBlock ≠ none) : ∃ ad c, v = .slice (some ad) xs.length c ∧ ∀ j y, (xs.map (Value.int .i64))[j]? = some y → w.cell? (ad.add j) = some y := by
  obtain ⟨h1, h2⟩ := h
  rcases h1.2 with ⟨rfl, -⟩ | ⟨g, cap, cur, rfl, -⟩
  · exact absurd rfl h2
  · exact ⟨⟨g, 0, none⟩, cap, rfl, fun j y hj => by rw [add0]; exact row_cells h1 j y hj⟩
theorem row_src {w w' : World} {v : Value} {xs : List Int} (h : w.ownsRow 0 3 1 v xs.length (xs.map (Value.int .i64))) (hb : Below w.heap.size w w') : (v = .slice none 0 0 ∧ xs = []) ∨ ∃ ad c, v = .slice (some ad) xs.length c ∧ ∀ j y, (xs.map (Value.int .i64))[j]? = some y → w'.cell? (ad.add j) = some y := by
  rcases h.2 with ⟨rfl, h0⟩ | ⟨g, cap, cur, rfl, -⟩
  · exact .inl ⟨rfl, List.eq_nil_of_length_eq_zero h0⟩
  · refine .inr ⟨⟨g, 0, none⟩, cap, rfl, fun j y hj => ?_⟩
    rw [add0]
    have hc := row_cells h j y hj
    exact (hb.cell (World.block_lt_of_cell? _ _ hc)).trans hc
theorem T_at {Z : Plan → Act → World → Prop} {p : Plan} {a : Act} {w : World} (h : ∀ Z', Z' = Z → Z' p a w) : Z p a w := h Z rfl
def plA48 : Plan := .done
def plA47 : Plan := .step 25 3 plA48
def plA46 : Plan := .step 24 0 plA47
def plA45 : Plan := .step 23 0 plA46
def plA44 : Plan := .step 22 3 plA45
def plA43 : Plan := .step 21 0 plA44
def plA42 : Plan := .step 20 0 plA43
def plA41 : Plan := .step 19 3 plA42
def plA39 : Plan := .step 18 2 plA41
def plA40 : Plan := .step 16 3 plA41
def plA36 : Plan := .fork (.alt 16 plA39 (.alt 18 plA40 .none))
def plA37 : Plan := .step 11 2 plA40
def plA38 : Plan := .step 10 2 plA40
def plA31 : Plan := .fork (.alt 11 plA36 (.alt 18 plA37 .none))
def plA32 : Plan := .fork (.alt 10 plA36 (.alt 18 plA38 .none))
def plA33 : Plan := .fork (.alt 10 plA37 (.alt 11 plA38 .none))
def plA34 : Plan := .step 9 2 plA38
def plA35 : Plan := .step 7 2 plA38
def plA24 : Plan := .fork (.alt 10 plA31 (.alt 11 plA32 (.alt 18 plA33 .none)))
def plA25 : Plan := .fork (.alt 9 plA32 (.alt 18 plA34 .none))
def plA26 : Plan := .fork (.alt 7 plA32 (.alt 18 plA35 .none))
def plA27 : Plan := .fork (.alt 9 plA33 (.alt 11 plA34 .none))
def plA28 : Plan := .fork (.alt 7 plA33 (.alt 11 plA35 .none))
def plA29 : Plan := .fork (.alt 7 plA34 (.alt 9 plA35 .none))
def plA30 : Plan := .step 2 2 plA35
def plA17 : Plan := .fork (.alt 9 plA24 (.alt 11 plA25 (.alt 18 plA27 .none)))
def plA18 : Plan := .fork (.alt 7 plA24 (.alt 11 plA26 (.alt 18 plA28 .none)))
def plA19 : Plan := .fork (.alt 7 plA25 (.alt 9 plA26 (.alt 18 plA29 .none)))
def plA20 : Plan := .fork (.alt 2 plA26 (.alt 18 plA30 .none))
def plA21 : Plan := .fork (.alt 7 plA27 (.alt 9 plA28 (.alt 11 plA29 .none)))
def plA22 : Plan := .fork (.alt 2 plA28 (.alt 11 plA30 .none))
def plA23 : Plan := .fork (.alt 2 plA29 (.alt 9 plA30 .none))
def plA13 : Plan := .fork (.alt 7 plA17 (.alt 9 plA18 (.alt 11 plA19 (.alt 18 plA21 .none))))
def plA14 : Plan := .fork (.alt 2 plA18 (.alt 11 plA20 (.alt 18 plA22 .none)))
def plA15 : Plan := .fork (.alt 2 plA19 (.alt 9 plA20 (.alt 18 plA23 .none)))
def plA16 : Plan := .fork (.alt 2 plA21 (.alt 9 plA22 (.alt 11 plA23 .none)))
def plA12 : Plan := .fork (.alt 2 plA13 (.alt 9 plA14 (.alt 11 plA15 (.alt 18 plA16 .none))))
def frA (Rb : Nat) (x : Int) (n : Nat) (js : List (Int × Nat)) (vI vL u19 u24 u26 u27 u28 u33 u35 u36 : Value) : Act :=
  { tmps := #[.pointer (some ⟨Rb, 0, none⟩), .int .i64 x, .int .i64 (n : Int), undef, undef, undef, .int .i64 0, .pointer (some ⟨Rb, 0, none⟩), .int .i64 x, .int .i64 (-1), .bool false, .pointer (some ⟨Rb, 0, none⟩), .pointer (some ⟨Rb, 0, none⟩), .pointer (some ⟨Rb, 2, none⟩), vI, .int .i64 (js.length : Int), .bool false,
      .pointer (some ⟨Rb, 0, none⟩), .pointer (some ⟨Rb, 0, none⟩), u19, .pointer (some ⟨Rb, 0, none⟩), .pointer (some ⟨Rb, 0, none⟩), .pointer (some ⟨Rb, 2, none⟩), vI, u24, .int .i64 x, u26, u27, u28, .pointer (some ⟨Rb, 0, none⟩), .pointer (some ⟨Rb, 0, none⟩), .pointer (some ⟨Rb, 3, none⟩), vL, u33, .int .i64 (n : Int), u35, u36, undef, undef, undef, undef], defers := [] }
section
variable {w w' w0 : World} {Rb : Nat} {vI vL : Value} {k sp : Int} {js : List (Int × Nat)}
set_option maxRecDepth 100000 in
set_option maxHeartbeats 16000000 in
theorem dadd_ok (x : Int) (n : Nat) (hx : x ∉ jIds js) (hl : js.length < 40) (h : DS w Rb vI vL k sp js) :
    Calls Tryd.prog 19 #[.pointer (some ⟨Rb, 0, none⟩), .int .i64 x, .int .i64 (n : Int)] w fun e w' => ∃ vI' vL', e = .returned (.int .i64 0) ∧ DS w' Rb vI' vL' k sp (js ++ [(x, n)]) ∧ (∀ b, vI'.ownBlock = some b ∨ vL'.ownBlock = some b → w.heap.size ≤ b) ∧ Chg (fun b => b = Rb) w w' := by
  have FD := Lib.hid (dfind_any x (by omega) h)
  rw [show fz js x = -1 from if_neg hx] at FD
  obtain ⟨c0, c1, c2, c3, hz, hf⟩ := h.cells
  have hjI : ¬ (js.length : Int) = 40 := by omega
  have hj40 : ((js.length : Int) == 40) = false := by simpa using hjI
  have H := Lib.hid h
  have NI := Lib.hid (fun (w' : World) (hb : Below w.heap.size w w') => row_src (by rw [ids_len]; exact h.i) hb)
  have NL := Lib.hid (fun (w' : World) (hb : Below w.heap.size w w') => row_src (by rw [lens_len]; exact h.l) hb)
  obtain ⟨aI, cI, aL, cL, hvI, hvL⟩ := h.val
  have HVI := Lib.hid hvI
  have HVL := Lib.hid hvL
  rw [hvI] at c2
  rw [hvL] at c3
  clear h hx hf hvI hvL
  go_enter Tryd.func19, Tryd.ntmps19
  go_wp2_with (go_at_call 40; (with_reducible refine FD.out.mono ?_); rintro e w1 ⟨rfl, rfl⟩)
  refine wp_region_T (fun b => w.heap.size ≤ b) #[⟨0, 0, 131072, 1, 0⟩, ⟨0, 0, 262144, 1, 0⟩, ⟨0, 0, 524288, 0, 2⟩, ⟨0, 0, 1048576, 1, 0⟩, ⟨8, 8, 2097152, 1048576, 0⟩, ⟨16, 24, 4194304, 2097152, 0⟩, ⟨32, 56, 8388608, 4194304, 1⟩, ⟨68, 124, 16777216, 8912896, 2⟩, ⟨0, 0, 33554432, 2, 0⟩, ⟨256, 256, 67108864, 33554432, 2⟩, ⟨640, 1020, 134217728, 83886080, 2⟩, ⟨0, 0, 268435456, 0, 2⟩, ⟨0, 0, 536870912, 1, 0⟩, ⟨4096, 4096, 1073741824, 536870912, 0⟩, ⟨8192, 12288, 2147483648, 1073741824, 0⟩, ⟨16384, 28672, 4294967296, 2147483648, 1⟩, ⟨35840, 65532, 8589934592, 4563402752, 3⟩, ⟨0, 0, 17179869184, 4, 0⟩, ⟨131072, 131072, 34359738368, 17179869184, 2⟩, ⟨327680, 524284, 68719476736, 42949672960, 3⟩, ⟨624637, 1048573, 137438953472, 131072, 0⟩, ⟨1673213, 2097149, 274877906944, 137438953472, 0⟩, ⟨2721789, 4194301, 0, 275012124672, 3⟩, ⟨8388607, 8388607, 549755813888, 262144, 0⟩, ⟨16777215, 16777215, 1099511627776, 549755813888, 0⟩, ⟨25165823, 33554431, 0, 1168231104512, 3⟩] 32832 (.step 0 0 (.step 1 0 (.step 3 0 (.step 4 0 (.step 5 0 (.step 6 1 (.step 8 0 (.step 12 0 (.step 13 0 (.step 14 0 (.step 15 1 (.step 17 0 plA12)))))))))))) (by kernel_rfl) (by kernel_rfl) (by kernel_rfl) (by kernel_rfl) (by kernel_rfl) (by kernel_rfl) (fun c a d v w h => by cases d <;> exact h) ?_
  refine ztC ?_; refine ztC ?_; refine ztC ?_; refine ztC ?_; refine ztC ?_
  refine zt1 Tryd.underlying37 ?_
  try refine ztP ?_; refine ztC ?_; refine ztC ?_; refine ztC ?_; refine ztC ?_
  refine zt1 Tryd.underlying37 ?_
  try refine ztP ?_; refine ztC ?_
  refine T_at (Z := wpT _ _ _ _) (fun Z hZ => ?_)
  have HZ := Lib.hid hZ
  clear hZ c0 c1 c2 c3
  have H42 := Lib.hid (show ∀ (u19 u24 u26 u27 u28 u33 u35 u36 : Value) (wz : World), RA w wz [some (u27, [] ++ jIds js ++ [x]), some (u26, [x]), some (u36, [] ++ jLens js ++ [(n : Int)]), some (u35, [(n : Int)])] → Z plA42 (frA Rb x n js vI vL u19 u24 u26 u27 u28 u33 u35 u36) wz from by
    intro u19 u24 u26 u27 u28 u33 u35 u36 wz hr
    rw [HZ.out]
    obtain ⟨r27, n27⟩ := hr.o 0 _ _ rfl
    obtain ⟨r36, n36⟩ := hr.o 2 _ _ rfl
    have hap := hr.n 0 2 _ _ _ _ (by decide) rfl rfl
    obtain ⟨m, hm⟩ : ∃ m, m = ([] ++ jIds js ++ [x]).length := ⟨_, rfl⟩
    have hm2 : ([] ++ jLens js ++ [(n : Int)]).length = m := by rw [hm]; simp [ids_len, lens_len]
    rw [← hm] at r27
    rw [hm2] at r36
    obtain ⟨a27, c27, rfl⟩ := ownsRow_slice r27
    obtain ⟨a36, c36, rfl⟩ := ownsRow_slice r36
    have hB := H.out.b.below hr.b hz
    obtain ⟨y0, y1, y2, y3⟩ : wz.cell? ⟨Rb, 0, none⟩ = _ ∧ wz.cell? ⟨Rb, 1, none⟩ = _ ∧ wz.cell? ⟨Rb, 2, none⟩ = _ ∧ wz.cell? ⟨Rb, 3, none⟩ = _ := ⟨hB.cell 0, hB.cell 1, hB.cell 2, hB.cell 3⟩
    have hzz := hB.lt
    have g2 := hB.frozen 2
    have g3 := hB.frozen 3
    have HB := Lib.hid hB
    have R27 := Lib.hid r27
    have R36 := Lib.hid r36
    have AP := Lib.hid hap
    have HR := Lib.hid hr.b
    have hm3 := Lib.hid hm
    clear hr hB r27 r36 hap hm hm2 n27 n36
    unfold frA
    unfold plA42
    refine ztC ?_
    unfold plA43
    refine ztC ?_
    unfold plA44
    refine ztE fun K hK => ?_; go_wp2_with (fail); refine hK.out _ _ ?_; clear hK K
    try refine ztP ?_
    unfold plA45
    refine ztC ?_
    unfold plA46
    refine ztC ?_
    unfold plA47
    refine ztE fun K hK => ?_; go_wp2_with (fail); refine hK.out _ _ ?_; clear hK K
    try refine ztP ?_
    unfold plA48
    refine T_done ?_
    go_wp2
    go_ret
    have hids : [] ++ jIds js ++ [x] = jIds (js ++ [(x, n)]) := by simp [jIds]
    have hlens : [] ++ jLens js ++ [(n : Int)] = jLens (js ++ [(x, n)]) := by simp [jLens]
    have hml : m = (js ++ [(x, n)]).length := by rw [hm3.out, hids, ids_len]
    have h27 := R27.out
    have h36 := R36.out
    rw [hids] at h27
    rw [hlens] at h36
    have hI : ∀ b, (Value.slice a27 m c27).ownBlock = some b → w.heap.size ≤ b := fun b e => (h27.lt b e).1
    have hL : ∀ b, (Value.slice a36 m c36).ownBlock = some b → w.heap.size ≤ b := fun b e => (h36.lt b e).1
    have hc : Chg (fun b => b = Rb) wz ((wz.setCell ⟨Rb, 2, none⟩ (.slice a27 m c27)).setCell ⟨Rb, 3, none⟩ (.slice a36 m c36)) := ((Chg.refl _ _).set1 _ _).set1 _ _
    refine ⟨.slice a27 m c27, .slice a36 m c36, rfl, ⟨(HB.out.set 2 _).set 3 _, ?_, ?_, AP.out, fun e => ?_, fun e => ?_⟩, fun b hb => ?_, (Chg.of_below HR.out).trans hc⟩
    · rw [← hml]; exact ownsRow_base (ownsRow_other h27 hc (fun b e f => by have := hI b e; omega)) (Nat.zero_le _)
    · rw [← hml]; exact ownsRow_base (ownsRow_other h36 hc (fun b e f => by have := hL b e; omega)) (Nat.zero_le _)
    · have := hI Rb e; omega
    · have := hL Rb e; omega
    · rcases hb with e | e
      · exact hI b e
      · exact hL b e
    )
  have H41 := Lib.hid (show ∀ (u19 u24 u26 u27 u28 u33 u35 : Value) (wz : World), RA w wz [some (u27, [] ++ jIds js ++ [x]), some (u26, [x]), some (u33, [] ++ jLens js), some (u35, [(n : Int)])] → Z plA41 (frA Rb x n js vI vL u19 u24 u26 u27 u28 u33 u35 undef) wz from by
    intro u19 u24 u26 u27 u28 u33 u35 wz hr
    rw [HZ.out]
    unfold plA41 frA
    refine ztE fun K hK => ?_
    · refine wp_append_rowD _ _ rfl w.heap.size _ ([] ++ jLens js) rfl (hr.o 2 _ _ rfl).1 (hr.o 2 _ _ rfl).2 _ [(n : Int)] rfl (.inr (own_news (hr.o 3 _ _ rfl))) (by simp only [List.length_append, List.length_nil, List.length_cons, ids_len, lens_len]; omega) hr.b.size ?_
      intro v9 w9 h1 h2 h3
      refine hK.out _ _ ?_
      rw [← HZ.out]
      exact H42.out u19 u24 u26 u27 u28 u33 u35 v9 _ (hr.app 2 rfl h1 h2 h3)
    )
  have H39 := Lib.hid (show ∀ (u19 u24 u26 u27 u28 u33 : Value) (wz : World), RA w wz [some (u27, [] ++ jIds js ++ [x]), some (u26, [x]), some (u33, [] ++ jLens js), none] → Z plA39 (frA Rb x n js vI vL u19 u24 u26 u27 u28 u33 undef undef) wz from by
    intro u19 u24 u26 u27 u28 u33 wz hr
    rw [HZ.out]
    unfold plA39 frA
    refine ztD fun K hK => ?_
    · go_wp2_with (fail)
      refine hK.out _ _ (by exact (Chg.refl _ _).alloc _) ?_
      rw [← HZ.out]
      exact H41.out u19 u24 u26 u27 u28 u33 (.slice (some ⟨wz.heap.size, 0, none⟩) 1 1) _ (hr.new 3 (by simp) [(n : Int)] (by simp))
    )
  have H40 := Lib.hid (show ∀ (u19 u24 u26 u27 u28 u35 : Value) (wz : World), RA w wz [some (u27, [] ++ jIds js ++ [x]), some (u26, [x]), some (u28, []), some (u35, [(n : Int)])] → Z plA40 (frA Rb x n js vI vL u19 u24 u26 u27 u28 undef u35 undef) wz from by
    intro u19 u24 u26 u27 u28 u35 wz hr
    rw [HZ.out]
    unfold plA40 frA
    refine ztE fun K hK => ?_
    · refine wp_append_rowD _ _ rfl w.heap.size _ [] rfl (hr.o 2 _ _ rfl).1 (hr.o 2 _ _ rfl).2 _ (jLens js) rfl (NL.out _ hr.b) (by simp only [List.length_append, List.length_nil, List.length_cons, ids_len, lens_len]; omega) hr.b.size ?_
      intro v9 w9 h1 h2 h3
      refine hK.out _ _ ?_
      rw [← HZ.out]
      exact H41.out u19 u24 u26 u27 u28 v9 u35 _ (hr.app 2 rfl h1 h2 h3)
    )
  have H36 := Lib.hid (show ∀ (u19 u24 u26 u27 u28 : Value) (wz : World), RA w wz [some (u27, [] ++ jIds js ++ [x]), some (u26, [x]), some (u28, []), none] → Z plA36 (frA Rb x n js vI vL u19 u24 u26 u27 u28 undef undef undef) wz from by
    intro u19 u24 u26 u27 u28 wz hr
    rw [HZ.out]
    unfold plA36 frA
    refine zt2 (fun K hK => ?_) fun K hK => ?_
    · refine wp_append_rowD _ _ rfl w.heap.size _ [] rfl (hr.o 2 _ _ rfl).1 (hr.o 2 _ _ rfl).2 _ (jLens js) rfl (NL.out _ hr.b) (by simp only [List.length_append, List.length_nil, List.length_cons, ids_len, lens_len]; omega) hr.b.size ?_
      intro v9 w9 h1 h2 h3
      refine hK.out _ _ ((chg_of_grown h2).mono (fun b _ e => ((hr.o 2 _ _ rfl).1.lt b e.symm).1)) ?_
      rw [← HZ.out]
      exact H39.out u19 u24 u26 u27 u28 v9 _ (hr.app 2 rfl h1 h2 h3)
    · go_wp2_with (fail)
      refine hK.out _ _ (by exact (Chg.refl _ _).alloc _) ?_
      rw [← HZ.out]
      exact H40.out u19 u24 u26 u27 u28 (.slice (some ⟨wz.heap.size, 0, none⟩) 1 1) _ (hr.new 3 (by simp) [(n : Int)] (by simp))
    )
  have H37 := Lib.hid (show ∀ (u19 u24 u26 u27 u35 : Value) (wz : World), RA w wz [some (u27, [] ++ jIds js ++ [x]), some (u26, [x]), none, some (u35, [(n : Int)])] → Z plA37 (frA Rb x n js vI vL u19 u24 u26 u27 undef undef u35 undef) wz from by
    intro u19 u24 u26 u27 u35 wz hr
    rw [HZ.out]
    unfold plA37 frA
    refine ztD fun K hK => ?_
    · go_wp2_with (fail)
      refine hK.out _ _ (by exact (Chg.refl _ _).alloc _) ?_
      rw [← HZ.out]
      exact H40.out u19 u24 u26 u27 (.slice (some ⟨wz.heap.size, 0, none⟩) 0 0) u35 _ (hr.new 2 (by simp) [] (by simp))
    )
  have H38 := Lib.hid (show ∀ (u19 u24 u26 u28 u35 : Value) (wz : World), RA w wz [some (u24, [] ++ jIds js), some (u26, [x]), some (u28, []), some (u35, [(n : Int)])] → Z plA38 (frA Rb x n js vI vL u19 u24 u26 undef u28 undef u35 undef) wz from by
    intro u19 u24 u26 u28 u35 wz hr
    rw [HZ.out]
    unfold plA38 frA
    refine ztD fun K hK => ?_
    · refine wp_append_rowD _ _ rfl w.heap.size _ ([] ++ jIds js) rfl (hr.o 0 _ _ rfl).1 (hr.o 0 _ _ rfl).2 _ [x] rfl (.inr (own_news (hr.o 1 _ _ rfl))) (by simp only [List.length_append, List.length_nil, List.length_cons, ids_len, lens_len]; omega) hr.b.size ?_
      intro v9 w9 h1 h2 h3
      refine hK.out _ _ ((chg_of_grown h2).mono (fun b _ e => ((hr.o 0 _ _ rfl).1.lt b e.symm).1)) ?_
      rw [← HZ.out]
      exact H40.out u19 u24 u26 v9 u28 u35 _ (hr.app 0 rfl h1 h2 h3)
    )
  have H31 := Lib.hid (show ∀ (u19 u24 u26 u27 : Value) (wz : World), RA w wz [some (u27, [] ++ jIds js ++ [x]), some (u26, [x]), none, none] → Z plA31 (frA Rb x n js vI vL u19 u24 u26 u27 undef undef undef undef) wz from by
    intro u19 u24 u26 u27 wz hr
    rw [HZ.out]
    unfold plA31 frA
    refine zt2 (fun K hK => ?_) fun K hK => ?_
    · go_wp2_with (fail)
      refine hK.out _ _ (by exact (Chg.refl _ _).alloc _) ?_
      rw [← HZ.out]
      exact H36.out u19 u24 u26 u27 (.slice (some ⟨wz.heap.size, 0, none⟩) 0 0) _ (hr.new 2 (by simp) [] (by simp))
    · go_wp2_with (fail)
      refine hK.out _ _ (by exact (Chg.refl _ _).alloc _) ?_
      rw [← HZ.out]
      exact H37.out u19 u24 u26 u27 (.slice (some ⟨wz.heap.size, 0, none⟩) 1 1) _ (hr.new 3 (by simp) [(n : Int)] (by simp))
    )
  have H32 := Lib.hid (show ∀ (u19 u24 u26 u28 : Value) (wz : World), RA w wz [some (u24, [] ++ jIds js), some (u26, [x]), some (u28, []), none] → Z plA32 (frA Rb x n js vI vL u19 u24 u26 undef u28 undef undef undef) wz from by
    intro u19 u24 u26 u28 wz hr
    rw [HZ.out]
    unfold plA32 frA
    refine zt2 (fun K hK => ?_) fun K hK => ?_
    · refine wp_append_rowD _ _ rfl w.heap.size _ ([] ++ jIds js) rfl (hr.o 0 _ _ rfl).1 (hr.o 0 _ _ rfl).2 _ [x] rfl (.inr (own_news (hr.o 1 _ _ rfl))) (by simp only [List.length_append, List.length_nil, List.length_cons, ids_len, lens_len]; omega) hr.b.size ?_
      intro v9 w9 h1 h2 h3
      refine hK.out _ _ ((chg_of_grown h2).mono (fun b _ e => ((hr.o 0 _ _ rfl).1.lt b e.symm).1)) ?_
      rw [← HZ.out]
      exact H36.out u19 u24 u26 v9 u28 _ (hr.app 0 rfl h1 h2 h3)
    · go_wp2_with (fail)
      refine hK.out _ _ (by exact (Chg.refl _ _).alloc _) ?_
      rw [← HZ.out]
      exact H38.out u19 u24 u26 u28 (.slice (some ⟨wz.heap.size, 0, none⟩) 1 1) _ (hr.new 3 (by simp) [(n : Int)] (by simp))
    )
  have H33 := Lib.hid (show ∀ (u19 u24 u26 u35 : Value) (wz : World), RA w wz [some (u24, [] ++ jIds js), some (u26, [x]), none, some (u35, [(n : Int)])] → Z plA33 (frA Rb x n js vI vL u19 u24 u26 undef undef undef u35 undef) wz from by
    intro u19 u24 u26 u35 wz hr
    rw [HZ.out]
    unfold plA33 frA
    refine zt2 (fun K hK => ?_) fun K hK => ?_
    · refine wp_append_rowD _ _ rfl w.heap.size _ ([] ++ jIds js) rfl (hr.o 0 _ _ rfl).1 (hr.o 0 _ _ rfl).2 _ [x] rfl (.inr (own_news (hr.o 1 _ _ rfl))) (by simp only [List.length_append, List.length_nil, List.length_cons, ids_len, lens_len]; omega) hr.b.size ?_
      intro v9 w9 h1 h2 h3
      refine hK.out _ _ ((chg_of_grown h2).mono (fun b _ e => ((hr.o 0 _ _ rfl).1.lt b e.symm).1)) ?_
      rw [← HZ.out]
      exact H37.out u19 u24 u26 v9 u35 _ (hr.app 0 rfl h1 h2 h3)
    · go_wp2_with (fail)
      refine hK.out _ _ (by exact (Chg.refl _ _).alloc _) ?_
      rw [← HZ.out]
      exact H38.out u19 u24 u26 (.slice (some ⟨wz.heap.size, 0, none⟩) 0 0) u35 _ (hr.new 2 (by simp) [] (by simp))
    )
  have H34 := Lib.hid (show ∀ (u19 u24 u28 u35 : Value) (wz : World), RA w wz [some (u24, [] ++ jIds js), none, some (u28, []), some (u35, [(n : Int)])] → Z plA34 (frA Rb x n js vI vL u19 u24 undef undef u28 undef u35 undef) wz from by
    intro u19 u24 u28 u35 wz hr
    rw [HZ.out]
    unfold plA34 frA
    refine ztD fun K hK => ?_
    · go_wp2_with (fail)
      refine hK.out _ _ (by exact (Chg.refl _ _).alloc _) ?_
      rw [← HZ.out]
      exact H38.out u19 u24 (.slice (some ⟨wz.heap.size, 0, none⟩) 1 1) u28 u35 _ (hr.new 1 (by simp) [x] (by simp))
    )
  have H35 := Lib.hid (show ∀ (u19 u26 u28 u35 : Value) (wz : World), RA w wz [some (u19, []), some (u26, [x]), some (u28, []), some (u35, [(n : Int)])] → Z plA35 (frA Rb x n js vI vL u19 undef u26 undef u28 undef u35 undef) wz from by
    intro u19 u26 u28 u35 wz hr
    rw [HZ.out]
    unfold plA35 frA
    refine ztD fun K hK => ?_
    · refine wp_append_rowD _ _ rfl w.heap.size _ [] rfl (hr.o 0 _ _ rfl).1 (hr.o 0 _ _ rfl).2 _ (jIds js) rfl (NI.out _ hr.b) (by simp only [List.length_append, List.length_nil, List.length_cons, ids_len, lens_len]; omega) hr.b.size ?_
      intro v9 w9 h1 h2 h3
      refine hK.out _ _ ((chg_of_grown h2).mono (fun b _ e => ((hr.o 0 _ _ rfl).1.lt b e.symm).1)) ?_
      rw [← HZ.out]
      exact H38.out u19 v9 u26 u28 u35 _ (hr.app 0 rfl h1 h2 h3)
    )
  have H24 := Lib.hid (show ∀ (u19 u24 u26 : Value) (wz : World), RA w wz [some (u24, [] ++ jIds js), some (u26, [x]), none, none] → Z plA24 (frA Rb x n js vI vL u19 u24 u26 undef undef undef undef undef) wz from by
    intro u19 u24 u26 wz hr
    rw [HZ.out]
    unfold plA24 frA
    refine T_fork (T_alt (by simp only [List.getElem?_toArray, List.getElem?_cons_succ, List.getElem?_cons_zero]; rfl) (by rfl) (fun K hK => ?_) (T_alt (by simp only [List.getElem?_toArray, List.getElem?_cons_succ, List.getElem?_cons_zero]; rfl) (by rfl) (fun K hK => ?_) (T_alt (by simp only [List.getElem?_toArray, List.getElem?_cons_succ, List.getElem?_cons_zero]; rfl) (by rfl) (fun K hK => ?_) T_none)))
    · refine wp_append_rowD _ _ rfl w.heap.size _ ([] ++ jIds js) rfl (hr.o 0 _ _ rfl).1 (hr.o 0 _ _ rfl).2 _ [x] rfl (.inr (own_news (hr.o 1 _ _ rfl))) (by simp only [List.length_append, List.length_nil, List.length_cons, ids_len, lens_len]; omega) hr.b.size ?_
      intro v9 w9 h1 h2 h3
      refine hK.out _ _ ((chg_of_grown h2).mono (fun b _ e => ((hr.o 0 _ _ rfl).1.lt b e.symm).1)) ?_
      rw [← HZ.out]
      exact H31.out u19 u24 u26 v9 _ (hr.app 0 rfl h1 h2 h3)
    · go_wp2_with (fail)
      refine hK.out _ _ (by exact (Chg.refl _ _).alloc _) ?_
      rw [← HZ.out]
      exact H32.out u19 u24 u26 (.slice (some ⟨wz.heap.size, 0, none⟩) 0 0) _ (hr.new 2 (by simp) [] (by simp))
    · go_wp2_with (fail)
      refine hK.out _ _ (by exact (Chg.refl _ _).alloc _) ?_
      rw [← HZ.out]
      exact H33.out u19 u24 u26 (.slice (some ⟨wz.heap.size, 0, none⟩) 1 1) _ (hr.new 3 (by simp) [(n : Int)] (by simp))
    )
  have H25 := Lib.hid (show ∀ (u19 u24 u28 : Value) (wz : World), RA w wz [some (u24, [] ++ jIds js), none, some (u28, []), none] → Z plA25 (frA Rb x n js vI vL u19 u24 undef undef u28 undef undef undef) wz from by
    intro u19 u24 u28 wz hr
    rw [HZ.out]
    unfold plA25 frA
    refine zt2 (fun K hK => ?_) fun K hK => ?_
    · go_wp2_with (fail)
      refine hK.out _ _ (by exact (Chg.refl _ _).alloc _) ?_
      rw [← HZ.out]
      exact H32.out u19 u24 (.slice (some ⟨wz.heap.size, 0, none⟩) 1 1) u28 _ (hr.new 1 (by simp) [x] (by simp))
    · go_wp2_with (fail)
      refine hK.out _ _ (by exact (Chg.refl _ _).alloc _) ?_
      rw [← HZ.out]
      exact H34.out u19 u24 u28 (.slice (some ⟨wz.heap.size, 0, none⟩) 1 1) _ (hr.new 3 (by simp) [(n : Int)] (by simp))
    )
  have H26 := Lib.hid (show ∀ (u19 u26 u28 : Value) (wz : World), RA w wz [some (u19, []), some (u26, [x]), some (u28, []), none] → Z plA26 (frA Rb x n js vI vL u19 undef u26 undef u28 undef undef undef) wz from by
    intro u19 u26 u28 wz hr
    rw [HZ.out]
    unfold plA26 frA
    refine zt2 (fun K hK => ?_) fun K hK => ?_
    · refine wp_append_rowD _ _ rfl w.heap.size _ [] rfl (hr.o 0 _ _ rfl).1 (hr.o 0 _ _ rfl).2 _ (jIds js) rfl (NI.out _ hr.b) (by simp only [List.length_append, List.length_nil, List.length_cons, ids_len, lens_len]; omega) hr.b.size ?_
      intro v9 w9 h1 h2 h3
      refine hK.out _ _ ((chg_of_grown h2).mono (fun b _ e => ((hr.o 0 _ _ rfl).1.lt b e.symm).1)) ?_
      rw [← HZ.out]
      exact H32.out u19 v9 u26 u28 _ (hr.app 0 rfl h1 h2 h3)
    · go_wp2_with (fail)
      refine hK.out _ _ (by exact (Chg.refl _ _).alloc _) ?_
      rw [← HZ.out]
      exact H35.out u19 u26 u28 (.slice (some ⟨wz.heap.size, 0, none⟩) 1 1) _ (hr.new 3 (by simp) [(n : Int)] (by simp))
    )
  have H27 := Lib.hid (show ∀ (u19 u24 u35 : Value) (wz : World), RA w wz [some (u24, [] ++ jIds js), none, none, some (u35, [(n : Int)])] → Z plA27 (frA Rb x n js vI vL u19 u24 undef undef undef undef u35 undef) wz from by
    intro u19 u24 u35 wz hr
    rw [HZ.out]
    unfold plA27 frA
    refine zt2 (fun K hK => ?_) fun K hK => ?_
    · go_wp2_with (fail)
      refine hK.out _ _ (by exact (Chg.refl _ _).alloc _) ?_
      rw [← HZ.out]
      exact H33.out u19 u24 (.slice (some ⟨wz.heap.size, 0, none⟩) 1 1) u35 _ (hr.new 1 (by simp) [x] (by simp))
    · go_wp2_with (fail)
      refine hK.out _ _ (by exact (Chg.refl _ _).alloc _) ?_
      rw [← HZ.out]
      exact H34.out u19 u24 (.slice (some ⟨wz.heap.size, 0, none⟩) 0 0) u35 _ (hr.new 2 (by simp) [] (by simp))
    )
  have H28 := Lib.hid (show ∀ (u19 u26 u35 : Value) (wz : World), RA w wz [some (u19, []), some (u26, [x]), none, some (u35, [(n : Int)])] → Z plA28 (frA Rb x n js vI vL u19 undef u26 undef undef undef u35 undef) wz from by
    intro u19 u26 u35 wz hr
    rw [HZ.out]
    unfold plA28 frA
    refine zt2 (fun K hK => ?_) fun K hK => ?_
    · refine wp_append_rowD _ _ rfl w.heap.size _ [] rfl (hr.o 0 _ _ rfl).1 (hr.o 0 _ _ rfl).2 _ (jIds js) rfl (NI.out _ hr.b) (by simp only [List.length_append, List.length_nil, List.length_cons, ids_len, lens_len]; omega) hr.b.size ?_
      intro v9 w9 h1 h2 h3
      refine hK.out _ _ ((chg_of_grown h2).mono (fun b _ e => ((hr.o 0 _ _ rfl).1.lt b e.symm).1)) ?_
      rw [← HZ.out]
      exact H33.out u19 v9 u26 u35 _ (hr.app 0 rfl h1 h2 h3)
    · go_wp2_with (fail)
      refine hK.out _ _ (by exact (Chg.refl _ _).alloc _) ?_
      rw [← HZ.out]
      exact H35.out u19 u26 (.slice (some ⟨wz.heap.size, 0, none⟩) 0 0) u35 _ (hr.new 2 (by simp) [] (by simp))
    )
  have H29 := Lib.hid (show ∀ (u19 u28 u35 : Value) (wz : World), RA w wz [some (u19, []), none, some (u28, []), some (u35, [(n : Int)])] → Z plA29 (frA Rb x n js vI vL u19 undef undef undef u28 undef u35 undef) wz from by
    intro u19 u28 u35 wz hr
    rw [HZ.out]
    unfold plA29 frA
    refine zt2 (fun K hK => ?_) fun K hK => ?_
    · refine wp_append_rowD _ _ rfl w.heap.size _ [] rfl (hr.o 0 _ _ rfl).1 (hr.o 0 _ _ rfl).2 _ (jIds js) rfl (NI.out _ hr.b) (by simp only [List.length_append, List.length_nil, List.length_cons, ids_len, lens_len]; omega) hr.b.size ?_
      intro v9 w9 h1 h2 h3
      refine hK.out _ _ ((chg_of_grown h2).mono (fun b _ e => ((hr.o 0 _ _ rfl).1.lt b e.symm).1)) ?_
      rw [← HZ.out]
      exact H34.out u19 v9 u28 u35 _ (hr.app 0 rfl h1 h2 h3)
    · go_wp2_with (fail)
      refine hK.out _ _ (by exact (Chg.refl _ _).alloc _) ?_
      rw [← HZ.out]
      exact H35.out u19 (.slice (some ⟨wz.heap.size, 0, none⟩) 1 1) u28 u35 _ (hr.new 1 (by simp) [x] (by simp))
    )
  have H30 := Lib.hid (show ∀ (u26 u28 u35 : Value) (wz : World), RA w wz [none, some (u26, [x]), some (u28, []), some (u35, [(n : Int)])] → Z plA30 (frA Rb x n js vI vL undef undef u26 undef u28 undef u35 undef) wz from by
    intro u26 u28 u35 wz hr
    rw [HZ.out]
    unfold plA30 frA
    refine ztD fun K hK => ?_
    · go_wp2_with (fail)
      refine hK.out _ _ (by exact (Chg.refl _ _).alloc _) ?_
      rw [← HZ.out]
      exact H35.out (.slice (some ⟨wz.heap.size, 0, none⟩) 0 0) u26 u28 u35 _ (hr.new 0 (by simp) [] (by simp))
    )
  have H17 := Lib.hid (show ∀ (u19 u24 : Value) (wz : World), RA w wz [some (u24, [] ++ jIds js), none, none, none] → Z plA17 (frA Rb x n js vI vL u19 u24 undef undef undef undef undef undef) wz from by
    intro u19 u24 wz hr
    rw [HZ.out]
    unfold plA17 frA
    refine T_fork (T_alt (by simp only [List.getElem?_toArray, List.getElem?_cons_succ, List.getElem?_cons_zero]; rfl) (by rfl) (fun K hK => ?_) (T_alt (by simp only [List.getElem?_toArray, List.getElem?_cons_succ, List.getElem?_cons_zero]; rfl) (by rfl) (fun K hK => ?_) (T_alt (by simp only [List.getElem?_toArray, List.getElem?_cons_succ, List.getElem?_cons_zero]; rfl) (by rfl) (fun K hK => ?_) T_none)))
    · go_wp2_with (fail)
      refine hK.out _ _ (by exact (Chg.refl _ _).alloc _) ?_
      rw [← HZ.out]
      exact H24.out u19 u24 (.slice (some ⟨wz.heap.size, 0, none⟩) 1 1) _ (hr.new 1 (by simp) [x] (by simp))
    · go_wp2_with (fail)
      refine hK.out _ _ (by exact (Chg.refl _ _).alloc _) ?_
      rw [← HZ.out]
      exact H25.out u19 u24 (.slice (some ⟨wz.heap.size, 0, none⟩) 0 0) _ (hr.new 2 (by simp) [] (by simp))
    · go_wp2_with (fail)
      refine hK.out _ _ (by exact (Chg.refl _ _).alloc _) ?_
      rw [← HZ.out]
      exact H27.out u19 u24 (.slice (some ⟨wz.heap.size, 0, none⟩) 1 1) _ (hr.new 3 (by simp) [(n : Int)] (by simp))
    )
  have H18 := Lib.hid (show ∀ (u19 u26 : Value) (wz : World), RA w wz [some (u19, []), some (u26, [x]), none, none] → Z plA18 (frA Rb x n js vI vL u19 undef u26 undef undef undef undef undef) wz from by
    intro u19 u26 wz hr
    rw [HZ.out]
    unfold plA18 frA
    refine T_fork (T_alt (by simp only [List.getElem?_toArray, List.getElem?_cons_succ, List.getElem?_cons_zero]; rfl) (by rfl) (fun K hK => ?_) (T_alt (by simp only [List.getElem?_toArray, List.getElem?_cons_succ, List.getElem?_cons_zero]; rfl) (by rfl) (fun K hK => ?_) (T_alt (by simp only [List.getElem?_toArray, List.getElem?_cons_succ, List.getElem?_cons_zero]; rfl) (by rfl) (fun K hK => ?_) T_none)))
    · refine wp_append_rowD _ _ rfl w.heap.size _ [] rfl (hr.o 0 _ _ rfl).1 (hr.o 0 _ _ rfl).2 _ (jIds js) rfl (NI.out _ hr.b) (by simp only [List.length_append, List.length_nil, List.length_cons, ids_len, lens_len]; omega) hr.b.size ?_
      intro v9 w9 h1 h2 h3
      refine hK.out _ _ ((chg_of_grown h2).mono (fun b _ e => ((hr.o 0 _ _ rfl).1.lt b e.symm).1)) ?_
      rw [← HZ.out]
      exact H24.out u19 v9 u26 _ (hr.app 0 rfl h1 h2 h3)
    · go_wp2_with (fail)
      refine hK.out _ _ (by exact (Chg.refl _ _).alloc _) ?_
      rw [← HZ.out]
      exact H26.out u19 u26 (.slice (some ⟨wz.heap.size, 0, none⟩) 0 0) _ (hr.new 2 (by simp) [] (by simp))
    · go_wp2_with (fail)
      refine hK.out _ _ (by exact (Chg.refl _ _).alloc _) ?_
      rw [← HZ.out]
      exact H28.out u19 u26 (.slice (some ⟨wz.heap.size, 0, none⟩) 1 1) _ (hr.new 3 (by simp) [(n : Int)] (by simp))
    )
  have H19 := Lib.hid (show ∀ (u19 u28 : Value) (wz : World), RA w wz [some (u19, []), none, some (u28, []), none] → Z plA19 (frA Rb x n js vI vL u19 undef undef undef u28 undef undef undef) wz from by
    intro u19 u28 wz hr
    rw [HZ.out]
    unfold plA19 frA
    refine T_fork (T_alt (by simp only [List.getElem?_toArray, List.getElem?_cons_succ, List.getElem?_cons_zero]; rfl) (by rfl) (fun K hK => ?_) (T_alt (by simp only [List.getElem?_toArray, List.getElem?_cons_succ, List.getElem?_cons_zero]; rfl) (by rfl) (fun K hK => ?_) (T_alt (by simp only [List.getElem?_toArray, List.getElem?_cons_succ, List.getElem?_cons_zero]; rfl) (by rfl) (fun K hK => ?_) T_none)))
    · refine wp_append_rowD _ _ rfl w.heap.size _ [] rfl (hr.o 0 _ _ rfl).1 (hr.o 0 _ _ rfl).2 _ (jIds js) rfl (NI.out _ hr.b) (by simp only [List.length_append, List.length_nil, List.length_cons, ids_len, lens_len]; omega) hr.b.size ?_
      intro v9 w9 h1 h2 h3
      refine hK.out _ _ ((chg_of_grown h2).mono (fun b _ e => ((hr.o 0 _ _ rfl).1.lt b e.symm).1)) ?_
      rw [← HZ.out]
      exact H25.out u19 v9 u28 _ (hr.app 0 rfl h1 h2 h3)
    · go_wp2_with (fail)
      refine hK.out _ _ (by exact (Chg.refl _ _).alloc _) ?_
      rw [← HZ.out]
      exact H26.out u19 (.slice (some ⟨wz.heap.size, 0, none⟩) 1 1) u28 _ (hr.new 1 (by simp) [x] (by simp))
    · go_wp2_with (fail)
      refine hK.out _ _ (by exact (Chg.refl _ _).alloc _) ?_
      rw [← HZ.out]
      exact H29.out u19 u28 (.slice (some ⟨wz.heap.size, 0, none⟩) 1 1) _ (hr.new 3 (by simp) [(n : Int)] (by simp))
    )
  have H20 := Lib.hid (show ∀ (u26 u28 : Value) (wz : World), RA w wz [none, some (u26, [x]), some (u28, []), none] → Z plA20 (frA Rb x n js vI vL undef undef u26 undef u28 undef undef undef) wz from by
    intro u26 u28 wz hr
    rw [HZ.out]
    unfold plA20 frA
    refine zt2 (fun K hK => ?_) fun K hK => ?_
    · go_wp2_with (fail)
      refine hK.out _ _ (by exact (Chg.refl _ _).alloc _) ?_
      rw [← HZ.out]
      exact H26.out (.slice (some ⟨wz.heap.size, 0, none⟩) 0 0) u26 u28 _ (hr.new 0 (by simp) [] (by simp))
    · go_wp2_with (fail)
      refine hK.out _ _ (by exact (Chg.refl _ _).alloc _) ?_
      rw [← HZ.out]
      exact H30.out u26 u28 (.slice (some ⟨wz.heap.size, 0, none⟩) 1 1) _ (hr.new 3 (by simp) [(n : Int)] (by simp))
    )
  have H21 := Lib.hid (show ∀ (u19 u35 : Value) (wz : World), RA w wz [some (u19, []), none, none, some (u35, [(n : Int)])] → Z plA21 (frA Rb x n js vI vL u19 undef undef undef undef undef u35 undef) wz from by
    intro u19 u35 wz hr
    rw [HZ.out]
    unfold plA21 frA
    refine T_fork (T_alt (by simp only [List.getElem?_toArray, List.getElem?_cons_succ, List.getElem?_cons_zero]; rfl) (by rfl) (fun K hK => ?_) (T_alt (by simp only [List.getElem?_toArray, List.getElem?_cons_succ, List.getElem?_cons_zero]; rfl) (by rfl) (fun K hK => ?_) (T_alt (by simp only [List.getElem?_toArray, List.getElem?_cons_succ, List.getElem?_cons_zero]; rfl) (by rfl) (fun K hK => ?_) T_none)))
    · refine wp_append_rowD _ _ rfl w.heap.size _ [] rfl (hr.o 0 _ _ rfl).1 (hr.o 0 _ _ rfl).2 _ (jIds js) rfl (NI.out _ hr.b) (by simp only [List.length_append, List.length_nil, List.length_cons, ids_len, lens_len]; omega) hr.b.size ?_
      intro v9 w9 h1 h2 h3
      refine hK.out _ _ ((chg_of_grown h2).mono (fun b _ e => ((hr.o 0 _ _ rfl).1.lt b e.symm).1)) ?_
      rw [← HZ.out]
      exact H27.out u19 v9 u35 _ (hr.app 0 rfl h1 h2 h3)
    · go_wp2_with (fail)
      refine hK.out _ _ (by exact (Chg.refl _ _).alloc _) ?_
      rw [← HZ.out]
      exact H28.out u19 (.slice (some ⟨wz.heap.size, 0, none⟩) 1 1) u35 _ (hr.new 1 (by simp) [x] (by simp))
    · go_wp2_with (fail)
      refine hK.out _ _ (by exact (Chg.refl _ _).alloc _) ?_
      rw [← HZ.out]
      exact H29.out u19 (.slice (some ⟨wz.heap.size, 0, none⟩) 0 0) u35 _ (hr.new 2 (by simp) [] (by simp))
    )
  have H22 := Lib.hid (show ∀ (u26 u35 : Value) (wz : World), RA w wz [none, some (u26, [x]), none, some (u35, [(n : Int)])] → Z plA22 (frA Rb x n js vI vL undef undef u26 undef undef undef u35 undef) wz from by
    intro u26 u35 wz hr
    rw [HZ.out]
    unfold plA22 frA
    refine zt2 (fun K hK => ?_) fun K hK => ?_
    · go_wp2_with (fail)
      refine hK.out _ _ (by exact (Chg.refl _ _).alloc _) ?_
      rw [← HZ.out]
      exact H28.out (.slice (some ⟨wz.heap.size, 0, none⟩) 0 0) u26 u35 _ (hr.new 0 (by simp) [] (by simp))
    · go_wp2_with (fail)
      refine hK.out _ _ (by exact (Chg.refl _ _).alloc _) ?_
      rw [← HZ.out]
      exact H30.out u26 (.slice (some ⟨wz.heap.size, 0, none⟩) 0 0) u35 _ (hr.new 2 (by simp) [] (by simp))
    )
  have H23 := Lib.hid (show ∀ (u28 u35 : Value) (wz : World), RA w wz [none, none, some (u28, []), some (u35, [(n : Int)])] → Z plA23 (frA Rb x n js vI vL undef undef undef undef u28 undef u35 undef) wz from by
    intro u28 u35 wz hr
    rw [HZ.out]
    unfold plA23 frA
    refine zt2 (fun K hK => ?_) fun K hK => ?_
    · go_wp2_with (fail)
      refine hK.out _ _ (by exact (Chg.refl _ _).alloc _) ?_
      rw [← HZ.out]
      exact H29.out (.slice (some ⟨wz.heap.size, 0, none⟩) 0 0) u28 u35 _ (hr.new 0 (by simp) [] (by simp))
    · go_wp2_with (fail)
      refine hK.out _ _ (by exact (Chg.refl _ _).alloc _) ?_
      rw [← HZ.out]
      exact H30.out (.slice (some ⟨wz.heap.size, 0, none⟩) 1 1) u28 u35 _ (hr.new 1 (by simp) [x] (by simp))
    )
  have H13 := Lib.hid (show ∀ (u19 : Value) (wz : World), RA w wz [some (u19, []), none, none, none] → Z plA13 (frA Rb x n js vI vL u19 undef undef undef undef undef undef undef) wz from by
    intro u19 wz hr
    rw [HZ.out]
    unfold plA13 frA
    refine T_fork (T_alt (by simp only [List.getElem?_toArray, List.getElem?_cons_succ, List.getElem?_cons_zero]; rfl) (by rfl) (fun K hK => ?_) (T_alt (by simp only [List.getElem?_toArray, List.getElem?_cons_succ, List.getElem?_cons_zero]; rfl) (by rfl) (fun K hK => ?_) (T_alt (by simp only [List.getElem?_toArray, List.getElem?_cons_succ, List.getElem?_cons_zero]; rfl) (by rfl) (fun K hK => ?_) (T_alt (by simp only [List.getElem?_toArray, List.getElem?_cons_succ, List.getElem?_cons_zero]; rfl) (by rfl) (fun K hK => ?_) T_none))))
    · refine wp_append_rowD _ _ rfl w.heap.size _ [] rfl (hr.o 0 _ _ rfl).1 (hr.o 0 _ _ rfl).2 _ (jIds js) rfl (NI.out _ hr.b) (by simp only [List.length_append, List.length_nil, List.length_cons, ids_len, lens_len]; omega) hr.b.size ?_
      intro v9 w9 h1 h2 h3
      refine hK.out _ _ ((chg_of_grown h2).mono (fun b _ e => ((hr.o 0 _ _ rfl).1.lt b e.symm).1)) ?_
      rw [← HZ.out]
      exact H17.out u19 v9 _ (hr.app 0 rfl h1 h2 h3)
    · go_wp2_with (fail)
      refine hK.out _ _ (by exact (Chg.refl _ _).alloc _) ?_
      rw [← HZ.out]
      exact H18.out u19 (.slice (some ⟨wz.heap.size, 0, none⟩) 1 1) _ (hr.new 1 (by simp) [x] (by simp))
    · go_wp2_with (fail)
      refine hK.out _ _ (by exact (Chg.refl _ _).alloc _) ?_
      rw [← HZ.out]
      exact H19.out u19 (.slice (some ⟨wz.heap.size, 0, none⟩) 0 0) _ (hr.new 2 (by simp) [] (by simp))
    · go_wp2_with (fail)
      refine hK.out _ _ (by exact (Chg.refl _ _).alloc _) ?_
      rw [← HZ.out]
      exact H21.out u19 (.slice (some ⟨wz.heap.size, 0, none⟩) 1 1) _ (hr.new 3 (by simp) [(n : Int)] (by simp))
    )
  have H14 := Lib.hid (show ∀ (u26 : Value) (wz : World), RA w wz [none, some (u26, [x]), none, none] → Z plA14 (frA Rb x n js vI vL undef undef u26 undef undef undef undef undef) wz from by
    intro u26 wz hr
    rw [HZ.out]
    unfold plA14 frA
    refine T_fork (T_alt (by simp only [List.getElem?_toArray, List.getElem?_cons_succ, List.getElem?_cons_zero]; rfl) (by rfl) (fun K hK => ?_) (T_alt (by simp only [List.getElem?_toArray, List.getElem?_cons_succ, List.getElem?_cons_zero]; rfl) (by rfl) (fun K hK => ?_) (T_alt (by simp only [List.getElem?_toArray, List.getElem?_cons_succ, List.getElem?_cons_zero]; rfl) (by rfl) (fun K hK => ?_) T_none)))
    · go_wp2_with (fail)
      refine hK.out _ _ (by exact (Chg.refl _ _).alloc _) ?_
      rw [← HZ.out]
      exact H18.out (.slice (some ⟨wz.heap.size, 0, none⟩) 0 0) u26 _ (hr.new 0 (by simp) [] (by simp))
    · go_wp2_with (fail)
      refine hK.out _ _ (by exact (Chg.refl _ _).alloc _) ?_
      rw [← HZ.out]
      exact H20.out u26 (.slice (some ⟨wz.heap.size, 0, none⟩) 0 0) _ (hr.new 2 (by simp) [] (by simp))
    · go_wp2_with (fail)
      refine hK.out _ _ (by exact (Chg.refl _ _).alloc _) ?_
      rw [← HZ.out]
      exact H22.out u26 (.slice (some ⟨wz.heap.size, 0, none⟩) 1 1) _ (hr.new 3 (by simp) [(n : Int)] (by simp))
    )
  have H15 := Lib.hid (show ∀ (u28 : Value) (wz : World), RA w wz [none, none, some (u28, []), none] → Z plA15 (frA Rb x n js vI vL undef undef undef undef u28 undef undef undef) wz from by
    intro u28 wz hr
    rw [HZ.out]
    unfold plA15 frA
    refine T_fork (T_alt (by simp only [List.getElem?_toArray, List.getElem?_cons_succ, List.getElem?_cons_zero]; rfl) (by rfl) (fun K hK => ?_) (T_alt (by simp only [List.getElem?_toArray, List.getElem?_cons_succ, List.getElem?_cons_zero]; rfl) (by rfl) (fun K hK => ?_) (T_alt (by simp only [List.getElem?_toArray, List.getElem?_cons_succ, List.getElem?_cons_zero]; rfl) (by rfl) (fun K hK => ?_) T_none)))
    · go_wp2_with (fail)
      refine hK.out _ _ (by exact (Chg.refl _ _).alloc _) ?_
      rw [← HZ.out]
      exact H19.out (.slice (some ⟨wz.heap.size, 0, none⟩) 0 0) u28 _ (hr.new 0 (by simp) [] (by simp))
    · go_wp2_with (fail)
      refine hK.out _ _ (by exact (Chg.refl _ _).alloc _) ?_
      rw [← HZ.out]
      exact H20.out (.slice (some ⟨wz.heap.size, 0, none⟩) 1 1) u28 _ (hr.new 1 (by simp) [x] (by simp))
    · go_wp2_with (fail)
      refine hK.out _ _ (by exact (Chg.refl _ _).alloc _) ?_
      rw [← HZ.out]
      exact H23.out u28 (.slice (some ⟨wz.heap.size, 0, none⟩) 1 1) _ (hr.new 3 (by simp) [(n : Int)] (by simp))
    )
  have H16 := Lib.hid (show ∀ (u35 : Value) (wz : World), RA w wz [none, none, none, some (u35, [(n : Int)])] → Z plA16 (frA Rb x n js vI vL undef undef undef undef undef undef u35 undef) wz from by
    intro u35 wz hr
    rw [HZ.out]
    unfold plA16 frA
    refine T_fork (T_alt (by simp only [List.getElem?_toArray, List.getElem?_cons_succ, List.getElem?_cons_zero]; rfl) (by rfl) (fun K hK => ?_) (T_alt (by simp only [List.getElem?_toArray, List.getElem?_cons_succ, List.getElem?_cons_zero]; rfl) (by rfl) (fun K hK => ?_) (T_alt (by simp only [List.getElem?_toArray, List.getElem?_cons_succ, List.getElem?_cons_zero]; rfl) (by rfl) (fun K hK => ?_) T_none)))
    · go_wp2_with (fail)
      refine hK.out _ _ (by exact (Chg.refl _ _).alloc _) ?_
      rw [← HZ.out]
      exact H21.out (.slice (some ⟨wz.heap.size, 0, none⟩) 0 0) u35 _ (hr.new 0 (by simp) [] (by simp))
    · go_wp2_with (fail)
      refine hK.out _ _ (by exact (Chg.refl _ _).alloc _) ?_
      rw [← HZ.out]
      exact H22.out (.slice (some ⟨wz.heap.size, 0, none⟩) 1 1) u35 _ (hr.new 1 (by simp) [x] (by simp))
    · go_wp2_with (fail)
      refine hK.out _ _ (by exact (Chg.refl _ _).alloc _) ?_
      rw [← HZ.out]
      exact H23.out (.slice (some ⟨wz.heap.size, 0, none⟩) 0 0) u35 _ (hr.new 2 (by simp) [] (by simp))
    )
  have H12 := Lib.hid (show ∀ (wz : World), RA w wz [none, none, none, none] → Z plA12 (frA Rb x n js vI vL undef undef undef undef undef undef undef undef) wz from by
    intro  wz hr
    rw [HZ.out]
    unfold plA12 frA
    refine T_fork (T_alt (by simp only [List.getElem?_toArray, List.getElem?_cons_succ, List.getElem?_cons_zero]; rfl) (by rfl) (fun K hK => ?_) (T_alt (by simp only [List.getElem?_toArray, List.getElem?_cons_succ, List.getElem?_cons_zero]; rfl) (by rfl) (fun K hK => ?_) (T_alt (by simp only [List.getElem?_toArray, List.getElem?_cons_succ, List.getElem?_cons_zero]; rfl) (by rfl) (fun K hK => ?_) (T_alt (by simp only [List.getElem?_toArray, List.getElem?_cons_succ, List.getElem?_cons_zero]; rfl) (by rfl) (fun K hK => ?_) T_none))))
    · go_wp2_with (fail)
      refine hK.out _ _ (by exact (Chg.refl _ _).alloc _) ?_
      rw [← HZ.out]
      exact H13.out (.slice (some ⟨wz.heap.size, 0, none⟩) 0 0) _ (hr.new 0 (by simp) [] (by simp))
    · go_wp2_with (fail)
      refine hK.out _ _ (by exact (Chg.refl _ _).alloc _) ?_
      rw [← HZ.out]
      exact H14.out (.slice (some ⟨wz.heap.size, 0, none⟩) 1 1) _ (hr.new 1 (by simp) [x] (by simp))
    · go_wp2_with (fail)
      refine hK.out _ _ (by exact (Chg.refl _ _).alloc _) ?_
      rw [← HZ.out]
      exact H15.out (.slice (some ⟨wz.heap.size, 0, none⟩) 0 0) _ (hr.new 2 (by simp) [] (by simp))
    · go_wp2_with (fail)
      refine hK.out _ _ (by exact (Chg.refl _ _).alloc _) ?_
      rw [← HZ.out]
      exact H16.out (.slice (some ⟨wz.heap.size, 0, none⟩) 1 1) _ (hr.new 3 (by simp) [(n : Int)] (by simp))
    )
  have e := H12.out w.drew ⟨(Below.refl _ _).drew, fun i v xs h => by rcases i with _ | _ | _ | _ | i <;> simp at h, fun i j v xs u ys hij h => by rcases i with _ | _ | _ | _ | i <;> simp at h⟩
  unfold frA at e
  rw [HVI.out, HVL.out] at e
  exact e
theorem dadd_no (x : Int) (n : Nat) (m : Nat) (hm : m = 16 ∧ x ∈ jIds js ∨ m = 2 ∧ x ∉ jIds js ∧ js.length = 40) (hl : js.length ≤ 40) (h : DS w Rb vI vL k sp js) :
    Calls Tryd.prog 19 #[.pointer (some ⟨Rb, 0, none⟩), .int .i64 x, .int .i64 (n : Int)] w fun e w' => e = .returned (.int .i64 (m : Int)) ∧ w = w' := by
  have FD := Lib.hid (dfind_any x (by omega) h)
  obtain ⟨aI, cI, aL, cL, rfl, rfl⟩ := h.val
  obtain ⟨c0, c1, c2, c3, hz, hf⟩ := h.cells
  rcases hm with ⟨rfl, hx⟩ | ⟨rfl, hx, hj⟩
  · obtain ⟨f, hfe⟩ : ∃ f, f = fnd js x := ⟨_, rfl⟩
    rw [show fz js x = (f : Int) from by unfold fz; rw [if_pos hx, hfe]] at FD
    have hf0 : 0 ≤ (f : Int) := by omega
    clear h hx hf hfe
    go_enter Tryd.func19, Tryd.ntmps19
    go_wp2_with (go_at_call 40; (with_reducible refine FD.out.mono ?_); rintro e w1 ⟨rfl, rfl⟩)
    go_ret
    exact ⟨rfl, rfl⟩
  · rw [show fz js x = -1 from if_neg hx] at FD
    have hjI : (js.length : Int) = 40 := by omega
    clear h hx hf hj
    go_enter Tryd.func19, Tryd.ntmps19
    go_wp2_with (go_at_call 40; (with_reducible refine FD.out.mono ?_); rintro e w1 ⟨rfl, rfl⟩)
    go_ret
    exact ⟨rfl, rfl⟩
end
end Go.Proofs.YtolhmibejhldkaaDoor

namespace Go.Proofs.YtolhmibejhldkaaDoor
open Go.RowKit Go.Proofs
structure SD (w0 w : World) (Sb QB QR mb nm : Nat) (k : Nat) (js : List (Int × Nat)) (g : Int → JB) (sp : Nat) (M : Nat) (mt : MeterS) (E : Nat → Addr) (Rb : Nat) (vI vL : Value) (jd : List (Int × Nat)) (sd : Int) : Prop where
  s : SS w0 w Sb QB QR mb nm k js g sp M mt E
  d : DS w Rb vI vL (k : Int) sd jd
  x : ∀ b, DX Rb vI vL b → ¬ SX Sb QB QR mb js g b ∧ b ≠ M ∧ w0.heap.size ≤ b
section
variable {w0 w w' w1 : World} {Sb QB QR mb nm nm' M Rb : Nat} {k : Nat} {js js' jd jd' : List (Int × Nat)} {g g' : Int → JB} {sp sp' : Nat} {sd sd' : Int} {mt mt' : MeterS} {E : Nat → Addr} {vI vL vI' vL' : Value}
theorem SD.later (h : SD w0 w Sb QB QR mb nm k js g sp M mt E Rb vI vL jd sd) (hb : Below w.heap.size w w') : SD w0 w' Sb QB QR mb nm k js g sp M mt E Rb vI vL jd sd := ⟨h.s.later hb, h.d.later hb, h.x⟩
theorem SD.sut {X : Nat → Prop} (h : SD w0 w Sb QB QR mb nm k js g sp M mt E Rb vI vL jd sd) (hs : SS w0 w' Sb QB QR mb nm' k js' g' sp' M mt' E) (hc : Chg X w w') (hX : ∀ b, X b → SX Sb QB QR mb js g b ∨ b = M) (hn : ∀ b, SX Sb QB QR mb js' g' b → SX Sb QB QR mb js g b ∨ w.heap.size ≤ b) :
    SD w0 w' Sb QB QR mb nm' k js' g' sp' M mt' E Rb vI vL jd sd := by
  have hl := h.d.lt
  refine ⟨hs, h.d.chg hc (fun b hb e => ?_), fun b hb => ⟨fun e => ?_, (h.x b hb).2⟩⟩
  · have hx := h.x b hb
    rcases hX b e with e | e
    · exact hx.1 e
    · exact hx.2.1 e
  · rcases hn b e with e | e
    · exact (h.x b hb).1 e
    · have := hl b hb; omega
theorem SD.doc {X : Nat → Prop} (h : SD w0 w Sb QB QR mb nm k js g sp M mt E Rb vI vL jd sd) (hd : DS w' Rb vI' vL' (k : Int) sd' jd') (hc : Chg X w w') (hX : ∀ b, X b → DX Rb vI vL b) (hn : ∀ b, DX Rb vI' vL' b → DX Rb vI vL b ∨ w.heap.size ≤ b) :
    SD w0 w' Sb QB QR mb nm k js g sp M mt E Rb vI' vL' jd' sd' := by
  have hl := h.s.lt
  have hm := h.s.m.lt
  have hz := h.s.b.size
  refine ⟨h.s.chg hc (fun b hb e => (h.x b (hX b e)).1 hb) (fun e => (h.x M (hX M e)).2.1 rfl) (fun b e => (h.x b (hX b e)).2.2), hd, fun b hb => ?_⟩
  rcases hn b hb with e | e
  · exact h.x b e
  · exact ⟨fun f => by have := hl b f; omega, by omega, by omega⟩
theorem dadd_any {kk spp : Int} (x : Int) (n : Nat) (hl : js.length ≤ 40) (h : DS w Rb vI vL kk spp js) :
    Calls Tryd.prog 19 #[.pointer (some ⟨Rb, 0, none⟩), .int .i64 x, .int .i64 (n : Int)] w fun e w' => ∃ vI' vL', e = .returned (.int .i64 ((pushN 40 (jIds js) x : Nat) : Int)) ∧ DS w' Rb vI' vL' kk spp (addJ js x n) ∧ (∀ b, DX Rb vI' vL' b → DX Rb vI vL b ∨ w.heap.size ≤ b) ∧ Chg (fun b => b = Rb) w w' := by
  have hno : ∀ m, pushN 40 (jIds js) x = m → m ≠ 0 → (m = 16 ∧ x ∈ jIds js ∨ m = 2 ∧ x ∉ jIds js ∧ js.length = 40) → Calls Tryd.prog 19 #[.pointer (some ⟨Rb, 0, none⟩), .int .i64 x, .int .i64 (n : Int)] w fun e w' => ∃ vI' vL', e = .returned (.int .i64 ((pushN 40 (jIds js) x : Nat) : Int)) ∧ DS w' Rb vI' vL' kk spp (addJ js x n) ∧ (∀ b, DX Rb vI' vL' b → DX Rb vI vL b ∨ w.heap.size ≤ b) ∧ Chg (fun b => b = Rb) w w' := fun m hm h0 hc => by
    refine (dadd_no x n m hc hl h).mono ?_
    rintro e w' ⟨e1, rfl⟩
    exact ⟨vI, vL, by rw [e1, hm], by rw [show addJ js x n = js from if_neg (by rw [hm]; exact h0)]; exact h, fun b hb => .inl hb, Chg.refl _ _⟩
  by_cases hx : x ∈ jIds js
  · exact hno 16 (if_pos hx) (by decide) (.inl ⟨rfl, hx⟩)
  · by_cases hlt : js.length < 40
    · have hp : pushN 40 (jIds js) x = 0 := by unfold pushN; rw [if_neg hx, if_pos (by simpa [jIds] using hlt)]
      rw [hp, show addJ js x n = js ++ [(x, n)] from if_pos hp]
      refine (dadd_ok x n hx hlt h).mono ?_
      rintro e w' ⟨vI', vL', e1, e2, e3, e4⟩
      refine ⟨vI', vL', e1, e2, fun b hb => ?_, e4⟩
      rcases hb with e | e | e
      · exact .inl (.inl e)
      · exact .inr (e3 b (.inl e))
      · exact .inr (e3 b (.inr e))
    · have hp : pushN 40 (jIds js) x = 2 := by unfold pushN; rw [if_neg hx, if_neg (by simpa [jIds] using hlt)]
      exact hno 2 hp (by decide) (.inr ⟨rfl, hx, by omega⟩)
theorem sadd_nil {kk bal spp : Int} {Mm : Nat} (x : Int) (h : SW w Sb QB QR mb nm kk js g bal spp Mm) (he : w.cell? ⟨0, 0, none⟩ = some (errAt E 4)) :
    Calls Tryd.prog 9 #[.pointer (some ⟨Sb, 0, none⟩), .int .i64 x, .nilIface] w fun e w' => e = .returned (errN E 4) ∧ Below w.heap.size w w' := by
  have hz := World.block_lt_of_cell? _ _ he
  rw [show errN E 4 = errAt E 4 from rfl]
  unfold errAt at *
  clear h
  go_enter Tryd.func9, Tryd.ntmps9
  go_wp2
  go_ret
  exact ⟨rfl, Below.refl _ _⟩
end
end Go.Proofs.YtolhmibejhldkaaDoor

namespace Go.Proofs.YtolhmibejhldkaaDoor
open Go.RowKit Go.Proofs
attribute [local go_sem] neq_nilG eql_nilG nil_ahead_left method_left
theorem mUp_a2 : ∀ n : Nat, n ≤ 1000000 → (mUp MeterS.zero n).a2 = (n : Int)
  | 0, _ => rfl
  | n + 1, h => by
    show sumZ (sumZ (mUp MeterS.zero n).a2 0) 1 = _
    rw [mUp_a2 n (by omega), show sumZ (n : Int) 0 = (n : Int) by rw [sumZ_add (by omega) (by omega) (by omega)]; omega, sumZ_add (by omega) (by omega) (by omega)]
    omega
theorem field_unitsS (a b c : Value) (w : World) : (Instr.field 33 (.agg #[a, b, c]) 2).run Tryd.prog w = .ok c w := by kernel_rfl
attribute [local go_sem high] field_unitsS
end Go.Proofs.YtolhmibejhldkaaDoor

namespace Go.Proofs.YtolhmibejhldkaaDoor
open Go.RowKit Go.Proofs
attribute [local go_sem] neq_nilG eql_nilG nil_ahead_left method_left
attribute [local go_sem high] field_unitsS
theorem sEnd_small (k : Nat) (js : List (Int × Nat)) (own : Int) (hl : js.length ≤ 40) : (sEnd k js own).length < 9223372036854775807 := by
  have h1 := oth_len k (sMid k js own)
  have h2 := congrArg List.length (mid_ids k js own)
  rw [ids_len, ids_len] at h2
  have h3 : (jIds ((oth k (sMid k js own)).1.filter fun p => decide (p.2 = 0))).length ≤ (oth k (sMid k js own)).1.length := by
    rw [ids_len]; exact List.length_filter_le _ _
  unfold sEnd
  rw [List.length_append]
  omega
def AS (w0 : World) (Sb QB QR mb M Rb A : Nat) (kn i : Nat) (E : Nat → Addr) (kd x ln : Int) (wx : World) : Prop :=
  ∃ (nm : Nat) (js : List (Int × Nat)) (g : Int → JB) (sp : Nat) (vI vL : Value), SD w0 wx Sb QB QR mb nm kn js g sp M (mUp MeterS.zero sp) E Rb vI vL js (sp : Int) ∧ nm ≤ i + 1 ∧ sp ≤ 576 * (i + 1) ∧ Blk wx A 45 #[.int .i64 kd, .int .i64 x, .int .i64 ln]
set_option maxRecDepth 100000 in
set_option maxHeartbeats 16000000 in
theorem schedActs_any (k : Int) (v1 : Value) (n1 : Nat) (f1 : Nat → Nat → Int) (E : Nat → Addr) (w0 : World) (he : ErrsAre w0 E) (h1 : RowsAt w0 v1 n1 3 .i64 f1) :
    Calls Tryd.prog 5 #[.int .i64 k, v1] w0 fun e w' => e = .returned (.bool true) ∧ Below w0.heap.size w0 w' := by
  have HE := Lib.hid he
  have hec : EC w0 E [1, 2, 4, 16] := he.ec.sub (by decide)
  have HEC := Lib.hid hec
  have hz : 0 < w0.heap.size := by have := World.block_lt_of_cell? _ _ (hec 1 (by decide)); omega
  have AL := Lib.hid (alive20_any E w0 hec)
  have m1 := h1.2.2
  unfold maxLen at m1
  have HW1 := Lib.hid h1.2.1
  obtain ⟨a1, cap1, rfl, hx1⟩ := h1.cellAt (by decide)
  clear h1
  by_cases hn1 : 120 < n1
  · have hn1I : (120 : Int) < (n1 : Int) := by omega
    clear he hec hx1
    go_enter Tryd.func5, Tryd.ntmps5
    go_wp2_with (go_at_call 6; (with_reducible refine AL.out.mono ?_); rintro e w1 ⟨rfl, hb1⟩)
    go_ret
    exact ⟨rfl, hb1⟩
  have hn1I : ¬ (120 : Int) < (n1 : Int) := by omega
  by_cases hk : ¬ (1 ≤ k ∧ k ≤ 64)
  · have NB := Lib.hid (fun (w' : World) (hb : Below w0.heap.size w0 w') => snew_bad k hk E w' ((hec.below hb) 1 (by decide)))
    have NU := Lib.hid (fun (w' : World) (hb : Below w0.heap.size w0 w') => num_any E 1 (by decide) w' (he.below hb))
    rw [show errN E 1 = errAt E 1 from rfl] at NU
    simp only [show ((1 : Nat) : Int) = 1 from rfl] at NU
    unfold errAt at NB NU
    have hk2 : k < 1 ∨ 64 < k := by omega
    clear he hec hk hx1
    rcases hk2 with hk2 | hk2
    · go_enter Tryd.func5, Tryd.ntmps5
      go_wp2_with (first
        | (go_at_call 6; (with_reducible refine AL.out.mono ?_); rintro e w1 ⟨rfl, hb1⟩)
        | (go_at_call 7; (with_reducible refine (NB.out _ hb1).mono ?_); rintro e w2 ⟨rfl, hb2⟩; have hb3 := hb1.trans (hb2.mono hb1.size))
        | (go_at_call 18; (with_reducible refine (NU.out _ hb3).mono ?_); rintro e w4 ⟨rfl, hb4⟩))
      go_ret
      exact ⟨rfl, hb3.trans (hb4.mono hb3.size)⟩
    · have hk3 : ¬ k < 1 := by omega
      go_enter Tryd.func5, Tryd.ntmps5
      go_wp2_with (first
        | (go_at_call 6; (with_reducible refine AL.out.mono ?_); rintro e w1 ⟨rfl, hb1⟩)
        | (go_at_call 7; (with_reducible refine (NB.out _ hb1).mono ?_); rintro e w2 ⟨rfl, hb2⟩; have hb3 := hb1.trans (hb2.mono hb1.size))
        | (go_at_call 18; (with_reducible refine (NU.out _ hb3).mono ?_); rintro e w4 ⟨rfl, hb4⟩))
      go_ret
      exact ⟨rfl, hb3.trans (hb4.mono hb3.size)⟩
  have hk := Classical.not_not.1 hk
  obtain ⟨kn, rfl⟩ := Int.eq_ofNat_of_zero_le (show 0 ≤ k by omega)
  have hkn : 1 ≤ kn ∧ kn ≤ 64 := by omega
  have hk1 : ¬ (kn : Int) < 1 := by omega
  have hk2 : ¬ (64 : Int) < (kn : Int) := by omega
  have NW := Lib.hid (fun (w' : World) => snew_ok (kn : Int) hk (fun _ => ⟨0, 0, 0, 0⟩) w')
  have HX1 := Lib.hid hx1
  clear he hec hx1
  go_enter Tryd.func5, Tryd.ntmps5
  go_wp2_with (first
    | (go_at_call 6; (with_reducible refine AL.out.mono ?_); rintro e wa ⟨rfl, hba⟩; have BA := Lib.hid hba; have za := hba.size; clear hba)
    | (go_at_call 7; ((with_reducible refine (NW.out _).mono ?_); rintro e w1 ⟨Sb, QB, QR, mb, rfl, hs, y1, y2, y3, y4, hb1⟩; have S1 := Lib.hid (hs (w1.heap.size + 1) (.inr (by omega))); have B1 := Lib.hid (BA.out.trans (hb1.mono BA.out.size)); have z1 := hb1.size; clear hs hb1)))
  have hb2 : Below w1.heap.size w1 ((w1.alloc (.cells #[.int .i64 (kn : Int), .int .i64 0, .slice none 0 0, .slice none 0 0] 51)).alloc (.cells MeterS.zero.cells 35)) := ((Below.refl _ _).alloc (Nat.le_refl _) _).alloc (by simp) _
  have hS1 := Lib.hid S1.out.lt
  have S2 := Lib.hid (show SD w0 ((w1.alloc (.cells #[.int .i64 (kn : Int), .int .i64 0, .slice none 0 0, .slice none 0 0] 51)).alloc (.cells MeterS.zero.cells 35)) Sb QB QR mb 0 kn [] (fun _ => ⟨0, 0, 0, 0⟩) 0 (w1.heap.size + 1) (mUp MeterS.zero 0) E w1.heap.size (.slice none 0 0) (.slice none 0 0) [] ((0 : Nat) : Int) from
    ⟨⟨⟨0, S1.out.later hb2⟩, Blk.new_at (by simp), rfl, B1.out.trans (hb2.mono B1.out.size), HEC.out, fun b hb => by
      rcases hb with e | e | e | e | ⟨x, hx, -⟩
      · omega
      · omega
      · omega
      · omega
      · exact (by cases hx), by omega⟩, ⟨(Blk.new w1 _ _).alloc _, ⟨rfl, .inl ⟨rfl, rfl⟩⟩, ⟨rfl, .inl ⟨rfl, rfl⟩⟩, fun b e => (by cases e), fun e => (by cases e), fun e => (by cases e)⟩, fun b hb => by
      rcases hb with e | e | e
      · subst e
        exact ⟨fun f => Nat.lt_irrefl _ (hS1.out _ f), by omega, by omega⟩
      · cases e
      · cases e⟩)
  obtain ⟨Rb, hRb⟩ : ∃ Rb, Rb = w1.heap.size := ⟨_, rfl⟩
  obtain ⟨M, hM⟩ : ∃ M, M = Rb + 1 := ⟨_, rfl⟩
  simp only [MeterS.cells, MeterS.zero] at S2
  simp only [← hRb] at S2 ⊢
  simp only [← hM] at S2 ⊢
  replace hM := Lib.hid hM
  replace hRb := Lib.hid hRb
  clear S1 B1 BA hb2 hS1
  go_loopg [48] n1 (fun gk v48 wr => ∃ (i nm : Nat) (js : List (Int × Nat)) (g : Int → JB) (sp : Nat) (vI vL : Value), i + gk = n1 ∧ v48 = .int .i64 (i : Int) ∧ SD w0 wr Sb QB QR mb nm kn js g sp M (mUp MeterS.zero sp) E Rb vI vL js (sp : Int) ∧ nm ≤ i ∧ sp ≤ 576 * i)
  case atStart => exact ⟨0, 0, [], _, 0, _, _, by omega, rfl, S2.out, Nat.zero_le _, Nat.zero_le _⟩
  case round =>
    clear S2
    obtain ⟨i, nm, js, g, sp, vI, vL, hi, rfl, hS, hnm, hsp⟩ := hrel
    have S := Lib.hid hS
    have BW0 := Lib.hid hS.s.b
    clear hS
    by_cases hlt : i < n1
    · have hltI : (i : Int) < (n1 : Int) := by omega
      obtain ⟨ab, ao, rfl, haz, hac⟩ := HX1.out (by omega)
      have t0 : wr.cell? ⟨ab, ao + i * 3, none⟩ = some (.int .i64 (f1 i 0)) := by simpa using hac wr BW0.out i hlt 0 (by decide)
      have t1 : wr.cell? ⟨ab, ao + i * 3 + 1, none⟩ = some (.int .i64 (f1 i 1)) := by simpa [Nat.add_assoc] using hac wr BW0.out i hlt 1 (by decide)
      have t2 : wr.cell? ⟨ab, ao + i * 3 + 2, none⟩ = some (.int .i64 (f1 i 2)) := by simpa [Nat.add_assoc] using hac wr BW0.out i hlt 2 (by decide)
      have hwx := Lib.hid (HW1.out i hlt 1 (by decide))
      generalize f1 i 0 = kd at t0
      generalize f1 i 1 = x at t1 hwx
      generalize f1 i 2 = ln at t2
      clear hac
      go_upto_block 2 with (fail)
      refine wp_at (fun W hW => ?_)
      obtain ⟨A, hA⟩ : ∃ A, A = wr.heap.size := ⟨_, rfl⟩
      have m8 : Blk W A 45 #[.int .i64 kd, .int .i64 x, .int .i64 ln] := by rw [hW, hA]; exact Blk.new _ _ _
      have hBW : Below wr.heap.size wr W := by rw [hW]; exact (Below.refl _ _).alloc (Nat.le_refl _) _
      have hz8 : wr.heap.size ≤ W.heap.size := hBW.size
      have SW := Lib.hid (S.out.later hBW)
      have HBW := Lib.hid hBW
      have hAx : ∀ b, SX Sb QB QR mb js g b → A ≠ b := fun b hb => by have := S.out.s.lt b hb; omega
      have hAd : ∀ b, DX Rb vI vL b → A ≠ b := fun b hb => by have := S.out.d.lt b hb; omega
      have hAM : A ≠ M := by have := S.out.s.m.lt; omega
      have HAX := Lib.hid hAx
      have HAD := Lib.hid hAd
      rw [← hA]
      have hnX : ¬ (A = QB ∨ A = QR ∨ A = mb ∨ A = Rb) := by
        rintro (e | e | e | e)
        · exact hAx QB (.inr (.inl rfl)) e
        · exact hAx QR (.inr (.inr (.inl rfl))) e
        · exact hAx mb (.inr (.inr (.inr (.inl rfl)))) e
        · exact hAd Rb (.inl rfl) e
      have hjl := S.out.s.len
      have HA := Lib.hid hA
      have M8 := Lib.hid m8
      have c0 := m8.cell 0
      have c1 := m8.cell 1
      have c2 := m8.cell 2
      have zc := m8.lt
      clear t0 t1 t2 haz hW hA hBW hAx hAd m8
      go_cut [54] (fun v54 wx => AS w0 Sb QB QR mb M Rb A kn i E kd x ln wx)
      case first =>
        by_cases hk0 : kd = 0
        · subst hk0
          have JA := Lib.hid (fun (w' : World) => job_any ln w')
          obtain ⟨pn, hpn⟩ : ∃ pn, pn = pushN 40 (jIds js) x := ⟨_, rfl⟩
          have hpn16 : pn ≤ 16 := by rw [hpn]; unfold pushN; split <;> (try split) <;> omega
          have NU := Lib.hid (fun (w' : World) (hb : Below w0.heap.size w0 w') => num_any E pn hpn16 w' (HE.out.below hb))
          have HPN := Lib.hid hpn
          clear hpn
          go_wp2_with (go_at_call 8; (with_reducible refine (JA.out _).mono ?_); rintro e w2 ⟨p, rfl, pnn, pD, pB, pQ, hp, hb2⟩; have PW := Lib.hid hp; have PP := Lib.hid (show wr.heap.size ≤ p.D ∧ wr.heap.size ≤ p.B ∧ wr.heap.size ≤ p.Q from ⟨Nat.le_trans hz8 pD, Nat.le_trans hz8 pB, Nat.le_trans hz8 pQ⟩); have B2 := Lib.hid (HBW.out.trans (hb2.mono hz8)); have M2 := Lib.hid (M8.out.below hb2 M8.out.lt); have c21 := M2.out.cell 1; have zc2 := M2.out.lt; have hAp := Lib.hid (show p.D ≠ QB ∧ p.D ≠ QR ∧ p.D ≠ mb ∧ p.B ≠ QB ∧ p.B ≠ QR ∧ p.B ≠ mb ∧ p.Q ≠ QB ∧ p.Q ≠ QR ∧ p.Q ≠ mb from by have h1 := S.out.s.lt QB (.inr (.inl rfl)); have h2 := S.out.s.lt QR (.inr (.inr (.inl rfl))); have h3 := S.out.s.lt mb (.inr (.inr (.inr (.inl rfl)))); have h4 := PP.out; omega); clear hp pnn pD pB pQ hb2)
          obtain ⟨q, hq⟩ : ∃ q, q = p.D := ⟨_, rfl⟩
          obtain ⟨l, hl⟩ : ∃ l, l = p.n := ⟨_, rfl⟩
          have HQ := Lib.hid hq
          have HLN := Lib.hid hl
          rw [← hq]
          clear hq hl
          refine wp_region_seq (fun b => b = QB ∨ b = QR ∨ b = mb ∨ b = Rb) #[⟨0, 0, 576460752303423488, 2048, 0⟩, ⟨1, 1, 1152921504606846976, 576460752303423488, 0⟩, ⟨2, 3, 2305843009213693952, 1152921504606846976, 0⟩, ⟨4, 7, 4611686018427387904, 2305843009213693984, 0⟩, ⟨4, 7, 9223372036854775808, 2305843009213694976, 0⟩, ⟨20, 23, 18446744073709551616, 11529215046068469760, 1⟩, ⟨4, 7, 36893488147419103232, 2305843009213696000, 0⟩, ⟨68, 71, 73786976294838206464, 39199331156632797184, 0⟩, ⟨172, 255, 147573952589676412928, 99151249396188839936, 2⟩, ⟨260, 511, 295147905179352825856, 149879795598890106880, 2⟩, ⟨4, 7, 590295810358705651712, 2305843009213694080, 0⟩, ⟨4, 7, 2^70, 2305843009213694976, 0⟩, ⟨2052, 2055, 2^71, (2^61+2^70), 1⟩, ⟨4, 7, 2^72, 2305843009213696000, 0⟩, ⟨8708, 9215, 2^73, (2^61+2^72), 2⟩, ⟨21508, 32767, 2^74, 12398517860542032379904, 3⟩, ⟨33284, 65535, 2^75, (2^61+2^68+2^74), 0⟩, ⟨65540, 131071, 2^76, (2^61+2^75), 0⟩] 4128 [(0, 0), (1, 0), (2, 0), (3, 0), (4, 0), (5, 1), (6, 0), (7, 0), (10, 0), (11, 0), (12, 1), (13, 0), (8, 2), (9, 2), (14, 2), (15, 3), (16, 0), (17, 0)] (by kernel_rfl) (by kernel_rfl) (by kernel_rfl) (by kernel_rfl) (by kernel_rfl) (by kernel_rfl) (fun c a d v w h => by cases d <;> exact h) ?_
          refine zqC ?_; refine zqC ?_; refine zqC ?_
          first
            | (refine zqK ?_)
            | (refine zqA ?_)
          try refine zqP ?_
          first
            | (refine zqK ?_)
            | (refine zqA ?_)
          try refine zqP ?_
          first
            | (refine zqK ?_)
            | (refine zq1 Tryd.underlying3 ?_)
          try refine zqP ?_
          first
            | (refine zqK ?_)
            | (refine zqA ?_)
          try refine zqP ?_
          first
            | (refine zqK ?_)
            | (refine zqA ?_)
          try refine zqP ?_
          first
            | (refine zqK ?_)
            | (refine zqA ?_)
          try refine zqP ?_
          first
            | (refine zqK ?_)
            | (refine zqA ?_)
          try refine zqP ?_
          first
            | (refine zqK ?_)
            | (refine zq1 Tryd.underlying3 ?_)
          try refine zqP ?_
          first
            | (refine zqK ?_)
            | (refine zqA ?_)
          try refine zqP ?_
          first
            | (refine zqK ?_)
            | (refine zqD fun K hK => ?_; go_wp2_with (first | (go_at_call 9; (have AD := S.out.s.addC (B2.out.trans ((Below.refl _ _).drew.mono B2.out.size)) p PP.out (PW.out.later (Below.refl _ _).drew) (by omega) x hwx.out; rw [← HPN.out, ← HQ.out] at AD; (with_reducible refine AD.mono ?_); rintro e w3 ⟨rfl, nm3, g3, n3, hs3, hc3, hx3⟩; have D3 := Lib.hid (S.out.sut hs3 ((Chg.of_below (B2.out.trans ((Below.refl _ _).drew.mono B2.out.size))).trans hc3) (fun b e => .inl (by rcases e with e | e | e; exact .inr (.inl e); exact .inr (.inr (.inl e)); exact .inr (.inr (.inr (.inl e))))) hx3); have P3 := Lib.hid ((PW.out.later (Below.refl _ _).drew).chg hc3 (by have := hAp.out; omega) (by have := hAp.out; omega) (by have := hAp.out; omega)); have N3 := Lib.hid n3; have hcX : Chg (fun b => b = QB ∨ b = QR ∨ b = mb ∨ b = Rb) _ w3 := (hc3.mono (fun b _ e => by rcases e with e | e | e; exact .inl e; exact .inr (.inl e); exact .inr (.inr (.inl e)))); have M3 := Lib.hid ((M2.out.drew).chg hcX hnX); clear hs3 hc3 hx3 n3)) | (go_at_call 18; ((with_reducible refine (NU.out _ D3.out.s.b).mono ?_); rintro e w4 ⟨rfl, hb4⟩; have D4 := Lib.hid (D3.out.later hb4); have P4 := Lib.hid (P3.out.later hb4); have M4 := Lib.hid (M3.out.below hb4 M3.out.lt))) | (go_at_call 10; (have LF := bleft_any p.D p.B p.Q p.n 0 false _ P4.out; rw [Nat.sub_zero, ← HQ.out, ← HLN.out] at LF; (with_reducible refine LF.mono ?_); rintro e w5 ⟨rfl, hb5⟩; have D5 := Lib.hid (D4.out.later hb5); have M5 := Lib.hid (M4.out.below hb5 M4.out.lt))) | (go_at_call 19; (have DA := dadd_any x l (by omega) D5.out.d; rw [← HPN.out] at DA; (with_reducible refine DA.mono ?_); rintro e w6 ⟨vI6, vL6, rfl, hd6, hx6, hc6⟩; have D6 := Lib.hid (D5.out.doc hd6 hc6 (fun b e => .inl e) hx6); have hcY : Chg (fun b => b = QB ∨ b = QR ∨ b = mb ∨ b = Rb) _ w6 := (hc6.mono (fun b _ e => .inr (.inr (.inr e)))); have M6 := Lib.hid (M5.out.chg hcY hnX); clear hd6 hx6 hc6))); refine hkA hK (h := ?_); clear hK K)
          try refine zqP ?_
          first
            | (refine zqK ?_)
            | (refine zqD fun K hK => ?_; go_wp2_with (first | (go_at_call 9; (have AD := S.out.s.addC (B2.out.trans ((Below.refl _ _).drew.mono B2.out.size)) p PP.out (PW.out.later (Below.refl _ _).drew) (by omega) x hwx.out; rw [← HPN.out, ← HQ.out] at AD; (with_reducible refine AD.mono ?_); rintro e w3 ⟨rfl, nm3, g3, n3, hs3, hc3, hx3⟩; have D3 := Lib.hid (S.out.sut hs3 ((Chg.of_below (B2.out.trans ((Below.refl _ _).drew.mono B2.out.size))).trans hc3) (fun b e => .inl (by rcases e with e | e | e; exact .inr (.inl e); exact .inr (.inr (.inl e)); exact .inr (.inr (.inr (.inl e))))) hx3); have P3 := Lib.hid ((PW.out.later (Below.refl _ _).drew).chg hc3 (by have := hAp.out; omega) (by have := hAp.out; omega) (by have := hAp.out; omega)); have N3 := Lib.hid n3; have hcX : Chg (fun b => b = QB ∨ b = QR ∨ b = mb ∨ b = Rb) _ w3 := (hc3.mono (fun b _ e => by rcases e with e | e | e; exact .inl e; exact .inr (.inl e); exact .inr (.inr (.inl e)))); have M3 := Lib.hid ((M2.out.drew).chg hcX hnX); clear hs3 hc3 hx3 n3)) | (go_at_call 18; ((with_reducible refine (NU.out _ D3.out.s.b).mono ?_); rintro e w4 ⟨rfl, hb4⟩; have D4 := Lib.hid (D3.out.later hb4); have P4 := Lib.hid (P3.out.later hb4); have M4 := Lib.hid (M3.out.below hb4 M3.out.lt))) | (go_at_call 10; (have LF := bleft_any p.D p.B p.Q p.n 0 false _ P4.out; rw [Nat.sub_zero, ← HQ.out, ← HLN.out] at LF; (with_reducible refine LF.mono ?_); rintro e w5 ⟨rfl, hb5⟩; have D5 := Lib.hid (D4.out.later hb5); have M5 := Lib.hid (M4.out.below hb5 M4.out.lt))) | (go_at_call 19; (have DA := dadd_any x l (by omega) D5.out.d; rw [← HPN.out] at DA; (with_reducible refine DA.mono ?_); rintro e w6 ⟨vI6, vL6, rfl, hd6, hx6, hc6⟩; have D6 := Lib.hid (D5.out.doc hd6 hc6 (fun b e => .inl e) hx6); have hcY : Chg (fun b => b = QB ∨ b = QR ∨ b = mb ∨ b = Rb) _ w6 := (hc6.mono (fun b _ e => .inr (.inr (.inr e)))); have M6 := Lib.hid (M5.out.chg hcY hnX); clear hd6 hx6 hc6))); refine hkA hK (h := ?_); clear hK K)
          try refine zqP ?_
          first
            | (refine zqK ?_)
            | (refine zqD fun K hK => ?_; go_wp2_with (first | (go_at_call 9; (have AD := S.out.s.addC (B2.out.trans ((Below.refl _ _).drew.mono B2.out.size)) p PP.out (PW.out.later (Below.refl _ _).drew) (by omega) x hwx.out; rw [← HPN.out, ← HQ.out] at AD; (with_reducible refine AD.mono ?_); rintro e w3 ⟨rfl, nm3, g3, n3, hs3, hc3, hx3⟩; have D3 := Lib.hid (S.out.sut hs3 ((Chg.of_below (B2.out.trans ((Below.refl _ _).drew.mono B2.out.size))).trans hc3) (fun b e => .inl (by rcases e with e | e | e; exact .inr (.inl e); exact .inr (.inr (.inl e)); exact .inr (.inr (.inr (.inl e))))) hx3); have P3 := Lib.hid ((PW.out.later (Below.refl _ _).drew).chg hc3 (by have := hAp.out; omega) (by have := hAp.out; omega) (by have := hAp.out; omega)); have N3 := Lib.hid n3; have hcX : Chg (fun b => b = QB ∨ b = QR ∨ b = mb ∨ b = Rb) _ w3 := (hc3.mono (fun b _ e => by rcases e with e | e | e; exact .inl e; exact .inr (.inl e); exact .inr (.inr (.inl e)))); have M3 := Lib.hid ((M2.out.drew).chg hcX hnX); clear hs3 hc3 hx3 n3)) | (go_at_call 18; ((with_reducible refine (NU.out _ D3.out.s.b).mono ?_); rintro e w4 ⟨rfl, hb4⟩; have D4 := Lib.hid (D3.out.later hb4); have P4 := Lib.hid (P3.out.later hb4); have M4 := Lib.hid (M3.out.below hb4 M3.out.lt))) | (go_at_call 10; (have LF := bleft_any p.D p.B p.Q p.n 0 false _ P4.out; rw [Nat.sub_zero, ← HQ.out, ← HLN.out] at LF; (with_reducible refine LF.mono ?_); rintro e w5 ⟨rfl, hb5⟩; have D5 := Lib.hid (D4.out.later hb5); have M5 := Lib.hid (M4.out.below hb5 M4.out.lt))) | (go_at_call 19; (have DA := dadd_any x l (by omega) D5.out.d; rw [← HPN.out] at DA; (with_reducible refine DA.mono ?_); rintro e w6 ⟨vI6, vL6, rfl, hd6, hx6, hc6⟩; have D6 := Lib.hid (D5.out.doc hd6 hc6 (fun b e => .inl e) hx6); have hcY : Chg (fun b => b = QB ∨ b = QR ∨ b = mb ∨ b = Rb) _ w6 := (hc6.mono (fun b _ e => .inr (.inr (.inr e)))); have M6 := Lib.hid (M5.out.chg hcY hnX); clear hd6 hx6 hc6))); refine hkA hK (h := ?_); clear hK K)
          try refine zqP ?_
          first
            | (refine zqK ?_)
            | (refine zqE fun K hK => ?_; go_wp2_with (first | (go_at_call 9; (have AD := S.out.s.addC (B2.out.trans ((Below.refl _ _).drew.mono B2.out.size)) p PP.out (PW.out.later (Below.refl _ _).drew) (by omega) x hwx.out; rw [← HPN.out, ← HQ.out] at AD; (with_reducible refine AD.mono ?_); rintro e w3 ⟨rfl, nm3, g3, n3, hs3, hc3, hx3⟩; have D3 := Lib.hid (S.out.sut hs3 ((Chg.of_below (B2.out.trans ((Below.refl _ _).drew.mono B2.out.size))).trans hc3) (fun b e => .inl (by rcases e with e | e | e; exact .inr (.inl e); exact .inr (.inr (.inl e)); exact .inr (.inr (.inr (.inl e))))) hx3); have P3 := Lib.hid ((PW.out.later (Below.refl _ _).drew).chg hc3 (by have := hAp.out; omega) (by have := hAp.out; omega) (by have := hAp.out; omega)); have N3 := Lib.hid n3; have hcX : Chg (fun b => b = QB ∨ b = QR ∨ b = mb ∨ b = Rb) _ w3 := (hc3.mono (fun b _ e => by rcases e with e | e | e; exact .inl e; exact .inr (.inl e); exact .inr (.inr (.inl e)))); have M3 := Lib.hid ((M2.out.drew).chg hcX hnX); clear hs3 hc3 hx3 n3)) | (go_at_call 18; ((with_reducible refine (NU.out _ D3.out.s.b).mono ?_); rintro e w4 ⟨rfl, hb4⟩; have D4 := Lib.hid (D3.out.later hb4); have P4 := Lib.hid (P3.out.later hb4); have M4 := Lib.hid (M3.out.below hb4 M3.out.lt))) | (go_at_call 10; (have LF := bleft_any p.D p.B p.Q p.n 0 false _ P4.out; rw [Nat.sub_zero, ← HQ.out, ← HLN.out] at LF; (with_reducible refine LF.mono ?_); rintro e w5 ⟨rfl, hb5⟩; have D5 := Lib.hid (D4.out.later hb5); have M5 := Lib.hid (M4.out.below hb5 M4.out.lt))) | (go_at_call 19; (have DA := dadd_any x l (by omega) D5.out.d; rw [← HPN.out] at DA; (with_reducible refine DA.mono ?_); rintro e w6 ⟨vI6, vL6, rfl, hd6, hx6, hc6⟩; have D6 := Lib.hid (D5.out.doc hd6 hc6 (fun b e => .inl e) hx6); have hcY : Chg (fun b => b = QB ∨ b = QR ∨ b = mb ∨ b = Rb) _ w6 := (hc6.mono (fun b _ e => .inr (.inr (.inr e)))); have M6 := Lib.hid (M5.out.chg hcY hnX); clear hd6 hx6 hc6))); refine hK.out _ _ ?_; clear hK K)
          try refine zqP ?_
          first
            | (refine zqK ?_)
            | (refine zqA ?_)
          try refine zqP ?_; refine zqC ?_
          refine seq_nil ?_
          go_wp2
          go_meet
          exact ⟨nm3, addJ js x p.n, g3, sp, vI6, vL6, by rw [← HLN.out] at *; exact D6.out, by have := N3.out; omega, by omega, M6.out⟩
        · by_cases hk1 : kd = 1
          · subst hk1
            obtain ⟨bR, hbR⟩ : ∃ bR, bR = decide (x ∈ jIds js) := ⟨_, rfl⟩
            have HBR := Lib.hid hbR
            clear hbR
            go_wp2
            refine wp_region_seq (fun b => b = QB ∨ b = QR ∨ b = mb ∨ b = Rb) #[⟨0, 0, 2^79, 32, 0⟩, ⟨0, 0, 2^80, 1024, 0⟩, ⟨2, 2, 2^81, 2^80, 1⟩, ⟨5, 7, 2^82, (2^79+2^81), 2⟩, ⟨0, 0, 2^83, 128, 0⟩, ⟨0, 0, 2^84, 1024, 0⟩, ⟨32, 32, 2^85, 2^84, 1⟩, ⟨88, 127, 2^86, (2^83+2^85), 3⟩, ⟨136, 255, 2^87, (2^82+2^86), 0⟩] 68 [(0, 0), (1, 0), (2, 1), (4, 0), (5, 0), (6, 1), (3, 2), (7, 3), (8, 0)] (by kernel_rfl) (by kernel_rfl) (by kernel_rfl) (by kernel_rfl) (by kernel_rfl) (by kernel_rfl) (fun c a d v w h => by cases d <;> exact h) ?_
            refine zqC ?_; refine zqC ?_
            refine zq1 Tryd.underlying3 ?_
            try refine zqP ?_; refine zqC ?_; refine zqC ?_
            refine zq1 Tryd.underlying3 ?_
            try refine zqP ?_
            refine zqD fun K hK => ?_; go_wp2_with (first | (go_at_call 20; (have RM := (SW.out.later (Below.refl _ _).drew).s.removeC x hwx.out; rw [← HBR.out] at RM; (with_reducible refine RM.mono ?_); rintro e w3 ⟨rfl, hs3, hc3⟩; have D3 := Lib.hid ((SW.out.later (Below.refl _ _).drew).sut hs3 hc3 (fun b e => .inl (by rcases e with e | e | e; exact .inr (.inl e); exact .inr (.inr (.inl e)); exact .inr (.inr (.inr (.inl e))))) (fun b hb => .inl hb.cut)); have hcX : Chg (fun b => b = QB ∨ b = QR ∨ b = mb ∨ b = Rb) _ w3 := (hc3.mono (fun b _ e => by rcases e with e | e | e; exact .inl e; exact .inr (.inl e); exact .inr (.inr (.inl e)))); have M3 := Lib.hid ((M8.out.drew).chg hcX hnX); clear hs3 hc3)) | (go_at_call 21; (have DR := dremove_any x S.out.s.nd (by omega) D3.out.d; rw [← HBR.out] at DR; (with_reducible refine DR.mono ?_); rintro e w4 ⟨vI4, vL4, rfl, hd4, hx4, hc4⟩; have D4 := Lib.hid (D3.out.doc hd4 hc4 (fun b e => .inl e) hx4); have hcY : Chg (fun b => b = QB ∨ b = QR ∨ b = mb ∨ b = Rb) _ w4 := (hc4.mono (fun b _ e => .inr (.inr (.inr e)))); have M4 := Lib.hid (M3.out.chg hcY hnX); clear hd4 hx4 hc4))); refine hkA hK (h := ?_); clear hK K
            try refine zqP ?_
            refine zqE fun K hK => ?_; go_wp2_with (first | (go_at_call 20; (have RM := (SW.out.later (Below.refl _ _).drew).s.removeC x hwx.out; rw [← HBR.out] at RM; (with_reducible refine RM.mono ?_); rintro e w3 ⟨rfl, hs3, hc3⟩; have D3 := Lib.hid ((SW.out.later (Below.refl _ _).drew).sut hs3 hc3 (fun b e => .inl (by rcases e with e | e | e; exact .inr (.inl e); exact .inr (.inr (.inl e)); exact .inr (.inr (.inr (.inl e))))) (fun b hb => .inl hb.cut)); have hcX : Chg (fun b => b = QB ∨ b = QR ∨ b = mb ∨ b = Rb) _ w3 := (hc3.mono (fun b _ e => by rcases e with e | e | e; exact .inl e; exact .inr (.inl e); exact .inr (.inr (.inl e)))); have M3 := Lib.hid ((M8.out.drew).chg hcX hnX); clear hs3 hc3)) | (go_at_call 21; (have DR := dremove_any x S.out.s.nd (by omega) D3.out.d; rw [← HBR.out] at DR; (with_reducible refine DR.mono ?_); rintro e w4 ⟨vI4, vL4, rfl, hd4, hx4, hc4⟩; have D4 := Lib.hid (D3.out.doc hd4 hc4 (fun b e => .inl e) hx4); have hcY : Chg (fun b => b = QB ∨ b = QR ∨ b = mb ∨ b = Rb) _ w4 := (hc4.mono (fun b _ e => .inr (.inr (.inr e)))); have M4 := Lib.hid (M3.out.chg hcY hnX); clear hd4 hx4 hc4))); refine hK.out _ _ ?_; clear hK K
            try refine zqP ?_; refine zqC ?_
            refine seq_nil ?_
            go_wp2
            go_meet
            exact ⟨nm, _, g, sp, vI4, vL4, D4.out, by omega, by omega, M4.out⟩
          · by_cases hk2 : kd = 2
            · subst hk2
              obtain ⟨d, hd⟩ : ∃ d, d = sSpent kn js x := ⟨_, rfl⟩
              have hd9 : d ≤ 9 * kn := by rw [hd]; exact spent_le kn js x
              have HD := Lib.hid hd
              have hnY : ¬ ((A = M ∨ SX Sb QB QR mb js g A) ∨ DX Rb vI vL A) := by
                rintro ((e | e) | e)
                · exact hAM e
                · exact HAX.out A e rfl
                · exact HAD.out A e rfl
              clear hd
              go_wp2
              refine wp_region_seq (fun b => (b = M ∨ SX Sb QB QR mb js g b) ∨ DX Rb vI vL b) #[⟨0, 0, 2^90, 32, 0⟩, ⟨0, 0, 2^91, 256, 0⟩, ⟨0, 0, 2^92, 1024, 0⟩, ⟨4, 4, 2^93, 2^92, 1⟩, ⟨11, 15, 2^94, (2^90+2^91+2^93), 2⟩, ⟨0, 0, 2^95, 128, 0⟩, ⟨0, 0, 2^96, 1024, 0⟩, ⟨64, 64, 2^97, 2^96, 1⟩, ⟨176, 255, 2^98, (2^95+2^97), 3⟩, ⟨272, 511, 2^99, (2^94+2^98), 3⟩, ⟨512, 1023, 2^100, 2^99, 0⟩] 136 [(0, 0), (1, 0), (2, 0), (3, 1), (5, 0), (6, 0), (7, 1), (4, 2), (8, 3), (9, 3), (10, 0)] (by kernel_rfl) (by kernel_rfl) (by kernel_rfl) (by kernel_rfl) (by kernel_rfl) (by kernel_rfl) (fun c a d v w h => by cases d <;> exact h) ?_
              refine zqC ?_; refine zqC ?_; refine zqC ?_
              refine zq1 Tryd.underlying3 ?_
              try refine zqP ?_; refine zqC ?_; refine zqC ?_
              refine zq1 Tryd.underlying3 ?_
              try refine zqP ?_
              refine zqD fun K hK => ?_; go_wp2_with (first | (go_at_call 11; (have SV := (SW.out.later (Below.refl _ _).drew).s.serveC hkn x hwx.out (by omega); rw [← HD.out, mUp_add] at SV; (with_reducible refine SV.mono ?_); rintro e w3 ⟨v3, rfl, hr3, hs3, hc3⟩; have D3 := Lib.hid ((SW.out.later (Below.refl _ _).drew).sut hs3 hc3 (fun b e => by rcases e with e | e; exact .inr e; exact .inl e) (fun b hb => .inl hb.jobs)); have hcX : Chg (fun b => (b = M ∨ SX Sb QB QR mb js g b) ∨ DX Rb vI vL b) _ w3 := (hc3.mono (fun b _ e => .inl e)); have M3 := Lib.hid ((M8.out.drew).chg hcX hnY); have R3 := Lib.hid hr3; have V3 := Lib.hid (readsInts_own hr3); clear hs3 hc3 hr3)) | (go_at_call 23; (have DV := dserve_any kn hkn x S.out.s.nd (by omega) S.out.s.le64 (by omega) D3.out.d; rw [← HD.out] at DV; (with_reducible refine DV.mono ?_); rintro e w4 ⟨v4, vI4, vL4, rfl, hr4, hd4, hx4, hc4⟩; have D4 := Lib.hid (D3.out.doc hd4 hc4 (fun b e => e) hx4); have hcY : Chg (fun b => (b = M ∨ SX Sb QB QR mb js g b) ∨ DX Rb vI vL b) _ w4 := (hc4.mono (fun b _ e => .inr e)); have M4 := Lib.hid (M3.out.chg hcY hnY); have V4 := Lib.hid (readsInts_own hr4); have V34 := Lib.hid (readsInts_chg V3.out hc4 (fun b e f => by have h1 := (R3.out.lt b e).1; have h2 := SW.out.d.lt b f; have h3 : W.heap.size ≤ b := h1; omega)); clear hd4 hx4 hc4 hr4)) | (go_at_call 22; (have SI := sameInts_any v3 v4 _ _ _ V34.out V4.out (by have := oth_len kn (sMid kn js x); exact sEnd_small kn js x hjl); rw [decide_eq_true rfl] at SI; (with_reducible refine SI.mono ?_); rintro e w5 ⟨rfl, rfl⟩))); refine hkA hK (h := ?_); clear hK K
              try refine zqP ?_
              refine zqE fun K hK => ?_; go_wp2_with (first | (go_at_call 11; (have SV := (SW.out.later (Below.refl _ _).drew).s.serveC hkn x hwx.out (by omega); rw [← HD.out, mUp_add] at SV; (with_reducible refine SV.mono ?_); rintro e w3 ⟨v3, rfl, hr3, hs3, hc3⟩; have D3 := Lib.hid ((SW.out.later (Below.refl _ _).drew).sut hs3 hc3 (fun b e => by rcases e with e | e; exact .inr e; exact .inl e) (fun b hb => .inl hb.jobs)); have hcX : Chg (fun b => (b = M ∨ SX Sb QB QR mb js g b) ∨ DX Rb vI vL b) _ w3 := (hc3.mono (fun b _ e => .inl e)); have M3 := Lib.hid ((M8.out.drew).chg hcX hnY); have R3 := Lib.hid hr3; have V3 := Lib.hid (readsInts_own hr3); clear hs3 hc3 hr3)) | (go_at_call 23; (have DV := dserve_any kn hkn x S.out.s.nd (by omega) S.out.s.le64 (by omega) D3.out.d; rw [← HD.out] at DV; (with_reducible refine DV.mono ?_); rintro e w4 ⟨v4, vI4, vL4, rfl, hr4, hd4, hx4, hc4⟩; have D4 := Lib.hid (D3.out.doc hd4 hc4 (fun b e => e) hx4); have hcY : Chg (fun b => (b = M ∨ SX Sb QB QR mb js g b) ∨ DX Rb vI vL b) _ w4 := (hc4.mono (fun b _ e => .inr e)); have M4 := Lib.hid (M3.out.chg hcY hnY); have V4 := Lib.hid (readsInts_own hr4); have V34 := Lib.hid (readsInts_chg V3.out hc4 (fun b e f => by have h1 := (R3.out.lt b e).1; have h2 := SW.out.d.lt b f; have h3 : W.heap.size ≤ b := h1; omega)); clear hd4 hx4 hc4 hr4)) | (go_at_call 22; (have SI := sameInts_any v3 v4 _ _ _ V34.out V4.out (by have := oth_len kn (sMid kn js x); exact sEnd_small kn js x hjl); rw [decide_eq_true rfl] at SI; (with_reducible refine SI.mono ?_); rintro e w5 ⟨rfl, rfl⟩))); refine hK.out _ _ ?_; clear hK K
              try refine zqP ?_
              refine zqE fun K hK => ?_; go_wp2_with (first | (go_at_call 11; (have SV := (SW.out.later (Below.refl _ _).drew).s.serveC hkn x hwx.out (by omega); rw [← HD.out, mUp_add] at SV; (with_reducible refine SV.mono ?_); rintro e w3 ⟨v3, rfl, hr3, hs3, hc3⟩; have D3 := Lib.hid ((SW.out.later (Below.refl _ _).drew).sut hs3 hc3 (fun b e => by rcases e with e | e; exact .inr e; exact .inl e) (fun b hb => .inl hb.jobs)); have hcX : Chg (fun b => (b = M ∨ SX Sb QB QR mb js g b) ∨ DX Rb vI vL b) _ w3 := (hc3.mono (fun b _ e => .inl e)); have M3 := Lib.hid ((M8.out.drew).chg hcX hnY); have R3 := Lib.hid hr3; have V3 := Lib.hid (readsInts_own hr3); clear hs3 hc3 hr3)) | (go_at_call 23; (have DV := dserve_any kn hkn x S.out.s.nd (by omega) S.out.s.le64 (by omega) D3.out.d; rw [← HD.out] at DV; (with_reducible refine DV.mono ?_); rintro e w4 ⟨v4, vI4, vL4, rfl, hr4, hd4, hx4, hc4⟩; have D4 := Lib.hid (D3.out.doc hd4 hc4 (fun b e => e) hx4); have hcY : Chg (fun b => (b = M ∨ SX Sb QB QR mb js g b) ∨ DX Rb vI vL b) _ w4 := (hc4.mono (fun b _ e => .inr e)); have M4 := Lib.hid (M3.out.chg hcY hnY); have V4 := Lib.hid (readsInts_own hr4); have V34 := Lib.hid (readsInts_chg V3.out hc4 (fun b e f => by have h1 := (R3.out.lt b e).1; have h2 := SW.out.d.lt b f; have h3 : W.heap.size ≤ b := h1; omega)); clear hd4 hx4 hc4 hr4)) | (go_at_call 22; (have SI := sameInts_any v3 v4 _ _ _ V34.out V4.out (by have := oth_len kn (sMid kn js x); exact sEnd_small kn js x hjl); rw [decide_eq_true rfl] at SI; (with_reducible refine SI.mono ?_); rintro e w5 ⟨rfl, rfl⟩))); refine hK.out _ _ ?_; clear hK K
              try refine zqP ?_; refine zqC ?_
              refine seq_nil ?_
              go_wp2
              go_meet
              exact ⟨nm, _, g, sp + d, vI4, vL4, by rw [Int.natCast_add]; exact D4.out, by omega, by omega, M4.out⟩
            · go_wp2
              go_meet
              exact ⟨nm, js, g, sp, vI, vL, SW.out, by omega, by omega, M8.out⟩
      case rest =>
        obtain ⟨nm2, js2, g2, sp2, vI2, vL2, hS2, hnm2, hsp2, hM2⟩ := hcut
        obtain ⟨u, hu⟩ : ∃ u, u = wc := ⟨_, rfl⟩
        subst hu
        have A2 := Lib.hid hM2
        have D := Lib.hid hS2
        have hA2 := mUp_a2 sp2 (by omega)
        obtain ⟨aI, cI, aL, cL, rfl, rfl⟩ := hS2.d.val
        obtain ⟨q0, q1, q2, q3, hzR, -⟩ := hS2.d.cells
        have p1 := hM2.cell 1
        have zA := hM2.lt
        have hj2 := hS2.s.len
        have hsum := hS2.s.sum
        obtain ⟨bH, hbH⟩ : ∃ bH, bH = decide (x ∈ jIds js2) := ⟨_, rfl⟩
        obtain ⟨T, hT⟩ : ∃ T, T = jSum js2 := ⟨_, rfl⟩
        have HBH := Lib.hid hbH
        have HT := Lib.hid hT
        clear hS2 hM2 c0 c1 c2 zc hnX hbH hT SW HBW HAX HAD hAM M8 S BW0 hjl
        go_wp2
        refine wp_region_seq (fun _ => False) #[⟨0, 0, 2^101, 32, 0⟩, ⟨1, 1, 2^102, 2^101, 2⟩, ⟨0, 0, 2^103, 128, 0⟩, ⟨4, 4, 2^104, 2^103, 0⟩, ⟨8, 12, 2^105, 2^104, 0⟩, ⟨16, 28, 2^106, 2^105, 1⟩, ⟨34, 63, 2^107, (2^102+2^106), 2⟩, ⟨64, 127, 2^108, 2^107, 0⟩, ⟨192, 255, 2^109, 2^108, 0⟩, ⟨256, 511, 2^110, (2^5+2^109), 0⟩, ⟨768, 1023, 2^111, (2^109+2^110), 2⟩, ⟨256, 511, 2^112, (2^7+2^109), 0⟩, ⟨3328, 4095, 2^113, (2^109+2^112), 2⟩, ⟨5376, 8191, 2^114, (2^109+2^111+2^113), 0⟩, ⟨8448, 16383, 2^115, (2^109+2^114), 0⟩, ⟨20480, 32767, 2^116, 2^115, 0⟩, ⟨32768, 65535, 2^117, (2^5+2^116), 0⟩, ⟨32768, 65535, 2^118, (2^10+2^116), 0⟩, ⟨163840, 196607, 2^119, (2^116+2^118), 1⟩, ⟨360448, 524287, 2^120, (2^116+2^117+2^119), 2⟩, ⟨32768, 65535, 2^121, (2^7+2^116), 0⟩, ⟨1081344, 1114111, 2^122, (2^116+2^121), 0⟩, ⟨2129920, 3211263, 2^123, (2^116+2^122), 0⟩, ⟨4227072, 7405567, 2^124, (2^116+2^123), 1⟩, ⟨32768, 65535, 2^125, (2^10+2^116), 0⟩, ⟨16809984, 16842751, 2^126, (2^116+2^125), 1⟩, ⟨42500096, 67108863, 2^127, (2^116+2^124+2^126), 2⟩, ⟨67665920, 134217727, 2^128, (2^116+2^120+2^127), 0⟩, ⟨134250496, 268435455, 2^129, (2^116+2^128), 0⟩, ⟨335544320, 536870911, 2^130, 2^129, 0⟩, ⟨536870912, 1073741823, 2^131, (2^5+2^130), 0⟩, ⟨1610612736, 2147483647, 2^132, (2^130+2^131), 2⟩, ⟨536870912, 1073741823, 2^133, (2^7+2^130), 0⟩, ⟨4831838208, 5368709119, 2^134, (2^130+2^133), 0⟩, ⟨9126805504, 13958643711, 2^135, (2^130+2^134), 0⟩, ⟨17716740096, 31138512895, 2^136, (2^130+2^135), 1⟩, ⟨37044092928, 68719476735, 2^137, (2^130+2^132+2^136), 0⟩, ⟨69256347648, 137438953471, 2^138, (2^130+2^137), 0⟩, ⟨139586437120, 274877906943, 2^139, 2^138, 0⟩, ⟨274877906944, 549755813887, 2^140, (2^8+2^139), 0⟩, ⟨824633720832, 1099511627775, 2^141, (2^139+2^140), 2⟩, ⟨1374389534720, 2199023255551, 2^142, (2^139+2^141), 0⟩, ⟨274877906944, 549755813887, 2^143, (2^7+2^139), 0⟩, ⟨4672924418048, 4947802324991, 2^144, (2^139+2^143), 0⟩, ⟨9070970929152, 13743895347199, 2^145, (2^139+2^144), 0⟩, ⟨17867063951360, 31336081391615, 2^146, (2^139+2^145), 1⟩, ⟨37658273251328, 70368744177663, 2^147, (2^139+2^142+2^146), 0⟩, ⟨70643622084608, 140737488355327, 2^148, (2^139+2^147), 0⟩] 35218774032416 [(0, 0), (2, 0), (3, 0), (4, 0), (5, 1), (1, 2), (6, 2), (7, 0), (8, 0), (9, 0), (11, 0), (10, 2), (12, 2), (13, 0), (14, 0), (15, 0), (16, 0), (17, 0), (18, 1), (20, 0), (21, 0), (22, 0), (23, 1), (24, 0), (25, 1), (19, 2), (26, 2), (27, 0), (28, 0), (29, 0), (30, 0), (32, 0), (33, 0), (34, 0), (35, 1), (31, 2), (36, 0), (37, 0), (38, 0), (39, 0), (42, 0), (43, 0), (44, 0), (45, 1), (40, 2), (41, 0), (46, 0), (47, 0)] (by kernel_rfl) (by kernel_rfl) (by kernel_rfl) (by kernel_rfl) (by kernel_rfl) (by kernel_rfl) (fun c a d v w h => by cases d <;> exact h) ?_
        refine zqC ?_; refine zqC ?_; refine zqC ?_; refine zqC ?_
        refine zq1 Tryd.underlying37 ?_
        try refine zqP ?_
        refine zqD fun K hK => ?_; go_wp2_with (first | (go_at_call 14; ((with_reducible refine (D.out.later (Below.refl _ _).drew).s.idsC.mono ?_); rintro e w1 ⟨v1, rfl, hr1, hs1, hb1⟩; have D1 := Lib.hid ((D.out.later (Below.refl _ _).drew).later hb1); have A3 := Lib.hid ((A2.out.drew).below hb1 A2.out.drew.lt); have V1 := Lib.hid (readsInts_own hr1); have p11 := A3.out.cell 1; have zA1 := A3.out.lt; obtain ⟨q10, q11, q12, q13, hz1R, -⟩ := D1.out.d.cells; clear hr1 hs1)) | (go_at_call 22; (have SI := sameInts_any v1 _ _ _ _ V1.out (readsInts_own D1.out.d.i) (by rw [ids_len]; omega); rw [decide_eq_true rfl] at SI; (with_reducible refine SI.mono ?_); rintro e w2 ⟨rfl, rfl⟩)) | (go_at_call 12; (have LF := D1.out.s.leftC; rw [← HT.out] at LF; (with_reducible refine LF.mono ?_); rintro e w3 ⟨rfl, hs3, hb3⟩; have D3 := Lib.hid (D1.out.later hb3); have A4 := Lib.hid (A3.out.below hb3 A3.out.lt); have p13 := A4.out.cell 1; have zA3 := A4.out.lt; obtain ⟨q30, q31, q32, q33, hz3R, -⟩ := D3.out.d.cells; clear hs3)) | (go_at_call 24; (have SM := dsum_any (by omega) (by omega) D3.out.d; rw [← HT.out] at SM; (with_reducible refine SM.mono ?_); rintro e w4 ⟨rfl, rfl⟩)) | (go_at_call 13; (have HH := D3.out.s.hasC x; rw [← HBH.out] at HH; (with_reducible refine HH.mono ?_); rintro e w5 ⟨rfl, hs5, hb5⟩; have D5 := Lib.hid (D3.out.later hb5); have A6 := Lib.hid (A4.out.below hb5 A4.out.lt); have p15 := A6.out.cell 1; have zA5 := A6.out.lt; obtain ⟨q50, q51, q52, q53, hz5R, -⟩ := D5.out.d.cells; clear hs5)) | (go_at_call 25; (have NH := numHas_any _ _ x _ (readsInts_own D5.out.d.i) (by rw [ids_len]; omega); rw [← HBH.out] at NH; (with_reducible refine NH.mono ?_); rintro e w6 ⟨rfl, rfl⟩)) | (go_at_call 16; ((with_reducible refine D5.out.s.spentC.mono ?_); rintro e w7 ⟨rfl, rfl⟩)) | (go_at_call 15; ((with_reducible refine (meterAll_any _ _ 35 _ D5.out.s.m).mono ?_); rintro e w8 ⟨rfl, hb8⟩; have D8 := Lib.hid (D5.out.later hb8); obtain ⟨q80, q81, q82, q83, hz8R, -⟩ := D8.out.d.cells))); refine hkA hK (h := ?_); clear hK K
        try refine zqP ?_
        refine zqD fun K hK => ?_; go_wp2_with (first | (go_at_call 14; ((with_reducible refine (D.out.later (Below.refl _ _).drew).s.idsC.mono ?_); rintro e w1 ⟨v1, rfl, hr1, hs1, hb1⟩; have D1 := Lib.hid ((D.out.later (Below.refl _ _).drew).later hb1); have A3 := Lib.hid ((A2.out.drew).below hb1 A2.out.drew.lt); have V1 := Lib.hid (readsInts_own hr1); have p11 := A3.out.cell 1; have zA1 := A3.out.lt; obtain ⟨q10, q11, q12, q13, hz1R, -⟩ := D1.out.d.cells; clear hr1 hs1)) | (go_at_call 22; (have SI := sameInts_any v1 _ _ _ _ V1.out (readsInts_own D1.out.d.i) (by rw [ids_len]; omega); rw [decide_eq_true rfl] at SI; (with_reducible refine SI.mono ?_); rintro e w2 ⟨rfl, rfl⟩)) | (go_at_call 12; (have LF := D1.out.s.leftC; rw [← HT.out] at LF; (with_reducible refine LF.mono ?_); rintro e w3 ⟨rfl, hs3, hb3⟩; have D3 := Lib.hid (D1.out.later hb3); have A4 := Lib.hid (A3.out.below hb3 A3.out.lt); have p13 := A4.out.cell 1; have zA3 := A4.out.lt; obtain ⟨q30, q31, q32, q33, hz3R, -⟩ := D3.out.d.cells; clear hs3)) | (go_at_call 24; (have SM := dsum_any (by omega) (by omega) D3.out.d; rw [← HT.out] at SM; (with_reducible refine SM.mono ?_); rintro e w4 ⟨rfl, rfl⟩)) | (go_at_call 13; (have HH := D3.out.s.hasC x; rw [← HBH.out] at HH; (with_reducible refine HH.mono ?_); rintro e w5 ⟨rfl, hs5, hb5⟩; have D5 := Lib.hid (D3.out.later hb5); have A6 := Lib.hid (A4.out.below hb5 A4.out.lt); have p15 := A6.out.cell 1; have zA5 := A6.out.lt; obtain ⟨q50, q51, q52, q53, hz5R, -⟩ := D5.out.d.cells; clear hs5)) | (go_at_call 25; (have NH := numHas_any _ _ x _ (readsInts_own D5.out.d.i) (by rw [ids_len]; omega); rw [← HBH.out] at NH; (with_reducible refine NH.mono ?_); rintro e w6 ⟨rfl, rfl⟩)) | (go_at_call 16; ((with_reducible refine D5.out.s.spentC.mono ?_); rintro e w7 ⟨rfl, rfl⟩)) | (go_at_call 15; ((with_reducible refine (meterAll_any _ _ 35 _ D5.out.s.m).mono ?_); rintro e w8 ⟨rfl, hb8⟩; have D8 := Lib.hid (D5.out.later hb8); obtain ⟨q80, q81, q82, q83, hz8R, -⟩ := D8.out.d.cells))); refine hkA hK (h := ?_); clear hK K
        try refine zqP ?_; refine zqC ?_; refine zqC ?_
        first
          | (refine zqK ?_)
          | (refine zqA ?_)
        try refine zqP ?_
        first
          | (refine zqK ?_)
          | (refine zqA ?_)
        try refine zqP ?_
        first
          | (refine zqK ?_)
          | (refine zqD fun K hK => ?_; go_wp2_with (first | (go_at_call 14; ((with_reducible refine (D.out.later (Below.refl _ _).drew).s.idsC.mono ?_); rintro e w1 ⟨v1, rfl, hr1, hs1, hb1⟩; have D1 := Lib.hid ((D.out.later (Below.refl _ _).drew).later hb1); have A3 := Lib.hid ((A2.out.drew).below hb1 A2.out.drew.lt); have V1 := Lib.hid (readsInts_own hr1); have p11 := A3.out.cell 1; have zA1 := A3.out.lt; obtain ⟨q10, q11, q12, q13, hz1R, -⟩ := D1.out.d.cells; clear hr1 hs1)) | (go_at_call 22; (have SI := sameInts_any v1 _ _ _ _ V1.out (readsInts_own D1.out.d.i) (by rw [ids_len]; omega); rw [decide_eq_true rfl] at SI; (with_reducible refine SI.mono ?_); rintro e w2 ⟨rfl, rfl⟩)) | (go_at_call 12; (have LF := D1.out.s.leftC; rw [← HT.out] at LF; (with_reducible refine LF.mono ?_); rintro e w3 ⟨rfl, hs3, hb3⟩; have D3 := Lib.hid (D1.out.later hb3); have A4 := Lib.hid (A3.out.below hb3 A3.out.lt); have p13 := A4.out.cell 1; have zA3 := A4.out.lt; obtain ⟨q30, q31, q32, q33, hz3R, -⟩ := D3.out.d.cells; clear hs3)) | (go_at_call 24; (have SM := dsum_any (by omega) (by omega) D3.out.d; rw [← HT.out] at SM; (with_reducible refine SM.mono ?_); rintro e w4 ⟨rfl, rfl⟩)) | (go_at_call 13; (have HH := D3.out.s.hasC x; rw [← HBH.out] at HH; (with_reducible refine HH.mono ?_); rintro e w5 ⟨rfl, hs5, hb5⟩; have D5 := Lib.hid (D3.out.later hb5); have A6 := Lib.hid (A4.out.below hb5 A4.out.lt); have p15 := A6.out.cell 1; have zA5 := A6.out.lt; obtain ⟨q50, q51, q52, q53, hz5R, -⟩ := D5.out.d.cells; clear hs5)) | (go_at_call 25; (have NH := numHas_any _ _ x _ (readsInts_own D5.out.d.i) (by rw [ids_len]; omega); rw [← HBH.out] at NH; (with_reducible refine NH.mono ?_); rintro e w6 ⟨rfl, rfl⟩)) | (go_at_call 16; ((with_reducible refine D5.out.s.spentC.mono ?_); rintro e w7 ⟨rfl, rfl⟩)) | (go_at_call 15; ((with_reducible refine (meterAll_any _ _ 35 _ D5.out.s.m).mono ?_); rintro e w8 ⟨rfl, hb8⟩; have D8 := Lib.hid (D5.out.later hb8); obtain ⟨q80, q81, q82, q83, hz8R, -⟩ := D8.out.d.cells))); refine hkA hK (h := ?_); clear hK K)
        try refine zqP ?_
        first
          | (refine zqK ?_)
          | (refine zqD fun K hK => ?_; go_wp2_with (first | (go_at_call 14; ((with_reducible refine (D.out.later (Below.refl _ _).drew).s.idsC.mono ?_); rintro e w1 ⟨v1, rfl, hr1, hs1, hb1⟩; have D1 := Lib.hid ((D.out.later (Below.refl _ _).drew).later hb1); have A3 := Lib.hid ((A2.out.drew).below hb1 A2.out.drew.lt); have V1 := Lib.hid (readsInts_own hr1); have p11 := A3.out.cell 1; have zA1 := A3.out.lt; obtain ⟨q10, q11, q12, q13, hz1R, -⟩ := D1.out.d.cells; clear hr1 hs1)) | (go_at_call 22; (have SI := sameInts_any v1 _ _ _ _ V1.out (readsInts_own D1.out.d.i) (by rw [ids_len]; omega); rw [decide_eq_true rfl] at SI; (with_reducible refine SI.mono ?_); rintro e w2 ⟨rfl, rfl⟩)) | (go_at_call 12; (have LF := D1.out.s.leftC; rw [← HT.out] at LF; (with_reducible refine LF.mono ?_); rintro e w3 ⟨rfl, hs3, hb3⟩; have D3 := Lib.hid (D1.out.later hb3); have A4 := Lib.hid (A3.out.below hb3 A3.out.lt); have p13 := A4.out.cell 1; have zA3 := A4.out.lt; obtain ⟨q30, q31, q32, q33, hz3R, -⟩ := D3.out.d.cells; clear hs3)) | (go_at_call 24; (have SM := dsum_any (by omega) (by omega) D3.out.d; rw [← HT.out] at SM; (with_reducible refine SM.mono ?_); rintro e w4 ⟨rfl, rfl⟩)) | (go_at_call 13; (have HH := D3.out.s.hasC x; rw [← HBH.out] at HH; (with_reducible refine HH.mono ?_); rintro e w5 ⟨rfl, hs5, hb5⟩; have D5 := Lib.hid (D3.out.later hb5); have A6 := Lib.hid (A4.out.below hb5 A4.out.lt); have p15 := A6.out.cell 1; have zA5 := A6.out.lt; obtain ⟨q50, q51, q52, q53, hz5R, -⟩ := D5.out.d.cells; clear hs5)) | (go_at_call 25; (have NH := numHas_any _ _ x _ (readsInts_own D5.out.d.i) (by rw [ids_len]; omega); rw [← HBH.out] at NH; (with_reducible refine NH.mono ?_); rintro e w6 ⟨rfl, rfl⟩)) | (go_at_call 16; ((with_reducible refine D5.out.s.spentC.mono ?_); rintro e w7 ⟨rfl, rfl⟩)) | (go_at_call 15; ((with_reducible refine (meterAll_any _ _ 35 _ D5.out.s.m).mono ?_); rintro e w8 ⟨rfl, hb8⟩; have D8 := Lib.hid (D5.out.later hb8); obtain ⟨q80, q81, q82, q83, hz8R, -⟩ := D8.out.d.cells))); refine hkA hK (h := ?_); clear hK K)
        try refine zqP ?_
        first
          | (refine zqK ?_)
          | (refine zqA ?_)
        try refine zqP ?_; refine zqC ?_; refine zqC ?_
        first
          | (refine zqK ?_)
          | (refine zqA ?_)
        try refine zqP ?_
        first
          | (refine zqK ?_)
          | (refine zqA ?_)
        try refine zqP ?_
        first
          | (refine zqK ?_)
          | (refine zq1 Tryd.underlying3 ?_)
        try refine zqP ?_
        first
          | (refine zqK ?_)
          | (refine zqA ?_)
        try refine zqP ?_
        first
          | (refine zqK ?_)
          | (refine zqA ?_)
        try refine zqP ?_
        first
          | (refine zqK ?_)
          | (refine zqA ?_)
        try refine zqP ?_
        first
          | (refine zqK ?_)
          | (refine zq1 Tryd.underlying37 ?_)
        try refine zqP ?_
        first
          | (refine zqK ?_)
          | (refine zqA ?_)
        try refine zqP ?_
        first
          | (refine zqK ?_)
          | (refine zq1 Tryd.underlying3 ?_)
        try refine zqP ?_
        first
          | (refine zqK ?_)
          | (refine zqD fun K hK => ?_; go_wp2_with (first | (go_at_call 14; ((with_reducible refine (D.out.later (Below.refl _ _).drew).s.idsC.mono ?_); rintro e w1 ⟨v1, rfl, hr1, hs1, hb1⟩; have D1 := Lib.hid ((D.out.later (Below.refl _ _).drew).later hb1); have A3 := Lib.hid ((A2.out.drew).below hb1 A2.out.drew.lt); have V1 := Lib.hid (readsInts_own hr1); have p11 := A3.out.cell 1; have zA1 := A3.out.lt; obtain ⟨q10, q11, q12, q13, hz1R, -⟩ := D1.out.d.cells; clear hr1 hs1)) | (go_at_call 22; (have SI := sameInts_any v1 _ _ _ _ V1.out (readsInts_own D1.out.d.i) (by rw [ids_len]; omega); rw [decide_eq_true rfl] at SI; (with_reducible refine SI.mono ?_); rintro e w2 ⟨rfl, rfl⟩)) | (go_at_call 12; (have LF := D1.out.s.leftC; rw [← HT.out] at LF; (with_reducible refine LF.mono ?_); rintro e w3 ⟨rfl, hs3, hb3⟩; have D3 := Lib.hid (D1.out.later hb3); have A4 := Lib.hid (A3.out.below hb3 A3.out.lt); have p13 := A4.out.cell 1; have zA3 := A4.out.lt; obtain ⟨q30, q31, q32, q33, hz3R, -⟩ := D3.out.d.cells; clear hs3)) | (go_at_call 24; (have SM := dsum_any (by omega) (by omega) D3.out.d; rw [← HT.out] at SM; (with_reducible refine SM.mono ?_); rintro e w4 ⟨rfl, rfl⟩)) | (go_at_call 13; (have HH := D3.out.s.hasC x; rw [← HBH.out] at HH; (with_reducible refine HH.mono ?_); rintro e w5 ⟨rfl, hs5, hb5⟩; have D5 := Lib.hid (D3.out.later hb5); have A6 := Lib.hid (A4.out.below hb5 A4.out.lt); have p15 := A6.out.cell 1; have zA5 := A6.out.lt; obtain ⟨q50, q51, q52, q53, hz5R, -⟩ := D5.out.d.cells; clear hs5)) | (go_at_call 25; (have NH := numHas_any _ _ x _ (readsInts_own D5.out.d.i) (by rw [ids_len]; omega); rw [← HBH.out] at NH; (with_reducible refine NH.mono ?_); rintro e w6 ⟨rfl, rfl⟩)) | (go_at_call 16; ((with_reducible refine D5.out.s.spentC.mono ?_); rintro e w7 ⟨rfl, rfl⟩)) | (go_at_call 15; ((with_reducible refine (meterAll_any _ _ 35 _ D5.out.s.m).mono ?_); rintro e w8 ⟨rfl, hb8⟩; have D8 := Lib.hid (D5.out.later hb8); obtain ⟨q80, q81, q82, q83, hz8R, -⟩ := D8.out.d.cells))); refine hkA hK (h := ?_); clear hK K)
        try refine zqP ?_
        first
          | (refine zqK ?_)
          | (refine zqD fun K hK => ?_; go_wp2_with (first | (go_at_call 14; ((with_reducible refine (D.out.later (Below.refl _ _).drew).s.idsC.mono ?_); rintro e w1 ⟨v1, rfl, hr1, hs1, hb1⟩; have D1 := Lib.hid ((D.out.later (Below.refl _ _).drew).later hb1); have A3 := Lib.hid ((A2.out.drew).below hb1 A2.out.drew.lt); have V1 := Lib.hid (readsInts_own hr1); have p11 := A3.out.cell 1; have zA1 := A3.out.lt; obtain ⟨q10, q11, q12, q13, hz1R, -⟩ := D1.out.d.cells; clear hr1 hs1)) | (go_at_call 22; (have SI := sameInts_any v1 _ _ _ _ V1.out (readsInts_own D1.out.d.i) (by rw [ids_len]; omega); rw [decide_eq_true rfl] at SI; (with_reducible refine SI.mono ?_); rintro e w2 ⟨rfl, rfl⟩)) | (go_at_call 12; (have LF := D1.out.s.leftC; rw [← HT.out] at LF; (with_reducible refine LF.mono ?_); rintro e w3 ⟨rfl, hs3, hb3⟩; have D3 := Lib.hid (D1.out.later hb3); have A4 := Lib.hid (A3.out.below hb3 A3.out.lt); have p13 := A4.out.cell 1; have zA3 := A4.out.lt; obtain ⟨q30, q31, q32, q33, hz3R, -⟩ := D3.out.d.cells; clear hs3)) | (go_at_call 24; (have SM := dsum_any (by omega) (by omega) D3.out.d; rw [← HT.out] at SM; (with_reducible refine SM.mono ?_); rintro e w4 ⟨rfl, rfl⟩)) | (go_at_call 13; (have HH := D3.out.s.hasC x; rw [← HBH.out] at HH; (with_reducible refine HH.mono ?_); rintro e w5 ⟨rfl, hs5, hb5⟩; have D5 := Lib.hid (D3.out.later hb5); have A6 := Lib.hid (A4.out.below hb5 A4.out.lt); have p15 := A6.out.cell 1; have zA5 := A6.out.lt; obtain ⟨q50, q51, q52, q53, hz5R, -⟩ := D5.out.d.cells; clear hs5)) | (go_at_call 25; (have NH := numHas_any _ _ x _ (readsInts_own D5.out.d.i) (by rw [ids_len]; omega); rw [← HBH.out] at NH; (with_reducible refine NH.mono ?_); rintro e w6 ⟨rfl, rfl⟩)) | (go_at_call 16; ((with_reducible refine D5.out.s.spentC.mono ?_); rintro e w7 ⟨rfl, rfl⟩)) | (go_at_call 15; ((with_reducible refine (meterAll_any _ _ 35 _ D5.out.s.m).mono ?_); rintro e w8 ⟨rfl, hb8⟩; have D8 := Lib.hid (D5.out.later hb8); obtain ⟨q80, q81, q82, q83, hz8R, -⟩ := D8.out.d.cells))); refine hkA hK (h := ?_); clear hK K)
        try refine zqP ?_
        first
          | (refine zqK ?_)
          | (refine zqA ?_)
        try refine zqP ?_; refine zqC ?_; refine zqC ?_
        first
          | (refine zqK ?_)
          | (refine zqA ?_)
        try refine zqP ?_
        first
          | (refine zqK ?_)
          | (refine zqA ?_)
        try refine zqP ?_
        first
          | (refine zqK ?_)
          | (refine zqA ?_)
        try refine zqP ?_
        first
          | (refine zqK ?_)
          | (refine zqA ?_)
        try refine zqP ?_
        first
          | (refine zqK ?_)
          | (refine zq1 Tryd.underlying3 ?_)
        try refine zqP ?_
        first
          | (refine zqK ?_)
          | (refine zqD fun K hK => ?_; go_wp2_with (first | (go_at_call 14; ((with_reducible refine (D.out.later (Below.refl _ _).drew).s.idsC.mono ?_); rintro e w1 ⟨v1, rfl, hr1, hs1, hb1⟩; have D1 := Lib.hid ((D.out.later (Below.refl _ _).drew).later hb1); have A3 := Lib.hid ((A2.out.drew).below hb1 A2.out.drew.lt); have V1 := Lib.hid (readsInts_own hr1); have p11 := A3.out.cell 1; have zA1 := A3.out.lt; obtain ⟨q10, q11, q12, q13, hz1R, -⟩ := D1.out.d.cells; clear hr1 hs1)) | (go_at_call 22; (have SI := sameInts_any v1 _ _ _ _ V1.out (readsInts_own D1.out.d.i) (by rw [ids_len]; omega); rw [decide_eq_true rfl] at SI; (with_reducible refine SI.mono ?_); rintro e w2 ⟨rfl, rfl⟩)) | (go_at_call 12; (have LF := D1.out.s.leftC; rw [← HT.out] at LF; (with_reducible refine LF.mono ?_); rintro e w3 ⟨rfl, hs3, hb3⟩; have D3 := Lib.hid (D1.out.later hb3); have A4 := Lib.hid (A3.out.below hb3 A3.out.lt); have p13 := A4.out.cell 1; have zA3 := A4.out.lt; obtain ⟨q30, q31, q32, q33, hz3R, -⟩ := D3.out.d.cells; clear hs3)) | (go_at_call 24; (have SM := dsum_any (by omega) (by omega) D3.out.d; rw [← HT.out] at SM; (with_reducible refine SM.mono ?_); rintro e w4 ⟨rfl, rfl⟩)) | (go_at_call 13; (have HH := D3.out.s.hasC x; rw [← HBH.out] at HH; (with_reducible refine HH.mono ?_); rintro e w5 ⟨rfl, hs5, hb5⟩; have D5 := Lib.hid (D3.out.later hb5); have A6 := Lib.hid (A4.out.below hb5 A4.out.lt); have p15 := A6.out.cell 1; have zA5 := A6.out.lt; obtain ⟨q50, q51, q52, q53, hz5R, -⟩ := D5.out.d.cells; clear hs5)) | (go_at_call 25; (have NH := numHas_any _ _ x _ (readsInts_own D5.out.d.i) (by rw [ids_len]; omega); rw [← HBH.out] at NH; (with_reducible refine NH.mono ?_); rintro e w6 ⟨rfl, rfl⟩)) | (go_at_call 16; ((with_reducible refine D5.out.s.spentC.mono ?_); rintro e w7 ⟨rfl, rfl⟩)) | (go_at_call 15; ((with_reducible refine (meterAll_any _ _ 35 _ D5.out.s.m).mono ?_); rintro e w8 ⟨rfl, hb8⟩; have D8 := Lib.hid (D5.out.later hb8); obtain ⟨q80, q81, q82, q83, hz8R, -⟩ := D8.out.d.cells))); refine hkA hK (h := ?_); clear hK K)
        try refine zqP ?_
        first
          | (refine zqK ?_)
          | (refine zqA ?_)
        try refine zqP ?_; refine zqC ?_; refine zqC ?_
        first
          | (refine zqK ?_)
          | (refine zqA ?_)
        try refine zqP ?_
        first
          | (refine zqK ?_)
          | (refine zqA ?_)
        try refine zqP ?_
        first
          | (refine zqK ?_)
          | (refine zqA ?_)
        try refine zqP ?_
        first
          | (refine zqK ?_)
          | (refine zqA ?_)
        try refine zqP ?_
        first
          | (refine zqK ?_)
          | (refine zq1 Tryd.underlying3 ?_)
        try refine zqP ?_
        first
          | (refine zqK ?_)
          | (refine zqD fun K hK => ?_; go_wp2_with (first | (go_at_call 14; ((with_reducible refine (D.out.later (Below.refl _ _).drew).s.idsC.mono ?_); rintro e w1 ⟨v1, rfl, hr1, hs1, hb1⟩; have D1 := Lib.hid ((D.out.later (Below.refl _ _).drew).later hb1); have A3 := Lib.hid ((A2.out.drew).below hb1 A2.out.drew.lt); have V1 := Lib.hid (readsInts_own hr1); have p11 := A3.out.cell 1; have zA1 := A3.out.lt; obtain ⟨q10, q11, q12, q13, hz1R, -⟩ := D1.out.d.cells; clear hr1 hs1)) | (go_at_call 22; (have SI := sameInts_any v1 _ _ _ _ V1.out (readsInts_own D1.out.d.i) (by rw [ids_len]; omega); rw [decide_eq_true rfl] at SI; (with_reducible refine SI.mono ?_); rintro e w2 ⟨rfl, rfl⟩)) | (go_at_call 12; (have LF := D1.out.s.leftC; rw [← HT.out] at LF; (with_reducible refine LF.mono ?_); rintro e w3 ⟨rfl, hs3, hb3⟩; have D3 := Lib.hid (D1.out.later hb3); have A4 := Lib.hid (A3.out.below hb3 A3.out.lt); have p13 := A4.out.cell 1; have zA3 := A4.out.lt; obtain ⟨q30, q31, q32, q33, hz3R, -⟩ := D3.out.d.cells; clear hs3)) | (go_at_call 24; (have SM := dsum_any (by omega) (by omega) D3.out.d; rw [← HT.out] at SM; (with_reducible refine SM.mono ?_); rintro e w4 ⟨rfl, rfl⟩)) | (go_at_call 13; (have HH := D3.out.s.hasC x; rw [← HBH.out] at HH; (with_reducible refine HH.mono ?_); rintro e w5 ⟨rfl, hs5, hb5⟩; have D5 := Lib.hid (D3.out.later hb5); have A6 := Lib.hid (A4.out.below hb5 A4.out.lt); have p15 := A6.out.cell 1; have zA5 := A6.out.lt; obtain ⟨q50, q51, q52, q53, hz5R, -⟩ := D5.out.d.cells; clear hs5)) | (go_at_call 25; (have NH := numHas_any _ _ x _ (readsInts_own D5.out.d.i) (by rw [ids_len]; omega); rw [← HBH.out] at NH; (with_reducible refine NH.mono ?_); rintro e w6 ⟨rfl, rfl⟩)) | (go_at_call 16; ((with_reducible refine D5.out.s.spentC.mono ?_); rintro e w7 ⟨rfl, rfl⟩)) | (go_at_call 15; ((with_reducible refine (meterAll_any _ _ 35 _ D5.out.s.m).mono ?_); rintro e w8 ⟨rfl, hb8⟩; have D8 := Lib.hid (D5.out.later hb8); obtain ⟨q80, q81, q82, q83, hz8R, -⟩ := D8.out.d.cells))); refine hkA hK (h := ?_); clear hK K)
        try refine zqP ?_
        first
          | (refine zqK ?_)
          | (refine zqA ?_)
        try refine zqP ?_
        first
          | (refine zqK ?_)
          | (refine zqA ?_)
        try refine zqP ?_; refine zqC ?_
        refine seq_nil ?_
        go_wp2
        go_roundg (gk - 1)
        case measure => omega
        case rel => exact ⟨i + 1, nm2, js2, g2, sp2, _, _, by omega, by go_num, D8.out, by omega, by omega⟩
    · obtain rfl : i = n1 := by omega
      have NU := Lib.hid (fun (w' : World) (hb : Below w0.heap.size w0 w') => num_any E 4 (by decide) w' (HE.out.below hb))
      obtain ⟨bal, hw⟩ := S.out.s.s
      have SN := sadd_nil (-9) hw ((HEC.out.below BW0.out) 4 (by decide))
      rw [show errN E 4 = .iface 112 (.pointer (some (E 4))) from rfl] at SN NU
      have SN := Lib.hid SN
      simp only [show ((4 : Nat) : Int) = 4 from rfl] at NU
      clear hw
      go_wp2_with (first
        | (go_at_call 9; ((with_reducible refine SN.out.mono ?_); rintro e w3 ⟨rfl, hb3⟩; have B3 := Lib.hid (BW0.out.trans (hb3.mono BW0.out.size)); clear hb3))
        | (go_at_call 18; ((with_reducible refine (NU.out _ B3.out).mono ?_); rintro e w4 ⟨rfl, hb4⟩; have B4 := Lib.hid (B3.out.trans (hb4.mono B3.out.size)); clear hb4)))
      go_ret
      exact ⟨rfl, B4.out⟩
end Go.Proofs.YtolhmibejhldkaaDoor
