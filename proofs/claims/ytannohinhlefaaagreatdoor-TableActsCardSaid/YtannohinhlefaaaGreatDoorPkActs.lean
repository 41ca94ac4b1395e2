/- Texts joined: SortP Sort LeastD Acts ActsDo ActsDo3 ActsDo4 ActsDo4n ActsDo5 ActsSpot ActsSpot6 ActsSpot7 ActsSpot8 ActsDo6 ActsAll. No condition but those that stand within. -/
import Derived.Deep.DeepCutAuto
import Derived.Test.YtannohinhlefaaaGreatDoorPkSwar
import Derived.Test.YtannohinhlefaaaGreatDoorPkMeter
import Derived.Test.YtannohinhlefaaaGreatDoorPkErrs
import Derived.Test.YtannohinhlefaaaGreatDoorPkGroup
import Derived.Test.YtannohinhlefaaaGreatDoorPkTab
import Derived.Test.YtannohinhlefaaaGreatDoorPkTab2
import Derived.Test.YtannohinhlefaaaGreatDoorPkTab3
import Derived.Test.YtannohinhlefaaaGreatDoorPkTake
import Derived.Test.YtannohinhlefaaaGreatDoorPkTabM
import Derived.Test.YtannohinhlefaaaGreatDoorPkEvac
import Derived.Test.YtannohinhlefaaaGreatDoorPkSound
import Derived.Test.YtannohinhlefaaaGreatDoorPkRef09
import Derived.Test.YtannohinhlefaaaGreatDoorPkEvac2
import Derived.Test.YtannohinhlefaaaGreatDoorPkEvac3
import Derived.Test.YtannohinhlefaaaGreatDoorPkSound2
import Derived.Test.YtannohinhlefaaaGreatDoorPkSound3
set_option linter.unusedVariables false
set_option linter.unusedSimpArgs false
namespace Go.Proofs.YtannohinhlefaaaGreatDoor
def insE (e : EntS) : List EntS → List EntS
  | [] => [e]
  | b :: l => if lessB e b = true then e :: b :: l else b :: insE e l
def sortE (l : List EntS) : List EntS := l.foldl (fun acc e => insE e acc) []
theorem insE_length (e : EntS) : ∀ l, (insE e l).length = l.length + 1
  | [] => rfl
  | b :: l => by
    unfold insE
    split
    · rfl
    · simp [insE_length e l]
theorem sortE_snoc (l : List EntS) (e : EntS) : sortE (l ++ [e]) = insE e (sortE l) := by unfold sortE; rw [List.foldl_append]; rfl
theorem sortE_take {l : List EntS} {j : Nat} (h : j < l.length) : sortE (l.take (j + 1)) = insE l[j] (sortE (l.take j)) := by rw [← sortE_snoc, List.take_append_getElem h]
theorem foldIns_length (l : List EntS) : ∀ acc : List EntS, (l.foldl (fun acc e => insE e acc) acc).length = acc.length + l.length := by
  induction l with
  | nil => intro acc; simp
  | cons e l ih => intro acc; rw [List.foldl_cons, ih, insE_length, List.length_cons]; omega
theorem sortE_length (l : List EntS) : (sortE l).length = l.length := by unfold sortE; rw [foldIns_length]; simp
theorem insE_at {e : EntS} : ∀ {l : List EntS} {k : Nat}, k ≤ l.length → (∀ i (hi : i < l.length), i < k → lessB e l[i] = false) → (∀ h : k < l.length, lessB e l[k] = true) → insE e l = l.take k ++ ([e] ++ l.drop k)
  | [], k, hk, _, _ => by obtain rfl : k = 0 := by simpa using hk
                          rfl
  | b :: l, 0, _, _, hs => by
    have : lessB e b = true := hs (by simp)
    unfold insE
    rw [if_pos this]; rfl
  | b :: l, k + 1, hk, hm, hs => by
    have h0 : lessB e b = false := hm 0 (by simp) (by omega)
    unfold insE
    rw [h0, if_neg (by decide)]
    rw [insE_at (l := l) (k := k) (by simpa using hk) (fun i hi hik => hm (i + 1) (by simpa using hi) (by omega)) (fun h => hs (by simpa using h))]
    rfl
theorem less_trans {a b c : EntS} (h1 : lessB a b = true) (h2 : lessB b c = true) : lessB a c = true := by
  unfold lessB at *
  simp only [decide_eq_true_eq] at *
  omega
def firstE (l : List EntS) (f : EntS) : Option EntS := l.find? (fun e => !lessB e f)
theorem firstE_ins (f e : EntS) : ∀ l, firstE (insE e l) f = if lessB e f = true then firstE l f else (match firstE l f with | none => some e | some a => if lessB e a = true then some e else some a)
  | [] => by
    unfold insE firstE
    cases h : lessB e f <;> simp [h]
  | b :: l => by
    have ih := firstE_ins f e l
    unfold firstE at *
    unfold insE
    by_cases hb : lessB e b = true
    · rw [if_pos hb]
      by_cases hf : lessB e f = true
      · rw [if_pos hf, List.find?_cons]
        simp [hf]
      · have hf' : lessB e f = false := by simpa using hf
        have hbf : lessB b f = false := by
          cases h : lessB b f with
          | false => rfl
          | true => exact absurd (less_trans hb h) hf
        rw [if_neg hf, List.find?_cons, List.find?_cons]
        simp [hf', hbf, hb]
    · rw [if_neg hb, List.find?_cons, List.find?_cons]
      cases hbf : lessB b f with
      | false => simp [hb]
      | true => simp only [Bool.not_true]; exact ih
def FirstI (s : List EntS) (f : EntS) (a : EntS × Bool) : Prop := firstE s f = (if a.2 = true then some a.1 else none) ∧ (a.2 = false → a.1 = EntS.zero)
theorem FirstI.step {s : List EntS} {f : EntS} {a : EntS × Bool} (h : FirstI s f a) (e : EntS) : FirstI (insE e s) f (leastStep f a e) := by
  obtain ⟨h1, h2⟩ := h
  unfold FirstI
  rw [firstE_ins, h1]
  unfold leastStep
  obtain ⟨x, b⟩ := a
  cases hf : lessB e f <;> cases b <;> simp_all
  cases hx : lessB e x <;> simp
theorem FirstI.all {f : EntS} (l : List EntS) : ∀ (s : List EntS) (a : EntS × Bool), FirstI s f a → FirstI (l.foldl (fun acc e => insE e acc) s) f (l.foldl (leastStep f) a) := by
  induction l with
  | nil => intro s a h; exact h
  | cons e l ih => intro s a h; exact ih _ _ (h.step e)
theorem least_first (l : List EntS) (f : EntS) : FirstI (sortE l) f (TabS.leastL l f) := FirstI.all l [] (EntS.zero, false) ⟨rfl, fun _ => rfl⟩
end Go.Proofs.YtannohinhlefaaaGreatDoor

namespace Go.Proofs.YtannohinhlefaaaGreatDoor
open Go.RowKit Go.Proofs
theorem infoEs : (Tryz.prog.info? 47).map (fun i => (i.zero, i.size, i.bytes)) = some (some (.agg #[.int .u64 0, .int .u64 0, .int .u64 0]), 3, 24) := by kernel_rfl
theorem entV_oneS (l : List EntS) : ∀ u ∈ entV l, u.oneCell' = true := by
  intro u hu
  unfold entV at hu
  simp only [List.mem_flatMap, e3, List.mem_cons, List.not_mem_nil, or_false] at hu
  obtain ⟨e, -, rfl | rfl | rfl⟩ := hu <;> rfl
theorem Chg.of_grownS {w w' : World} {row : Option Nat} (hg : w.grownBy w' row) : Chg (fun b => row = some b) w w' := ⟨hg.os, hg.tape, hg.output, hg.size, fun k hk hx => hg.block k hk (fun e => hx e.symm)⟩
theorem wp_append_entsS {w : World} {o : Oper} {a : Act} {K : Act → World → Prop} {Q : Exit → Act → World → Prop} (s x : Operand)
    (ho : o.op = .call { callee := .builtin .append, args := #[s, x], argTypes := #[68, 68] })
    (base : Nat) (v : Value) (l1 : List EntS) (n1 : Nat) (hn1 : n1 = l1.length) (hs : a.eval s = v) (hown : w.ownsRow base 47 3 v n1 (entV l1))
    (ad : Addr) (m c : Nat) (l2 : List EntS) (hm : l2.length = m) (hx : a.eval x = .slice (some ad) m c) (hc : ∀ j u, (entV l2)[j]? = some u → w.cell? (ad.add j) = some u) (hlen : n1 + m ≤ 1000000) (hbase : base ≤ w.heap.size)
    (h : ∀ v' w', w'.ownsRow base 47 3 v' (n1 + m) (entV (l1 ++ l2)) → Chg (fun b => base ≤ b) w w' → w.grownBy w' v.ownBlock → K (a.put o.dst v') w') : o.wp Tryz.prog a w K Q := by
  obtain ⟨i0, hi, hz0, hz1, hz2⟩ := info_parts infoEs
  subst hn1
  refine wp_append_own _ _ _ 68 ho base 47 i0 (.agg #[.int .u64 0, .int .u64 0, .int .u64 0]) 3 24 Tryz.underlying68 hi hz0 hz1 hz2 rfl (by decide) _ _ _ hs hown ad m c (entV l2) hx (by rw [entV_length, hm]) hc (entV_oneS _) (by unfold maxLen; omega) (by omega) hbase ?_
  intro v' w' h1 h2 _
  exact h v' w' (by rw [entV_append]; exact h1) ((Chg.of_grownS h2).mono (fun b _ e => (hown.lt b e).1)) h2
theorem blk_cells3 {w : World} {B : Nat} {T : TypeId} {x y z : Value} (h : Blk w B T #[x, y, z]) : ∀ j u, [x, y, z][j]? = some u → w.cell? ((⟨B, 0, none⟩ : Addr).add j) = some u := by
  intro j u hj
  obtain ⟨h0, h1, h2⟩ := cells3 h
  match j, hj with
  | 0, e => simp only [List.getElem?_cons_zero, Option.some.injEq] at e; subst e; exact h0
  | 1, e => simp only [List.getElem?_cons_succ, List.getElem?_cons_zero, Option.some.injEq] at e; subst e; simpa [Addr.add] using h1
  | 2, e => simp only [List.getElem?_cons_succ, List.getElem?_cons_zero, Option.some.injEq] at e; subst e; simpa [Addr.add] using h2
  | n + 3, e => simp at e
theorem sliceE_to (b o n cap i : Nat) (h : i ≤ cap) (w : World) : (Instr.slice 68 (.slice (some ⟨b, o, none⟩) n cap) none (some (.int .i64 (i : Int))) none).run Tryz.prog w = .ok (.slice (some ⟨b, o, none⟩) i cap) w := by
  have hsz := Tryz.sizeOf47 w
  have hb : (Instr.sliceBounds true n cap none (some (.int .i64 (i : Int))) none).run Tryz.prog w = .ok (0, i, cap) w := by
    simp [Instr.sliceBounds, go_sem, h]
    try omega
  simp only [Instr.slice, Sem.run_bind, run_underlying Tryz.underlying68, Result.andThen, hb, hsz, Sem.run_pure]
  by_cases hc : cap = 0
  · subst hc
    obtain rfl : i = 0 := by omega
    rfl
  · rw [if_neg (by omega)]
    simp [Addr.add]
theorem sliceE_from (b n cap i : Nat) (h : i ≤ n) (hn : n ≤ cap) (w : World) : (Instr.slice 68 (.slice (some ⟨b, 0, none⟩) n cap) (some (.int .i64 (i : Int))) none none).run Tryz.prog w = .ok (.slice (some (if cap = i then ⟨b, 0, none⟩ else ⟨b, i * 3, none⟩)) (n - i) (cap - i)) w := by
  have hsz := Tryz.sizeOf47 w
  have hb : (Instr.sliceBounds true n cap (some (.int .i64 (i : Int))) none none).run Tryz.prog w = .ok (i, n, cap) w := by
    simp [Instr.sliceBounds, go_sem, h]
    try omega
  by_cases hc : cap = i
  · simp only [Instr.slice, Sem.run_bind, run_underlying Tryz.underlying68, Result.andThen, hb, hsz, Sem.run_pure]; rw [if_pos hc, if_pos hc]
  · simp only [Instr.slice, Sem.run_bind, run_underlying Tryz.underlying68, Result.andThen, hb, hsz, Sem.run_pure]; rw [if_neg hc, if_neg hc]; simp [Addr.add]; try omega
theorem ownsRow_at {w : World} {base size n g cap : Nat} {e : TypeId} {xs : List Value} (h : w.ownsRow base e size (.slice (some ⟨g, 0, none⟩) n cap) n xs) : base ≤ g ∧ g < w.heap.size ∧ n ≤ cap := by
  rcases h.2 with ⟨e, -⟩ | ⟨g', cap', cur, e, hb, hg, hc, -⟩
  · cases e
  · cases e
    exact ⟨hb, (Array.getElem?_eq_some_iff.1 hg).1, hc⟩
theorem ownsRow_some {w : World} {base size n : Nat} {e : TypeId} {v : Value} {xs : List Value} (h : w.ownsRow base e size v n xs) (hn : 1 ≤ n) : ∃ g cap, v = .slice (some ⟨g, 0, none⟩) n cap := by
  rcases h.2 with ⟨e, h0⟩ | ⟨g', cap', cur, e, hb, hg, hc, -⟩
  · omega
  · exact ⟨_, _, e⟩
theorem entV_take (l : List EntS) (k i : Nat) (x : Value) (h : (entV (l.take k))[i]? = some x) : (entV l)[i]? = some x := by
  have e : entV l = entV (l.take k) ++ entV (l.drop k) := by rw [← entV_append, List.take_append_drop]
  rw [e, List.getElem?_append_left (List.getElem?_eq_some_iff.1 h).1]; exact h
theorem entV_drop (l : List EntS) (k i : Nat) (hk : k ≤ l.length) (x : Value) (h : (entV (l.drop k))[i]? = some x) : (entV l)[k * 3 + i]? = some x := by
  have e : entV l = entV (l.take k) ++ entV (l.drop k) := by rw [← entV_append, List.take_append_drop]
  have hl : (entV (l.take k)).length = k * 3 := by rw [entV_length, List.length_take, Nat.min_eq_left hk]
  rw [e, List.getElem?_append_right (by omega), hl, Nat.add_sub_cancel_left]; exact h
set_option maxRecDepth 100000 in
set_option maxHeartbeats 8000000 in
theorem sorted_any (v : Value) (l : List EntS) (base : Nat) (w : World) (h : w.ownsRow base 47 3 v l.length (entV l)) (hl : l.length ≤ 1000) :
    Calls Tryz.prog 85 #[v] w fun e w' => ∃ v', e = .returned v' ∧ w'.ownsRow w.heap.size 47 3 v' (sortE l).length (entV (sortE l)) ∧ Below w.heap.size w w' := by
  obtain ⟨a0, cap0, rfl⟩ := ownsRow_slice h
  have HL := Lib.hid h
  clear h
  go_enter Tryz.func85, Tryz.ntmps85
  go_wp2
  go_loopw [10, 3] (fun v10 v3 wr => ∃ j : Nat, j ≤ l.length ∧ v10 = .int .i64 (j : Int) ∧ ∃ g cap, v3 = .slice (some ⟨g, 0, none⟩) j cap ∧ wr.ownsRow w.heap.size 47 3 v3 j (entV (sortE (l.take j))) ∧ Below w.heap.size w wr) (fun v10 _ _ => l.length - (intOf v10).toNat)
  case atStart => exact ⟨0, Nat.zero_le _, rfl, w.heap.size, 0, rfl, ⟨rfl, .inr ⟨w.heap.size, 0, #[], rfl, Nat.le_refl _, Blk.new _ _ _, by simp, by decide, rfl, by simp [sortE, entV]⟩⟩, by go_grown⟩
  case round =>
    obtain ⟨j, hj, rfl, g, cap, rfl, hrow, hB⟩ := hrel
    have KR := Lib.hid hrow
    have KB := Lib.hid hB
    have hwz := hB.size
    clear hrow hB
    by_cases hlt : j < l.length
    · have hltI : (j : Int) < (l.length : Int) := by omega
      obtain ⟨ea', ecap', e, -, hrow⟩ := ents_own (ownsRow_later HL.out (KB.out.mono (Nat.le_refl _)))
      cases e
      obtain ⟨b, rfl, hbb, hbz, hcl⟩ := hrow (fun e => by rw [e] at hlt; exact absurd hlt (by simp))
      obtain ⟨g0, g1, g2⟩ := hcl j hlt
      have HST := Lib.hid (sortE_take hlt)
      have hlen : (sortE (l.take j)).length = j := by rw [sortE_length, List.length_take]; omega
      generalize l[j] = en at g0 g1 g2 HST
      generalize sortE (l.take j) = out at *
      clear hcl hrow
      go_upto_region 5 with (fail)
      refine wp_at (fun w2 hw2 => ?_)
      have hb2 : Below wr.heap.size wr w2 := by rw [hw2]; go_grown
      have B2 := Lib.hid (KB.out.trans (hb2.mono KB.out.size))
      have R2 := Lib.hid (ownsRow_later KR.out hb2)
      have P2 := Lib.hid (show Blk w2 wr.heap.size 47 #[.int .u64 en.key, .int .u64 en.val, .int .u64 en.hash] by rw [hw2]; exact Blk.new _ _ _)
      obtain ⟨eb, heb⟩ : ∃ eb, eb = wr.heap.size := ⟨_, rfl⟩
      rw [← heb] at P2 ⊢
      replace hw2 := Lib.hid hw2
      have HEB := Lib.hid heb
      have hebw : w.heap.size ≤ eb := by omega
      clear g0 g1 g2 hbz hb2 heb KR
      go_wp2
      go_loopw [6] (fun v6 wx => ∃ k : Nat, k ≤ j ∧ v6 = .int .i64 (k : Int) ∧ Below w2.heap.size w2 wx ∧ ∀ i (hi : i < out.length), i < k → lessB en out[i] = false) (fun v6 _ => j - (intOf v6).toNat)
      case atStart => exact ⟨0, Nat.zero_le _, rfl, Below.refl _ _, fun i hi h => by omega⟩
      case round =>
        obtain ⟨k, hk, rfl, hB, hcl⟩ := hrel
        have KC := Lib.hid hcl
        have KB2 := Lib.hid hB
        have KR := Lib.hid (ownsRow_later R2.out hB)
        have KP := Lib.hid (P2.out.below hB P2.out.lt)
        have KW := Lib.hid (B2.out.trans (hB.mono B2.out.size))
        obtain ⟨p0, p1, p2⟩ := cells3 KP.out
        have zP := KP.out.lt
        have hzx := hB.size
        clear hcl hB
        obtain ⟨st, hst⟩ : ∃ st : Bool, st = decide (∃ h : k < out.length, lessB en out[k] = false) := ⟨_, rfl⟩
        obtain ⟨wA, hwA⟩ : ∃ wA, wA = wr := ⟨_, rfl⟩
        subst hwA
        go_upto_region 6 with (fail)
        go_cut [26] (fun v26 wx => v26 = .bool st ∧ Below wA.heap.size wA wx)
        case first =>
          by_cases hko : k < j
          · have hkI : (k : Int) < (j : Int) := by omega
            obtain ⟨ga, gcap, e, -, hrow⟩ := ents_own KR.out
            cases e
            obtain ⟨gb, e, hgb, hgz, hgc⟩ := hrow (fun e => by rw [e] at hlen; simp at hlen; omega)
            cases e
            obtain ⟨c0, c1, c2⟩ := hgc k (by omega)
            have hst2 : st = !lessB en (out[k]'(by omega)) := by
              rw [hst]
              cases hle : lessB en (out[k]'(by omega)) with
              | true => simp [hle]
              | false => simp [hle]; omega
            generalize (out[k]'(by omega)) = ok at c0 c1 c2 hst2
            have BF := Lib.hid (fun (w' : World) => before_any en ok w')
            have HS := Lib.hid hst2
            clear hst hst2 hrow hgc
            generalize lessB en ok = lb at BF HS
            have zeb : eb < wA.heap.size := zP
            refine wp_region_seq (fun _ => False) #[⟨0, 0, 16384, 64, 0⟩, ⟨0, 0, 32768, 8, 0⟩, ⟨2, 2, 65536, 32768, 0⟩, ⟨5, 7, 131072, 81920, 0⟩, ⟨8, 15, 262144, 131072, 0⟩, ⟨16, 31, 524288, 262176, 1⟩, ⟨16, 31, 1048576, 262152, 0⟩, ⟨16, 31, 2097152, 262208, 0⟩, ⟨208, 223, 4194304, 3407872, 0⟩, ⟨272, 479, 8388608, 4456448, 1⟩, ⟨560, 1023, 16777216, 9175040, 3⟩, ⟨1040, 2047, 33554432, 17039360, 0⟩, ⟨2064, 4095, 67108864, 33816576, 0⟩] 544 [(0, 0), (1, 0), (2, 0), (3, 0), (4, 0), (5, 1), (6, 0), (7, 0), (8, 0), (9, 1), (10, 3), (11, 0), (12, 0)] (by kernel_rfl) (by kernel_rfl) (by kernel_rfl) (by kernel_rfl) (by kernel_rfl) (by kernel_rfl) (fun c a d v w h => by cases d <;> exact h) ?_
            refine seq_calcA (h := ?_)
            try simp only [Act.put, List.setIfInBounds_toArray, List.set_cons_zero, List.set_cons_succ]
            refine seq_calcA (h := ?_)
            try simp only [Act.put, List.setIfInBounds_toArray, List.set_cons_zero, List.set_cons_succ]
            refine seq_calcA (h := ?_)
            try simp only [Act.put, List.setIfInBounds_toArray, List.set_cons_zero, List.set_cons_succ]
            refine seq_calcA (h := ?_)
            try simp only [Act.put, List.setIfInBounds_toArray, List.set_cons_zero, List.set_cons_succ]
            refine seq_calcA (h := ?_)
            try simp only [Act.put, List.setIfInBounds_toArray, List.set_cons_zero, List.set_cons_succ]
            first
              | (refine seq_skipA (h := ?_))
              | (refine seq_loadsA [_, _, _] (hu := Tryz.underlying47) (h := ?_))
            try simp only [Act.put, List.setIfInBounds_toArray, List.set_cons_zero, List.set_cons_succ]
            first
              | (refine seq_skipA (h := ?_))
              | (refine seq_calcA (h := ?_))
            try simp only [Act.put, List.setIfInBounds_toArray, List.set_cons_zero, List.set_cons_succ]
            first
              | (refine seq_skipA (h := ?_))
              | (refine seq_calcA (h := ?_))
            try simp only [Act.put, List.setIfInBounds_toArray, List.set_cons_zero, List.set_cons_succ]
            first
              | (refine seq_skipA (h := ?_))
              | (refine seq_calcA (h := ?_))
            try simp only [Act.put, List.setIfInBounds_toArray, List.set_cons_zero, List.set_cons_succ]
            first
              | (refine seq_skipA (h := ?_))
              | (refine seq_loadsA [_, _, _] (hu := Tryz.underlying47) (h := ?_))
            try simp only [Act.put, List.setIfInBounds_toArray, List.set_cons_zero, List.set_cons_succ]
            first
              | (refine seq_skipA (h := ?_))
              | (refine seq_lastA (h := fun K hK => ?_); go_wp2_with (go_at_call 86; (with_reducible refine (BF.out _).mono ?_); rintro e w5 ⟨rfl, hb5⟩); refine hK.out _ _ ?_; clear hK K)
            try simp only [Act.put, List.setIfInBounds_toArray, List.set_cons_zero, List.set_cons_succ]
            first
              | (refine seq_skipA (h := ?_))
              | (refine seq_calcA (h := ?_))
            try simp only [Act.put, List.setIfInBounds_toArray, List.set_cons_zero, List.set_cons_succ]
            refine seq_calcA (h := ?_)
            try simp only [Act.put, List.setIfInBounds_toArray, List.set_cons_zero, List.set_cons_succ]
            refine seq_nil ?_
            go_wp2
            go_meet
            exact ⟨by rw [HS.out], Below.undrew hb5⟩
          · obtain rfl : k = j := by omega
            have HS := Lib.hid (show st = false by rw [hst, decide_eq_false_iff_not]; rintro ⟨h, -⟩; omega)
            clear hst
            refine wp_region_seq (fun _ => False) #[⟨0, 0, 16384, 64, 0⟩, ⟨0, 0, 32768, 8, 0⟩, ⟨2, 2, 65536, 32768, 0⟩, ⟨5, 7, 131072, 81920, 0⟩, ⟨8, 15, 262144, 131072, 0⟩, ⟨16, 31, 524288, 262176, 1⟩, ⟨16, 31, 1048576, 262152, 0⟩, ⟨16, 31, 2097152, 262208, 0⟩, ⟨208, 223, 4194304, 3407872, 0⟩, ⟨272, 479, 8388608, 4456448, 1⟩, ⟨560, 1023, 16777216, 9175040, 3⟩, ⟨1040, 2047, 33554432, 17039360, 0⟩, ⟨2064, 4095, 67108864, 33816576, 0⟩] 544 [(0, 0), (1, 0), (2, 0), (3, 0), (4, 0), (5, 1), (6, 0), (7, 0), (8, 0), (9, 1), (10, 3), (11, 0), (12, 0)] (by kernel_rfl) (by kernel_rfl) (by kernel_rfl) (by kernel_rfl) (by kernel_rfl) (by kernel_rfl) (fun c a d v w h => by cases d <;> exact h) ?_
            refine seq_calcA (h := ?_)
            try simp only [Act.put, List.setIfInBounds_toArray, List.set_cons_zero, List.set_cons_succ]
            refine seq_calcA (h := ?_)
            try simp only [Act.put, List.setIfInBounds_toArray, List.set_cons_zero, List.set_cons_succ]
            refine seq_calcA (h := ?_)
            try simp only [Act.put, List.setIfInBounds_toArray, List.set_cons_zero, List.set_cons_succ]
            refine seq_calcA (h := ?_)
            try simp only [Act.put, List.setIfInBounds_toArray, List.set_cons_zero, List.set_cons_succ]
            refine seq_calcA (h := ?_)
            try simp only [Act.put, List.setIfInBounds_toArray, List.set_cons_zero, List.set_cons_succ]
            first
              | (refine seq_skipA (h := ?_))
              | (refine seq_loadsA [_, _, _] (hu := Tryz.underlying47) (h := ?_))
            try simp only [Act.put, List.setIfInBounds_toArray, List.set_cons_zero, List.set_cons_succ]
            first
              | (refine seq_skipA (h := ?_))
              | (refine seq_calcA (h := ?_))
            try simp only [Act.put, List.setIfInBounds_toArray, List.set_cons_zero, List.set_cons_succ]
            first
              | (refine seq_skipA (h := ?_))
              | (refine seq_calcA (h := ?_))
            try simp only [Act.put, List.setIfInBounds_toArray, List.set_cons_zero, List.set_cons_succ]
            first
              | (refine seq_skipA (h := ?_))
              | (refine seq_calcA (h := ?_))
            try simp only [Act.put, List.setIfInBounds_toArray, List.set_cons_zero, List.set_cons_succ]
            first
              | (refine seq_skipA (h := ?_))
              | (refine seq_loadsA [_, _, _] (hu := Tryz.underlying47) (h := ?_))
            try simp only [Act.put, List.setIfInBounds_toArray, List.set_cons_zero, List.set_cons_succ]
            first
              | (refine seq_skipA (h := ?_))
              | (refine seq_lastA (h := fun K hK => ?_); go_wp2_with (fail); refine hK.out _ _ ?_; clear hK K)
            try simp only [Act.put, List.setIfInBounds_toArray, List.set_cons_zero, List.set_cons_succ]
            first
              | (refine seq_skipA (h := ?_))
              | (refine seq_calcA (h := ?_))
            try simp only [Act.put, List.setIfInBounds_toArray, List.set_cons_zero, List.set_cons_succ]
            refine seq_calcA (h := ?_)
            try simp only [Act.put, List.setIfInBounds_toArray, List.set_cons_zero, List.set_cons_succ]
            refine seq_nil ?_
            go_wp2
            go_meet
            exact ⟨by rw [HS.out], Below.refl _ _ |>.drew⟩
        case rest =>
          obtain ⟨rfl, hBu⟩ := hcut
          have UB := Lib.hid hBu
          clear hBu p0 p1 p2 zP
          obtain ⟨u, hu⟩ : ∃ u, u = wc := ⟨_, rfl⟩
          subst hu
          have UR := Lib.hid (ownsRow_later KR.out UB.out)
          have UP := Lib.hid (KP.out.below UB.out KP.out.lt)
          have UW := Lib.hid (KW.out.trans (UB.out.mono KW.out.size))
          have UB2 := Lib.hid (KB2.out.trans (UB.out.mono KB2.out.size))
          cases hsb : st with
          | true =>
            have hh : ∃ h : k < out.length, lessB en out[k] = false := by rw [hsb] at hst; exact of_decide_eq_true hst.symm
            have HK2 := Lib.hid (show ∀ i (hi : i < out.length), i < k + 1 → lessB en out[i] = false from fun i hi h => by
              by_cases e : i = k
              · subst e; exact hh.2
              · exact KC.out i hi (by omega))
            have hkj : k < j := by obtain ⟨h, -⟩ := hh; omega
            clear hh hst hsb
            go_wp2
            go_roundw
            case rel => exact ⟨k + 1, by omega, by go_num, UB2.out, HK2.out⟩
            case measure => simp [intOf]; omega
          | false =>
            have hno : ¬ ∃ h : k < out.length, lessB en out[k] = false := by rw [hsb] at hst; exact of_decide_eq_false hst.symm
            have HIN := Lib.hid (show insE en out = out.take k ++ ([en] ++ out.drop k) from insE_at (by omega) (fun i hi hik => KC.out i hi hik) (fun h => by
              cases e : lessB en out[k] with
              | true => rfl
              | false => exact absurd ⟨h, e⟩ hno))
            clear hst hsb hno
            obtain ⟨p0, p1, p2⟩ := cells3 UP.out
            have zP := UP.out.lt
            obtain ⟨hwg, hgz, hcapj⟩ := ownsRow_at UR.out
            have hlen2 := hlen
            have sl1 := sliceE_to g 0 j cap k (by omega)
            have sl2 := sliceE_from g j cap k hk hcapj
            obtain ⟨ad, had⟩ : ∃ ad : Addr, ad = if cap = k then ⟨g, 0, none⟩ else ⟨g, k * 3, none⟩ := ⟨_, rfl⟩
            rw [← had] at sl2
            have HC0 : ∀ w', Below u.heap.size u w' → ∀ i x, (entV out)[i]? = some x → w'.cell? ((⟨g, 0, none⟩ : Addr).add i) = some x := fun w' hb i x hx => by
              have := UR.out.cells (g := g) rfl i x hx
              exact (hb.cell (p := (⟨g, 0, none⟩ : Addr).add i) (World.block_lt_of_cell? _ _ this)).trans this
            have HC1 : Hid (∀ w', Below u.heap.size u w' → ∀ i x, (entV (out.take k))[i]? = some x → w'.cell? ((⟨g, 0, none⟩ : Addr).add i) = some x) := Lib.hid fun w' hb i x hx => HC0 w' hb i x (entV_take out k i x hx)
            have HC2 : Hid (∀ w', Below u.heap.size u w' → ∀ i x, (entV (out.drop k))[i]? = some x → w'.cell? (ad.add i) = some x) := Lib.hid fun w' hb i x hx => by
              by_cases hc : cap = k
              · have h0 : out.drop k = [] := List.drop_eq_nil_of_le (by omega)
                rw [h0] at hx; simp [entV] at hx
              · rw [had, if_neg hc, show (⟨g, k * 3, none⟩ : Addr).add i = (⟨g, 0, none⟩ : Addr).add (k * 3 + i) by by_cases hi0 : i = 0 <;> by_cases hk0 : k = 0 <;> simp [Addr.add, hi0, hk0] <;> omega]
                exact HC0 w' hb _ x (entV_drop out k i (by omega) x hx)
            have FIN : Hid (∀ v3 w3, w3.ownsRow u.heap.size 47 3 v3 (0 + k + 1 + (j - k)) (entV ([] ++ out.take k ++ [en] ++ out.drop k)) → Below u.heap.size u w3 → ∃ j1 : Nat, j1 ≤ l.length ∧ Value.int .i64 ((j : Int) + 1) = .int .i64 (j1 : Int) ∧ ∃ g cap, v3 = .slice (some ⟨g, 0, none⟩) j1 cap ∧ w3.ownsRow w.heap.size 47 3 v3 j1 (entV (sortE (l.take j1))) ∧ Below w.heap.size w w3) := Lib.hid fun v3 w3 h3 hb3 => by
              rw [show 0 + k + 1 + (j - k) = j + 1 by omega, show [] ++ out.take k ++ [en] ++ out.drop k = insE en out by rw [HIN.out]; simp, ← HST.out] at h3
              obtain ⟨g3, cap3, e3⟩ := ownsRow_some h3 (by omega)
              exact ⟨j + 1, by omega, by rw [Int.natCast_add]; rfl, g3, cap3, e3, ownsRow_base h3 UW.out.size, UW.out.trans (hb3.mono UW.out.size)⟩
            clear had HC0
            have hnX : ¬ u.heap.size ≤ eb := Nat.not_le.2 UP.out.lt
            go_upto_region 8 with (fail)
            refine wp_region_T (fun b => u.heap.size ≤ b) #[⟨0, 0, 536870912, 0, 2⟩, ⟨0, 0, 1073741824, 8, 0⟩, ⟨0, 0, 2147483648, 64, 0⟩, ⟨6, 6, 4294967296, 3221225472, 0⟩, ⟨9, 15, 8589934592, 4831838208, 2⟩, ⟨0, 0, 17179869184, 32, 1⟩, ⟨32, 32, 34359738368, 17179869184, 3⟩, ⟨80, 127, 68719476736, 42949672960, 3⟩, ⟨0, 0, 137438953472, 8, 0⟩, ⟨0, 0, 274877906944, 64, 0⟩, ⟨768, 768, 549755813888, 412316860416, 0⟩, ⟨1152, 2047, 1099511627776, 618475290624, 3⟩, ⟨4095, 4095, 8, 1099511627776, 0⟩] 32 (.step 1 0 (.step 2 0 (.step 3 0 (.step 5 1 (.step 8 0 (.step 9 0 (.step 10 0 (.fork (.alt 0 (.fork (.alt 4 (.step 6 3 (.step 7 3 (.step 11 3 (.step 12 0 Plan.done)))) (.alt 6 (.step 4 2 (.step 7 3 (.step 11 3 (.step 12 0 Plan.done)))) Plan.none))) (.alt 6 (.step 0 2 (.step 4 2 (.step 7 3 (.step 11 3 (.step 12 0 Plan.done))))) Plan.none)))))))))) (by kernel_rfl) (by kernel_rfl) (by kernel_rfl) (by kernel_rfl) (by kernel_rfl) (by kernel_rfl) (fun c a d v w h => by cases d <;> exact h) ?_
            refine T_calcA (h := ?_)
            try simp only [Act.put, List.setIfInBounds_toArray, List.set_cons_zero, List.set_cons_succ]
            refine T_calcA (h := ?_)
            try simp only [Act.put, List.setIfInBounds_toArray, List.set_cons_zero, List.set_cons_succ]
            refine T_calcA (h := ?_)
            try simp only [Act.put, List.setIfInBounds_toArray, List.set_cons_zero, List.set_cons_succ]
            refine T_loadsA [_, _, _] (hu := Tryz.underlying47) (h := ?_)
            try simp only [Act.put, List.setIfInBounds_toArray, List.set_cons_zero, List.set_cons_succ]
            refine T_calcA (h := ?_)
            try simp only [Act.put, List.setIfInBounds_toArray, List.set_cons_zero, List.set_cons_succ]
            refine T_calcA (h := ?_)
            try simp only [Act.put, List.setIfInBounds_toArray, List.set_cons_zero, List.set_cons_succ]
            refine T_calcA (h := ?_)
            try simp only [Act.put, List.setIfInBounds_toArray, List.set_cons_zero, List.set_cons_succ]
            refine T_fork (T_alt (by simp only [List.getElem?_toArray, List.getElem?_cons_succ, List.getElem?_cons_zero]; rfl) (by rfl) (fun K hK => ?_) (T_alt (by simp only [List.getElem?_toArray, List.getElem?_cons_succ, List.getElem?_cons_zero]; rfl) (by rfl) (fun K hK => ?_) T_none))
            (go_wp2_with (fail); refine hkI hK (h := ?_); clear hK K)
            try simp only [Act.put, List.setIfInBounds_toArray, List.set_cons_zero, List.set_cons_succ]
            refine T_fork (T_alt (by simp only [List.getElem?_toArray, List.getElem?_cons_succ, List.getElem?_cons_zero]; rfl) (by rfl) (fun K hK => ?_) (T_alt (by simp only [List.getElem?_toArray, List.getElem?_cons_succ, List.getElem?_cons_zero]; rfl) (by rfl) (fun K hK => ?_) T_none))
            ((first | (refine wp_append_entsS _ _ rfl u.heap.size _ [] 0 rfl rfl ⟨rfl, .inr ⟨_, 0, #[], rfl, (by first | exact Nat.le_refl _ | simp), (by first | exact Blk.new _ _ _ | exact (Blk.new _ _ _).alloc _ | exact Blk.new_at (by simp)), by simp, by decide, rfl, rfl⟩⟩ ⟨g, 0, none⟩ k cap (out.take k) (by rw [List.length_take]; omega) rfl (HC1.out _ (by go_grown)) (by omega) (by simp; try omega) ?_; intro v1 w1 hr1 hc1 hg1; have R1 := Lib.hid hr1; have B1 := Lib.hid (Below.trans (show Below u.heap.size u _ from by go_grown) (hc1.below (n := u.heap.size) (by simp; try omega) (fun b hb e => absurd e (by omega)))); (try have E1 := Lib.hid (show Blk w1 u.heap.size 47 #[.int .u64 en.key, .int .u64 en.val, .int .u64 en.hash] from Blk.grown (by first | exact Blk.new _ _ _ | exact (Blk.new _ _ _).alloc _ | exact Blk.new_at (by simp)) hg1 (fun e => absurd (Option.some.inj (show some (u.heap.size + 1) = some u.heap.size from e)) (by omega)))); (try have E1 := Lib.hid (show Blk w1 (u.heap.size + 1) 47 #[.int .u64 en.key, .int .u64 en.val, .int .u64 en.hash] from Blk.grown (by first | exact Blk.new _ _ _ | exact (Blk.new _ _ _).alloc _ | exact Blk.new_at (by simp)) hg1 (fun e => absurd (Option.some.inj (show some u.heap.size = some (u.heap.size + 1) from e)) (by omega)))); clear hr1 hg1) | (refine wp_append_entsS _ _ rfl u.heap.size _ ([] ++ out.take k) (0 + k) (by rw [List.nil_append, List.length_take]; omega) rfl (by first | exact R1.out | exact ownsRow_later R1.out ((Below.refl _ _).alloc (Nat.le_refl _) _)) ⟨_, 0, none⟩ 1 1 [en] rfl rfl (by first | exact cell3_new w1 _ _ _ _ | exact blk_cells3 E1.out) (by omega) (by have := B1.out.size; simp; try omega) ?_; intro v2 w2' hr2 hc2 hg2; have R2' := Lib.hid hr2; have B2' := Lib.hid (Below.trans (show Below u.heap.size u _ by first | exact B1.out | exact B1.out.alloc B1.out.size _) (hc2.below (n := u.heap.size) (by have := B1.out.size; simp; try omega) (fun b hb e => absurd e (by omega)))); clear hr2 hg2) | (refine wp_append_entsS _ _ rfl u.heap.size _ ([] ++ out.take k ++ [en]) (0 + k + 1) (by simp [List.length_take]; omega) rfl R2'.out ad (j - k) (cap - k) (out.drop k) (by rw [List.length_drop]; omega) rfl (HC2.out _ B2'.out) (by omega) B2'.out.size ?_; intro v3 w3 hr3 hc3 hg3; have R3 := Lib.hid hr3; have B3 := Lib.hid (B2'.out.trans (hc3.below (n := u.heap.size) B2'.out.size (fun b hb e => absurd e (by omega)))); clear hr3 hg3)); refine hkI hK (h := ?_); clear hK K)
            try simp only [Act.put, List.setIfInBounds_toArray, List.set_cons_zero, List.set_cons_succ]
            refine T_lastA (h := fun K hK => ?_); go_wp2_with (fail); refine hK.out _ _ ?_; clear hK K
            try simp only [Act.put, List.setIfInBounds_toArray, List.set_cons_zero, List.set_cons_succ]
            refine T_lastA (h := fun K hK => ?_); (first | (refine wp_append_entsS _ _ rfl u.heap.size _ [] 0 rfl rfl ⟨rfl, .inr ⟨_, 0, #[], rfl, (by first | exact Nat.le_refl _ | simp), (by first | exact Blk.new _ _ _ | exact (Blk.new _ _ _).alloc _ | exact Blk.new_at (by simp)), by simp, by decide, rfl, rfl⟩⟩ ⟨g, 0, none⟩ k cap (out.take k) (by rw [List.length_take]; omega) rfl (HC1.out _ (by go_grown)) (by omega) (by simp; try omega) ?_; intro v1 w1 hr1 hc1 hg1; have R1 := Lib.hid hr1; have B1 := Lib.hid (Below.trans (show Below u.heap.size u _ from by go_grown) (hc1.below (n := u.heap.size) (by simp; try omega) (fun b hb e => absurd e (by omega)))); (try have E1 := Lib.hid (show Blk w1 u.heap.size 47 #[.int .u64 en.key, .int .u64 en.val, .int .u64 en.hash] from Blk.grown (by first | exact Blk.new _ _ _ | exact (Blk.new _ _ _).alloc _ | exact Blk.new_at (by simp)) hg1 (fun e => absurd (Option.some.inj (show some (u.heap.size + 1) = some u.heap.size from e)) (by omega)))); (try have E1 := Lib.hid (show Blk w1 (u.heap.size + 1) 47 #[.int .u64 en.key, .int .u64 en.val, .int .u64 en.hash] from Blk.grown (by first | exact Blk.new _ _ _ | exact (Blk.new _ _ _).alloc _ | exact Blk.new_at (by simp)) hg1 (fun e => absurd (Option.some.inj (show some u.heap.size = some (u.heap.size + 1) from e)) (by omega)))); clear hr1 hg1) | (refine wp_append_entsS _ _ rfl u.heap.size _ ([] ++ out.take k) (0 + k) (by rw [List.nil_append, List.length_take]; omega) rfl (by first | exact R1.out | exact ownsRow_later R1.out ((Below.refl _ _).alloc (Nat.le_refl _) _)) ⟨_, 0, none⟩ 1 1 [en] rfl rfl (by first | exact cell3_new w1 _ _ _ _ | exact blk_cells3 E1.out) (by omega) (by have := B1.out.size; simp; try omega) ?_; intro v2 w2' hr2 hc2 hg2; have R2' := Lib.hid hr2; have B2' := Lib.hid (Below.trans (show Below u.heap.size u _ by first | exact B1.out | exact B1.out.alloc B1.out.size _) (hc2.below (n := u.heap.size) (by have := B1.out.size; simp; try omega) (fun b hb e => absurd e (by omega)))); clear hr2 hg2) | (refine wp_append_entsS _ _ rfl u.heap.size _ ([] ++ out.take k ++ [en]) (0 + k + 1) (by simp [List.length_take]; omega) rfl R2'.out ad (j - k) (cap - k) (out.drop k) (by rw [List.length_drop]; omega) rfl (HC2.out _ B2'.out) (by omega) B2'.out.size ?_; intro v3 w3 hr3 hc3 hg3; have R3 := Lib.hid hr3; have B3 := Lib.hid (B2'.out.trans (hc3.below (n := u.heap.size) B2'.out.size (fun b hb e => absurd e (by omega)))); clear hr3 hg3)); refine hK.out _ _ ?_; clear hK K
            try simp only [Act.put, List.setIfInBounds_toArray, List.set_cons_zero, List.set_cons_succ]
            refine T_lastA (h := fun K hK => ?_); (first | (refine wp_append_entsS _ _ rfl u.heap.size _ [] 0 rfl rfl ⟨rfl, .inr ⟨_, 0, #[], rfl, (by first | exact Nat.le_refl _ | simp), (by first | exact Blk.new _ _ _ | exact (Blk.new _ _ _).alloc _ | exact Blk.new_at (by simp)), by simp, by decide, rfl, rfl⟩⟩ ⟨g, 0, none⟩ k cap (out.take k) (by rw [List.length_take]; omega) rfl (HC1.out _ (by go_grown)) (by omega) (by simp; try omega) ?_; intro v1 w1 hr1 hc1 hg1; have R1 := Lib.hid hr1; have B1 := Lib.hid (Below.trans (show Below u.heap.size u _ from by go_grown) (hc1.below (n := u.heap.size) (by simp; try omega) (fun b hb e => absurd e (by omega)))); (try have E1 := Lib.hid (show Blk w1 u.heap.size 47 #[.int .u64 en.key, .int .u64 en.val, .int .u64 en.hash] from Blk.grown (by first | exact Blk.new _ _ _ | exact (Blk.new _ _ _).alloc _ | exact Blk.new_at (by simp)) hg1 (fun e => absurd (Option.some.inj (show some (u.heap.size + 1) = some u.heap.size from e)) (by omega)))); (try have E1 := Lib.hid (show Blk w1 (u.heap.size + 1) 47 #[.int .u64 en.key, .int .u64 en.val, .int .u64 en.hash] from Blk.grown (by first | exact Blk.new _ _ _ | exact (Blk.new _ _ _).alloc _ | exact Blk.new_at (by simp)) hg1 (fun e => absurd (Option.some.inj (show some u.heap.size = some (u.heap.size + 1) from e)) (by omega)))); clear hr1 hg1) | (refine wp_append_entsS _ _ rfl u.heap.size _ ([] ++ out.take k) (0 + k) (by rw [List.nil_append, List.length_take]; omega) rfl (by first | exact R1.out | exact ownsRow_later R1.out ((Below.refl _ _).alloc (Nat.le_refl _) _)) ⟨_, 0, none⟩ 1 1 [en] rfl rfl (by first | exact cell3_new w1 _ _ _ _ | exact blk_cells3 E1.out) (by omega) (by have := B1.out.size; simp; try omega) ?_; intro v2 w2' hr2 hc2 hg2; have R2' := Lib.hid hr2; have B2' := Lib.hid (Below.trans (show Below u.heap.size u _ by first | exact B1.out | exact B1.out.alloc B1.out.size _) (hc2.below (n := u.heap.size) (by have := B1.out.size; simp; try omega) (fun b hb e => absurd e (by omega)))); clear hr2 hg2) | (refine wp_append_entsS _ _ rfl u.heap.size _ ([] ++ out.take k ++ [en]) (0 + k + 1) (by simp [List.length_take]; omega) rfl R2'.out ad (j - k) (cap - k) (out.drop k) (by rw [List.length_drop]; omega) rfl (HC2.out _ B2'.out) (by omega) B2'.out.size ?_; intro v3 w3 hr3 hc3 hg3; have R3 := Lib.hid hr3; have B3 := Lib.hid (B2'.out.trans (hc3.below (n := u.heap.size) B2'.out.size (fun b hb e => absurd e (by omega)))); clear hr3 hg3)); refine hK.out _ _ ?_; clear hK K
            try simp only [Act.put, List.setIfInBounds_toArray, List.set_cons_zero, List.set_cons_succ]
            refine T_calcA (h := ?_)
            try simp only [Act.put, List.setIfInBounds_toArray, List.set_cons_zero, List.set_cons_succ]
            refine T_done ?_
            rotate_left 1
            (go_wp2_with (fail); refine hkI hK (h := ?_); clear hK K)
            try simp only [Act.put, List.setIfInBounds_toArray, List.set_cons_zero, List.set_cons_succ]
            refine T_doA (h := fun K hK => ?_); (first | (refine wp_append_entsS _ _ rfl u.heap.size _ [] 0 rfl rfl ⟨rfl, .inr ⟨_, 0, #[], rfl, (by first | exact Nat.le_refl _ | simp), (by first | exact Blk.new _ _ _ | exact (Blk.new _ _ _).alloc _ | exact Blk.new_at (by simp)), by simp, by decide, rfl, rfl⟩⟩ ⟨g, 0, none⟩ k cap (out.take k) (by rw [List.length_take]; omega) rfl (HC1.out _ (by go_grown)) (by omega) (by simp; try omega) ?_; intro v1 w1 hr1 hc1 hg1; have R1 := Lib.hid hr1; have B1 := Lib.hid (Below.trans (show Below u.heap.size u _ from by go_grown) (hc1.below (n := u.heap.size) (by simp; try omega) (fun b hb e => absurd e (by omega)))); (try have E1 := Lib.hid (show Blk w1 u.heap.size 47 #[.int .u64 en.key, .int .u64 en.val, .int .u64 en.hash] from Blk.grown (by first | exact Blk.new _ _ _ | exact (Blk.new _ _ _).alloc _ | exact Blk.new_at (by simp)) hg1 (fun e => absurd (Option.some.inj (show some (u.heap.size + 1) = some u.heap.size from e)) (by omega)))); (try have E1 := Lib.hid (show Blk w1 (u.heap.size + 1) 47 #[.int .u64 en.key, .int .u64 en.val, .int .u64 en.hash] from Blk.grown (by first | exact Blk.new _ _ _ | exact (Blk.new _ _ _).alloc _ | exact Blk.new_at (by simp)) hg1 (fun e => absurd (Option.some.inj (show some u.heap.size = some (u.heap.size + 1) from e)) (by omega)))); clear hr1 hg1) | (refine wp_append_entsS _ _ rfl u.heap.size _ ([] ++ out.take k) (0 + k) (by rw [List.nil_append, List.length_take]; omega) rfl (by first | exact R1.out | exact ownsRow_later R1.out ((Below.refl _ _).alloc (Nat.le_refl _) _)) ⟨_, 0, none⟩ 1 1 [en] rfl rfl (by first | exact cell3_new w1 _ _ _ _ | exact blk_cells3 E1.out) (by omega) (by have := B1.out.size; simp; try omega) ?_; intro v2 w2' hr2 hc2 hg2; have R2' := Lib.hid hr2; have B2' := Lib.hid (Below.trans (show Below u.heap.size u _ by first | exact B1.out | exact B1.out.alloc B1.out.size _) (hc2.below (n := u.heap.size) (by have := B1.out.size; simp; try omega) (fun b hb e => absurd e (by omega)))); clear hr2 hg2) | (refine wp_append_entsS _ _ rfl u.heap.size _ ([] ++ out.take k ++ [en]) (0 + k + 1) (by simp [List.length_take]; omega) rfl R2'.out ad (j - k) (cap - k) (out.drop k) (by rw [List.length_drop]; omega) rfl (HC2.out _ B2'.out) (by omega) B2'.out.size ?_; intro v3 w3 hr3 hc3 hg3; have R3 := Lib.hid hr3; have B3 := Lib.hid (B2'.out.trans (hc3.below (n := u.heap.size) B2'.out.size (fun b hb e => absurd e (by omega)))); clear hr3 hg3)); refine hkI hK (h := ?_); clear hK K
            try simp only [Act.put, List.setIfInBounds_toArray, List.set_cons_zero, List.set_cons_succ]
            refine T_lastA (h := fun K hK => ?_); (first | (refine wp_append_entsS _ _ rfl u.heap.size _ [] 0 rfl rfl ⟨rfl, .inr ⟨_, 0, #[], rfl, (by first | exact Nat.le_refl _ | simp), (by first | exact Blk.new _ _ _ | exact (Blk.new _ _ _).alloc _ | exact Blk.new_at (by simp)), by simp, by decide, rfl, rfl⟩⟩ ⟨g, 0, none⟩ k cap (out.take k) (by rw [List.length_take]; omega) rfl (HC1.out _ (by go_grown)) (by omega) (by simp; try omega) ?_; intro v1 w1 hr1 hc1 hg1; have R1 := Lib.hid hr1; have B1 := Lib.hid (Below.trans (show Below u.heap.size u _ from by go_grown) (hc1.below (n := u.heap.size) (by simp; try omega) (fun b hb e => absurd e (by omega)))); (try have E1 := Lib.hid (show Blk w1 u.heap.size 47 #[.int .u64 en.key, .int .u64 en.val, .int .u64 en.hash] from Blk.grown (by first | exact Blk.new _ _ _ | exact (Blk.new _ _ _).alloc _ | exact Blk.new_at (by simp)) hg1 (fun e => absurd (Option.some.inj (show some (u.heap.size + 1) = some u.heap.size from e)) (by omega)))); (try have E1 := Lib.hid (show Blk w1 (u.heap.size + 1) 47 #[.int .u64 en.key, .int .u64 en.val, .int .u64 en.hash] from Blk.grown (by first | exact Blk.new _ _ _ | exact (Blk.new _ _ _).alloc _ | exact Blk.new_at (by simp)) hg1 (fun e => absurd (Option.some.inj (show some u.heap.size = some (u.heap.size + 1) from e)) (by omega)))); clear hr1 hg1) | (refine wp_append_entsS _ _ rfl u.heap.size _ ([] ++ out.take k) (0 + k) (by rw [List.nil_append, List.length_take]; omega) rfl (by first | exact R1.out | exact ownsRow_later R1.out ((Below.refl _ _).alloc (Nat.le_refl _) _)) ⟨_, 0, none⟩ 1 1 [en] rfl rfl (by first | exact cell3_new w1 _ _ _ _ | exact blk_cells3 E1.out) (by omega) (by have := B1.out.size; simp; try omega) ?_; intro v2 w2' hr2 hc2 hg2; have R2' := Lib.hid hr2; have B2' := Lib.hid (Below.trans (show Below u.heap.size u _ by first | exact B1.out | exact B1.out.alloc B1.out.size _) (hc2.below (n := u.heap.size) (by have := B1.out.size; simp; try omega) (fun b hb e => absurd e (by omega)))); clear hr2 hg2) | (refine wp_append_entsS _ _ rfl u.heap.size _ ([] ++ out.take k ++ [en]) (0 + k + 1) (by simp [List.length_take]; omega) rfl R2'.out ad (j - k) (cap - k) (out.drop k) (by rw [List.length_drop]; omega) rfl (HC2.out _ B2'.out) (by omega) B2'.out.size ?_; intro v3 w3 hr3 hc3 hg3; have R3 := Lib.hid hr3; have B3 := Lib.hid (B2'.out.trans (hc3.below (n := u.heap.size) B2'.out.size (fun b hb e => absurd e (by omega)))); clear hr3 hg3)); refine hK.out _ _ ?_; clear hK K
            try simp only [Act.put, List.setIfInBounds_toArray, List.set_cons_zero, List.set_cons_succ]
            refine T_lastA (h := fun K hK => ?_); (first | (refine wp_append_entsS _ _ rfl u.heap.size _ [] 0 rfl rfl ⟨rfl, .inr ⟨_, 0, #[], rfl, (by first | exact Nat.le_refl _ | simp), (by first | exact Blk.new _ _ _ | exact (Blk.new _ _ _).alloc _ | exact Blk.new_at (by simp)), by simp, by decide, rfl, rfl⟩⟩ ⟨g, 0, none⟩ k cap (out.take k) (by rw [List.length_take]; omega) rfl (HC1.out _ (by go_grown)) (by omega) (by simp; try omega) ?_; intro v1 w1 hr1 hc1 hg1; have R1 := Lib.hid hr1; have B1 := Lib.hid (Below.trans (show Below u.heap.size u _ from by go_grown) (hc1.below (n := u.heap.size) (by simp; try omega) (fun b hb e => absurd e (by omega)))); (try have E1 := Lib.hid (show Blk w1 u.heap.size 47 #[.int .u64 en.key, .int .u64 en.val, .int .u64 en.hash] from Blk.grown (by first | exact Blk.new _ _ _ | exact (Blk.new _ _ _).alloc _ | exact Blk.new_at (by simp)) hg1 (fun e => absurd (Option.some.inj (show some (u.heap.size + 1) = some u.heap.size from e)) (by omega)))); (try have E1 := Lib.hid (show Blk w1 (u.heap.size + 1) 47 #[.int .u64 en.key, .int .u64 en.val, .int .u64 en.hash] from Blk.grown (by first | exact Blk.new _ _ _ | exact (Blk.new _ _ _).alloc _ | exact Blk.new_at (by simp)) hg1 (fun e => absurd (Option.some.inj (show some u.heap.size = some (u.heap.size + 1) from e)) (by omega)))); clear hr1 hg1) | (refine wp_append_entsS _ _ rfl u.heap.size _ ([] ++ out.take k) (0 + k) (by rw [List.nil_append, List.length_take]; omega) rfl (by first | exact R1.out | exact ownsRow_later R1.out ((Below.refl _ _).alloc (Nat.le_refl _) _)) ⟨_, 0, none⟩ 1 1 [en] rfl rfl (by first | exact cell3_new w1 _ _ _ _ | exact blk_cells3 E1.out) (by omega) (by have := B1.out.size; simp; try omega) ?_; intro v2 w2' hr2 hc2 hg2; have R2' := Lib.hid hr2; have B2' := Lib.hid (Below.trans (show Below u.heap.size u _ by first | exact B1.out | exact B1.out.alloc B1.out.size _) (hc2.below (n := u.heap.size) (by have := B1.out.size; simp; try omega) (fun b hb e => absurd e (by omega)))); clear hr2 hg2) | (refine wp_append_entsS _ _ rfl u.heap.size _ ([] ++ out.take k ++ [en]) (0 + k + 1) (by simp [List.length_take]; omega) rfl R2'.out ad (j - k) (cap - k) (out.drop k) (by rw [List.length_drop]; omega) rfl (HC2.out _ B2'.out) (by omega) B2'.out.size ?_; intro v3 w3 hr3 hc3 hg3; have R3 := Lib.hid hr3; have B3 := Lib.hid (B2'.out.trans (hc3.below (n := u.heap.size) B2'.out.size (fun b hb e => absurd e (by omega)))); clear hr3 hg3)); refine hK.out _ _ ?_; clear hK K
            try simp only [Act.put, List.setIfInBounds_toArray, List.set_cons_zero, List.set_cons_succ]
            refine T_calcA (h := ?_)
            try simp only [Act.put, List.setIfInBounds_toArray, List.set_cons_zero, List.set_cons_succ]
            refine T_done ?_
            rotate_left 1
            rotate_right 2
            rotate_left 2
            (go_wp2_with (fail); refine hkI hK (h := ?_); clear hK K)
            try simp only [Act.put, List.setIfInBounds_toArray, List.set_cons_zero, List.set_cons_succ]
            refine T_doA (h := fun K hK => ?_); go_wp2_with (fail); refine hkI hK (h := ?_); clear hK K
            try simp only [Act.put, List.setIfInBounds_toArray, List.set_cons_zero, List.set_cons_succ]
            refine T_doA (h := fun K hK => ?_); (first | (refine wp_append_entsS _ _ rfl u.heap.size _ [] 0 rfl rfl ⟨rfl, .inr ⟨_, 0, #[], rfl, (by first | exact Nat.le_refl _ | simp), (by first | exact Blk.new _ _ _ | exact (Blk.new _ _ _).alloc _ | exact Blk.new_at (by simp)), by simp, by decide, rfl, rfl⟩⟩ ⟨g, 0, none⟩ k cap (out.take k) (by rw [List.length_take]; omega) rfl (HC1.out _ (by go_grown)) (by omega) (by simp; try omega) ?_; intro v1 w1 hr1 hc1 hg1; have R1 := Lib.hid hr1; have B1 := Lib.hid (Below.trans (show Below u.heap.size u _ from by go_grown) (hc1.below (n := u.heap.size) (by simp; try omega) (fun b hb e => absurd e (by omega)))); (try have E1 := Lib.hid (show Blk w1 u.heap.size 47 #[.int .u64 en.key, .int .u64 en.val, .int .u64 en.hash] from Blk.grown (by first | exact Blk.new _ _ _ | exact (Blk.new _ _ _).alloc _ | exact Blk.new_at (by simp)) hg1 (fun e => absurd (Option.some.inj (show some (u.heap.size + 1) = some u.heap.size from e)) (by omega)))); (try have E1 := Lib.hid (show Blk w1 (u.heap.size + 1) 47 #[.int .u64 en.key, .int .u64 en.val, .int .u64 en.hash] from Blk.grown (by first | exact Blk.new _ _ _ | exact (Blk.new _ _ _).alloc _ | exact Blk.new_at (by simp)) hg1 (fun e => absurd (Option.some.inj (show some u.heap.size = some (u.heap.size + 1) from e)) (by omega)))); clear hr1 hg1) | (refine wp_append_entsS _ _ rfl u.heap.size _ ([] ++ out.take k) (0 + k) (by rw [List.nil_append, List.length_take]; omega) rfl (by first | exact R1.out | exact ownsRow_later R1.out ((Below.refl _ _).alloc (Nat.le_refl _) _)) ⟨_, 0, none⟩ 1 1 [en] rfl rfl (by first | exact cell3_new w1 _ _ _ _ | exact blk_cells3 E1.out) (by omega) (by have := B1.out.size; simp; try omega) ?_; intro v2 w2' hr2 hc2 hg2; have R2' := Lib.hid hr2; have B2' := Lib.hid (Below.trans (show Below u.heap.size u _ by first | exact B1.out | exact B1.out.alloc B1.out.size _) (hc2.below (n := u.heap.size) (by have := B1.out.size; simp; try omega) (fun b hb e => absurd e (by omega)))); clear hr2 hg2) | (refine wp_append_entsS _ _ rfl u.heap.size _ ([] ++ out.take k ++ [en]) (0 + k + 1) (by simp [List.length_take]; omega) rfl R2'.out ad (j - k) (cap - k) (out.drop k) (by rw [List.length_drop]; omega) rfl (HC2.out _ B2'.out) (by omega) B2'.out.size ?_; intro v3 w3 hr3 hc3 hg3; have R3 := Lib.hid hr3; have B3 := Lib.hid (B2'.out.trans (hc3.below (n := u.heap.size) B2'.out.size (fun b hb e => absurd e (by omega)))); clear hr3 hg3)); refine hkI hK (h := ?_); clear hK K
            try simp only [Act.put, List.setIfInBounds_toArray, List.set_cons_zero, List.set_cons_succ]
            refine T_lastA (h := fun K hK => ?_); (first | (refine wp_append_entsS _ _ rfl u.heap.size _ [] 0 rfl rfl ⟨rfl, .inr ⟨_, 0, #[], rfl, (by first | exact Nat.le_refl _ | simp), (by first | exact Blk.new _ _ _ | exact (Blk.new _ _ _).alloc _ | exact Blk.new_at (by simp)), by simp, by decide, rfl, rfl⟩⟩ ⟨g, 0, none⟩ k cap (out.take k) (by rw [List.length_take]; omega) rfl (HC1.out _ (by go_grown)) (by omega) (by simp; try omega) ?_; intro v1 w1 hr1 hc1 hg1; have R1 := Lib.hid hr1; have B1 := Lib.hid (Below.trans (show Below u.heap.size u _ from by go_grown) (hc1.below (n := u.heap.size) (by simp; try omega) (fun b hb e => absurd e (by omega)))); (try have E1 := Lib.hid (show Blk w1 u.heap.size 47 #[.int .u64 en.key, .int .u64 en.val, .int .u64 en.hash] from Blk.grown (by first | exact Blk.new _ _ _ | exact (Blk.new _ _ _).alloc _ | exact Blk.new_at (by simp)) hg1 (fun e => absurd (Option.some.inj (show some (u.heap.size + 1) = some u.heap.size from e)) (by omega)))); (try have E1 := Lib.hid (show Blk w1 (u.heap.size + 1) 47 #[.int .u64 en.key, .int .u64 en.val, .int .u64 en.hash] from Blk.grown (by first | exact Blk.new _ _ _ | exact (Blk.new _ _ _).alloc _ | exact Blk.new_at (by simp)) hg1 (fun e => absurd (Option.some.inj (show some u.heap.size = some (u.heap.size + 1) from e)) (by omega)))); clear hr1 hg1) | (refine wp_append_entsS _ _ rfl u.heap.size _ ([] ++ out.take k) (0 + k) (by rw [List.nil_append, List.length_take]; omega) rfl (by first | exact R1.out | exact ownsRow_later R1.out ((Below.refl _ _).alloc (Nat.le_refl _) _)) ⟨_, 0, none⟩ 1 1 [en] rfl rfl (by first | exact cell3_new w1 _ _ _ _ | exact blk_cells3 E1.out) (by omega) (by have := B1.out.size; simp; try omega) ?_; intro v2 w2' hr2 hc2 hg2; have R2' := Lib.hid hr2; have B2' := Lib.hid (Below.trans (show Below u.heap.size u _ by first | exact B1.out | exact B1.out.alloc B1.out.size _) (hc2.below (n := u.heap.size) (by have := B1.out.size; simp; try omega) (fun b hb e => absurd e (by omega)))); clear hr2 hg2) | (refine wp_append_entsS _ _ rfl u.heap.size _ ([] ++ out.take k ++ [en]) (0 + k + 1) (by simp [List.length_take]; omega) rfl R2'.out ad (j - k) (cap - k) (out.drop k) (by rw [List.length_drop]; omega) rfl (HC2.out _ B2'.out) (by omega) B2'.out.size ?_; intro v3 w3 hr3 hc3 hg3; have R3 := Lib.hid hr3; have B3 := Lib.hid (B2'.out.trans (hc3.below (n := u.heap.size) B2'.out.size (fun b hb e => absurd e (by omega)))); clear hr3 hg3)); refine hK.out _ _ ?_; clear hK K
            try simp only [Act.put, List.setIfInBounds_toArray, List.set_cons_zero, List.set_cons_succ]
            refine T_lastA (h := fun K hK => ?_); (first | (refine wp_append_entsS _ _ rfl u.heap.size _ [] 0 rfl rfl ⟨rfl, .inr ⟨_, 0, #[], rfl, (by first | exact Nat.le_refl _ | simp), (by first | exact Blk.new _ _ _ | exact (Blk.new _ _ _).alloc _ | exact Blk.new_at (by simp)), by simp, by decide, rfl, rfl⟩⟩ ⟨g, 0, none⟩ k cap (out.take k) (by rw [List.length_take]; omega) rfl (HC1.out _ (by go_grown)) (by omega) (by simp; try omega) ?_; intro v1 w1 hr1 hc1 hg1; have R1 := Lib.hid hr1; have B1 := Lib.hid (Below.trans (show Below u.heap.size u _ from by go_grown) (hc1.below (n := u.heap.size) (by simp; try omega) (fun b hb e => absurd e (by omega)))); (try have E1 := Lib.hid (show Blk w1 u.heap.size 47 #[.int .u64 en.key, .int .u64 en.val, .int .u64 en.hash] from Blk.grown (by first | exact Blk.new _ _ _ | exact (Blk.new _ _ _).alloc _ | exact Blk.new_at (by simp)) hg1 (fun e => absurd (Option.some.inj (show some (u.heap.size + 1) = some u.heap.size from e)) (by omega)))); (try have E1 := Lib.hid (show Blk w1 (u.heap.size + 1) 47 #[.int .u64 en.key, .int .u64 en.val, .int .u64 en.hash] from Blk.grown (by first | exact Blk.new _ _ _ | exact (Blk.new _ _ _).alloc _ | exact Blk.new_at (by simp)) hg1 (fun e => absurd (Option.some.inj (show some u.heap.size = some (u.heap.size + 1) from e)) (by omega)))); clear hr1 hg1) | (refine wp_append_entsS _ _ rfl u.heap.size _ ([] ++ out.take k) (0 + k) (by rw [List.nil_append, List.length_take]; omega) rfl (by first | exact R1.out | exact ownsRow_later R1.out ((Below.refl _ _).alloc (Nat.le_refl _) _)) ⟨_, 0, none⟩ 1 1 [en] rfl rfl (by first | exact cell3_new w1 _ _ _ _ | exact blk_cells3 E1.out) (by omega) (by have := B1.out.size; simp; try omega) ?_; intro v2 w2' hr2 hc2 hg2; have R2' := Lib.hid hr2; have B2' := Lib.hid (Below.trans (show Below u.heap.size u _ by first | exact B1.out | exact B1.out.alloc B1.out.size _) (hc2.below (n := u.heap.size) (by have := B1.out.size; simp; try omega) (fun b hb e => absurd e (by omega)))); clear hr2 hg2) | (refine wp_append_entsS _ _ rfl u.heap.size _ ([] ++ out.take k ++ [en]) (0 + k + 1) (by simp [List.length_take]; omega) rfl R2'.out ad (j - k) (cap - k) (out.drop k) (by rw [List.length_drop]; omega) rfl (HC2.out _ B2'.out) (by omega) B2'.out.size ?_; intro v3 w3 hr3 hc3 hg3; have R3 := Lib.hid hr3; have B3 := Lib.hid (B2'.out.trans (hc3.below (n := u.heap.size) B2'.out.size (fun b hb e => absurd e (by omega)))); clear hr3 hg3)); refine hK.out _ _ ?_; clear hK K
            try simp only [Act.put, List.setIfInBounds_toArray, List.set_cons_zero, List.set_cons_succ]
            refine T_calcA (h := ?_)
            try simp only [Act.put, List.setIfInBounds_toArray, List.set_cons_zero, List.set_cons_succ]
            refine T_done ?_
            rotate_left 1
            rotate_right 3
            all_goals go_wp2
            all_goals go_roundw
            all_goals first | exact FIN.out _ _ R3.out B3.out | (simp [intOf]; omega)
    · obtain rfl : j = l.length := by omega
      go_wp2
      go_ret
      refine ⟨_, rfl, ?_, KB.out⟩
      have := KR.out
      rw [List.take_length] at this
      rw [sortE_length]; exact this
end Go.Proofs.YtannohinhlefaaaGreatDoor

namespace Go.Proofs.YtannohinhlefaaaGreatDoor
open Go.RowKit Go.Proofs
theorem firstE_at {l : List EntS} {f : EntS} {k : Nat} (hk : k < l.length) (hm : ∀ i (hi : i < l.length), i < k → lessB l[i] f = true) (hs : lessB l[k] f = false) : firstE l f = some l[k] := by
  unfold firstE
  rw [List.find?_eq_some_iff_getElem]
  refine ⟨by simp [hs], k, hk, rfl, fun j hj => ?_⟩
  simp [hm j (by omega) hj]
theorem firstE_none {l : List EntS} {f : EntS} (hm : ∀ i (hi : i < l.length), lessB l[i] f = true) : firstE l f = none := by
  unfold firstE
  rw [List.find?_eq_none]
  intro x hx
  obtain ⟨i, hi, rfl⟩ := List.getElem_of_mem hx
  simp [hm i hi]
theorem leastL_yes {l : List EntS} {f e : EntS} (h : firstE (sortE l) f = some e) : TabS.leastL l f = (e, true) := by
  obtain ⟨h1, h2⟩ := least_first l f
  rw [h] at h1
  generalize TabS.leastL l f = r at h1 h2
  obtain ⟨x, b⟩ := r
  cases b with
  | true => simp at h1; rw [h1]
  | false => simp at h1
theorem leastL_no {l : List EntS} {f : EntS} (h : firstE (sortE l) f = none) : TabS.leastL l f = (EntS.zero, false) := by
  obtain ⟨h1, h2⟩ := least_first l f
  rw [h] at h1
  generalize TabS.leastL l f = r at h1 h2
  obtain ⟨x, b⟩ := r
  cases b with
  | true => simp at h1
  | false => rw [show x = EntS.zero from h2 rfl]
set_option maxRecDepth 100000 in
set_option maxHeartbeats 4000000 in
theorem rleast_any (v : Value) (l : List EntS) (base : Nat) (hs ky : Int) (w : World) (h : w.ownsRow base 47 3 v l.length (entV l)) (hl : l.length ≤ 1000) :
    Calls Tryz.prog 49 #[v, .int .u64 hs, .int .u64 ky] w fun e w' => e = .returned (.tuple #[.agg #[.int .u64 (TabS.leastL l ⟨ky, 0, hs⟩).1.key, .int .u64 (TabS.leastL l ⟨ky, 0, hs⟩).1.val, .int .u64 (TabS.leastL l ⟨ky, 0, hs⟩).1.hash], .bool (TabS.leastL l ⟨ky, 0, hs⟩).2]) ∧ Below w.heap.size w w' := by
  have SO := Lib.hid (fun (w' : World) (h' : w'.ownsRow base 47 3 v l.length (entV l)) => sorted_any v l base w' h' hl)
  have HL := Lib.hid h
  have LY := Lib.hid (fun e => leastL_yes (l := l) (f := ⟨ky, 0, hs⟩) (e := e))
  have LN := Lib.hid (leastL_no (l := l) (f := ⟨ky, 0, hs⟩))
  have HSL := Lib.hid (sortE_length l)
  generalize TabS.leastL l ⟨ky, 0, hs⟩ = res at *
  generalize sortE l = s at *
  have hsl : s.length ≤ 1000 := by rw [HSL.out]; exact hl
  clear h
  go_enter Tryz.func49, Tryz.ntmps49
  go_upto_region 2 with (fail)
  refine wp_at (fun w2 hw2 => ?_)
  obtain ⟨z, hz⟩ : ∃ z, z = w.heap.size := ⟨_, rfl⟩
  have R2 := Lib.hid (show Blk w2 z 47 #[.int .u64 0, .int .u64 0, .int .u64 0] by rw [hw2, hz]; exact (Blk.new _ _ _).alloc _)
  have F2 := Lib.hid (show Blk w2 (z + 1) 47 #[.int .u64 ky, .int .u64 0, .int .u64 hs] by rw [hw2, hz]; exact Blk.new_at (by simp))
  have B2 := Lib.hid (show Below w.heap.size w w2 by rw [hw2]; go_grown)
  rw [← hz]
  have HZ := Lib.hid hz
  replace hw2 := Lib.hid hw2
  clear hz
  go_wp2_with (go_at_call 85; (with_reducible refine (SO.out _ (ownsRow_later HL.out (B2.out.mono (Nat.le_refl _)))).mono ?_); rintro e w3 ⟨sv, rfl, hr3, hb3⟩; obtain ⟨sa, scap, rfl⟩ := ownsRow_slice hr3; have S3 := Lib.hid hr3; have R3 := Lib.hid (R2.out.below hb3 R2.out.lt); have F3 := Lib.hid (F2.out.below hb3 F2.out.lt); have B3 := Lib.hid (B2.out.trans (hb3.mono B2.out.size)); clear hr3)
  go_loopw [17] (fun v17 wr => ∃ k : Nat, k ≤ s.length ∧ v17 = .int .i64 (k : Int) ∧ Below w3.heap.size w3 wr ∧ ∀ i (hi : i < s.length), i < k → lessB s[i] ⟨ky, 0, hs⟩ = true) (fun v17 _ => s.length - (intOf v17).toNat)
  case atStart => exact ⟨0, Nat.zero_le _, rfl, Below.refl _ _, fun i hi h => by omega⟩
  case round =>
    obtain ⟨k, hk, rfl, hB, hcl⟩ := hrel
    have KC := Lib.hid hcl
    have KB := Lib.hid hB
    have KS := Lib.hid (ownsRow_later S3.out hB)
    have KR := Lib.hid (R3.out.below hB R3.out.lt)
    have KF := Lib.hid (F3.out.below hB F3.out.lt)
    have KW := Lib.hid (B3.out.trans (hB.mono B3.out.size))
    clear hcl hB
    by_cases hlt : k < s.length
    · have hltI : (k : Int) < (s.length : Int) := by omega
      obtain ⟨ea', ecap', e, -, hrow⟩ := ents_own KS.out
      cases e
      obtain ⟨b, rfl, hbb, hbz, hcl⟩ := hrow (fun e => by rw [e] at hlt; exact absurd hlt (by simp))
      obtain ⟨g0, g1, g2⟩ := hcl k hlt
      obtain ⟨en, hen⟩ : ∃ en, en = s[k] := ⟨_, rfl⟩
      rw [← hen] at g0 g1 g2
      have HEN := Lib.hid hen
      clear hcl hrow hen
      have BF := Lib.hid (fun (w' : World) => show Calls Tryz.prog 86 #[.agg #[.int .u64 en.key, .int .u64 en.val, .int .u64 en.hash], .agg #[.int .u64 ky, .int .u64 0, .int .u64 hs]] w' fun e w'' => e = .returned (.bool (lessB en ⟨ky, 0, hs⟩)) ∧ Below w'.heap.size w' w'' from before_any en ⟨ky, 0, hs⟩ w')
      go_upto_region 5 with (fail)
      refine wp_at (fun w4 hw4 => ?_)
      have hb4 : Below wr.heap.size wr w4 := by rw [hw4]; go_grown
      have B4 := Lib.hid (KB.out.trans (hb4.mono KB.out.size))
      have R4 := Lib.hid (KR.out.below hb4 KR.out.lt)
      have F4 := Lib.hid (KF.out.below hb4 KF.out.lt)
      have P4 := Lib.hid (show Blk w4 wr.heap.size 47 #[.int .u64 en.key, .int .u64 en.val, .int .u64 en.hash] by rw [hw4]; exact Blk.new _ _ _)
      obtain ⟨eb, heb⟩ : ∃ eb, eb = wr.heap.size := ⟨_, rfl⟩
      rw [← heb] at P4 ⊢
      replace hw4 := Lib.hid hw4
      replace heb := Lib.hid heb
      obtain ⟨p0, p1, p2⟩ := cells3 P4.out
      have zP := P4.out.lt
      obtain ⟨f0, f1, f2⟩ := cells3 F4.out
      have zF := F4.out.lt
      clear g0 g1 g2 hbz hb4
      cases hle : lessB en ⟨ky, 0, hs⟩ with
      | true =>
        rw [hle] at BF
        have HK2 := Lib.hid (show ∀ i (hi : i < s.length), i < k + 1 → lessB s[i] ⟨ky, 0, hs⟩ = true from fun i hi h => by
          by_cases e : i = k
          · subst e; rw [← HEN.out]; exact hle
          · exact KC.out i hi (by omega))
        clear hle
        go_wp2_with (go_at_call 86; (with_reducible refine (BF.out _).mono ?_); rintro e w5 ⟨rfl, hb5⟩; have B5 := Lib.hid (B4.out.trans (hb5.mono B4.out.size)))
        go_roundw
        case rel => exact ⟨k + 1, by omega, by go_num, B5.out, HK2.out⟩
        case measure => simp [intOf]; omega
      | false =>
        rw [hle] at BF
        have HR := Lib.hid (LY.out en (by rw [HEN.out]; exact firstE_at hlt KC.out (by rw [← HEN.out]; exact hle)))
        clear hle
        go_upto_region 6 with (go_at_call 86; (with_reducible refine (BF.out _).mono ?_); rintro e w5 ⟨rfl, hb5⟩; have B5 := Lib.hid (B4.out.trans (hb5.mono B4.out.size)); have P5 := Lib.hid (P4.out.below hb5 P4.out.lt); have R5 := Lib.hid (R4.out.below hb5 R4.out.lt); have q5 := cells3 P5.out; have q50 := q5.1; have q51 := q5.2.1; have q52 := q5.2.2; have zP5 := P5.out.lt; clear q5 p0 p1 p2 zP)
        obtain ⟨r0, r1, r2⟩ := cells3 R5.out
        have zR := R5.out.lt
        have fR := fun j => R5.out.frozen j
        go_wp2
        refine wp_end_at (fun Wf hWf => ?_)
        have hR : Blk Wf z 47 #[.int .u64 en.key, .int .u64 en.val, .int .u64 en.hash] := by rw [hWf]; exact ((R5.out.set 0 _).set 1 _).set 2 _
        have hC : Chg (fun b => b = z) w5 Wf := by rw [hWf]; exact (((Chg.refl _ _).set1 _ _).set1 _ _).set1 _ _
        obtain ⟨x0, x1, x2⟩ := cells3 hR
        have hres := HR.out
        subst hres
        exact bodyPost_ret (v := .tuple #[.agg #[.int .u64 en.key, .int .u64 en.val, .int .u64 en.hash], .bool true]) (by simp [results, Tryz.results49, go_sem, x0, x1, x2]) rfl ⟨rfl, (B3.out.trans (B5.out.mono B3.out.size)).trans (hC.below (n := w.heap.size) (by have h1 := B3.out.size; have h2 := B5.out.size; omega) (fun b hb e => by have := HZ.out; omega))⟩
    · obtain rfl : k = s.length := by omega
      have HR := Lib.hid (LN.out (firstE_none fun i hi => KC.out i hi hi))
      obtain ⟨r0, r1, r2⟩ := cells3 KR.out
      have zR := KR.out.lt
      have fR := fun j => KR.out.frozen j
      go_wp2
      refine wp_end_at (fun Wf hWf => ?_)
      have hR : Blk Wf z 47 #[.int .u64 0, .int .u64 0, .int .u64 0] := by rw [hWf]; first | exact KR.out | exact ((KR.out.set 0 _).set 1 _).set 2 _
      have hC : Chg (fun b => b = z) wr Wf := by rw [hWf]; first | exact Chg.refl _ _ | exact (((Chg.refl _ _).set1 _ _).set1 _ _).set1 _ _
      obtain ⟨x0, x1, x2⟩ := cells3 hR
      have hres := HR.out
      subst hres
      exact bodyPost_ret (v := .tuple #[.agg #[.int .u64 0, .int .u64 0, .int .u64 0], .bool false]) (by simp [results, Tryz.results49, go_sem, x0, x1, x2]) rfl ⟨rfl, KW.out.trans (hC.below (n := w.heap.size) KW.out.size (fun b hb e => by have := HZ.out; omega))⟩
end Go.Proofs.YtannohinhlefaaaGreatDoor

namespace Go.Proofs.YtannohinhlefaaaGreatDoor
open Go.RowKit Go.Proofs
attribute [local go_sem] neq_nilG eql_nilG nilT
def pmS (k : Nat) : MeterS := addN MeterS.zero 1 0 0 k
theorem pmS_add (a b : Nat) : addN (pmS a) 1 0 0 b = pmS (a + b) := addN_add _ _ _ _ _ _
theorem pmS_one (a : Nat) : (pmS a).add 1 0 0 = pmS (a + 1) := rfl
structure AW (w : World) (p : PB) (M : Nat) (T T2 : TabS) (k : Nat) (L : Int) (E : Nat → Addr) (w0 : World) : Prop where
  t : TMW w p.B p.Q (some M) T (pmS k) E w0
  d : DX w p.mid p.hi p.D T2 L
  b : p.lo ≤ p.B ∧ p.B < p.mid ∧ p.lo ≤ p.Q ∧ p.Q < p.mid
  o : w0.heap.size ≤ p.lo ∧ p.mid ≤ p.hi ∧ p.hi ≤ M
  m : M < w.heap.size
section
variable {w w' w0 : World} {p : PB} {M : Nat} {T T' T2 T2' : TabS} {k k' : Nat} {L L' : Int} {E : Nat → Addr}
def AX (p : PB) (M : Nat) (b : Nat) : Prop := b = M ∨ p.lo ≤ b ∧ b < p.hi
theorem AW.later (h : AW w p M T T2 k L E w0) (hb : Below w.heap.size w w') : AW w' p M T T2 k L E w0 := ⟨h.t.later hb, h.d.later hb, h.b, h.o, Nat.lt_of_lt_of_le h.m hb.size⟩
theorem AW.new (h : AW w p M T T2 k L E w0) {b : Nat} (hb : w.heap.size ≤ b) : ¬ AX p M b := by
  have h1 := h.m
  have h2 := h.d.hz
  rintro (e | e) <;> omega
theorem AW.tstep (h : AW w p M T T2 k L E w0) (ht : TMW w' p.B p.Q (some M) T' (pmS k') E w0) (hc : Chg (fun b => some M = some b ∨ b = p.B ∨ b = p.Q) w w') : AW w' p M T' T2 k' L E w0 ∧ Chg (AX p M) w w' := by
  have hb := h.b
  have ho := h.o
  refine ⟨⟨ht, h.d.chg hc (fun b h1 h2 => ?_), h.b, h.o, Nat.lt_of_lt_of_le h.m hc.size⟩, hc.mono fun b _ e => ?_⟩
  · rintro (e | e | e)
    · have := Option.some.inj e; omega
    · omega
    · omega
  · rcases e with e | e | e
    · exact .inl (Option.some.inj e).symm
    · exact .inr (by omega)
    · exact .inr (by omega)
theorem AW.tturn (h : AW w p M T T2 k L E w0) (ht : TMW w' p.B p.Q (some M) T' (pmS k') E w0) (hc : Chg (fun b => some M = some b) w w') : AW w' p M T' T2 k' L E w0 ∧ Chg (AX p M) w w' := h.tstep ht (hc.mono fun _ _ e => .inl e)
theorem AW.dstep (h : AW w p M T T2 k L E w0) (hd : DX w' p.mid p.hi p.D T2' L') (hc : Chg (fun b => p.mid ≤ b ∧ b < p.hi) w w') : AW w' p M T T2' k L' E w0 ∧ Chg (AX p M) w w' := by
  have hb := h.b
  have ho := h.o
  refine ⟨⟨TMW.chg h.t hc (fun b e => by omega) (fun e => by omega) (fun e => by omega) (fun b e e2 => by have := Option.some.inj e; omega), hd, h.b, h.o, Nat.lt_of_lt_of_le h.m hc.size⟩, hc.mono fun b _ e => .inr (by omega)⟩
theorem AW.dturn (h : AW w p M T T2 k L E w0) (hd : DX w' p.mid p.hi p.D T2' L') (hc : Chg (fun b => b = p.D) w w') : AW w' p M T T2' k L' E w0 ∧ Chg (AX p M) w w' := by
  have hi := h.d.id
  exact h.dstep hd (hc.mono fun b _ e => by omega)
theorem AW.put (h : AW w p M T T2 k L E w0) (key v : Int) (hs : Nat) (hh : hs < 18446744073709551616) :
    Calls Tryz.prog 31 #[.pointer (some ⟨p.B, 0, none⟩), .agg #[.pointer (some ⟨M, 0, none⟩), .int .i64 1, .int .i64 0, .int .i64 0], .agg #[.int .u64 key, .int .u64 v, .int .u64 (hs : Int)]] w fun e w' =>
      e = .returned (.tuple #[.bool (T.putB key hs), errN E (T.putN key hs)]) ∧ AW w' p M (T.putT key v hs) T2 (k + T.looks key hs) L E w0 ∧ Chg (AX p M) w w' := by
  refine (h.t.put key v hs hh _ (LensAt.m M) 1 0 0).mono ?_
  rintro e w' ⟨rfl, h1, h2⟩
  rw [pmS_add] at h1
  exact ⟨rfl, h.tstep h1 h2⟩
theorem AW.put2 (h : AW w p M T T2 k L E w0) (hL : 0 ≤ L ∧ L ≤ 1000000000) (key v : Int) (hs : Nat) (hh : hs < 18446744073709551616) :
    Calls Tryz.prog 39 #[.pointer (some ⟨p.D, 0, none⟩), .agg #[.int .u64 key, .int .u64 v, .int .u64 (hs : Int)]] w fun e w' =>
      e = .returned (.tuple #[.bool (T2.putB key hs), .int .i64 ((T2.putN key hs : Nat) : Int)]) ∧ AW w' p M T (T2.putT key v hs) k (L + T2.looks key hs) E w0 ∧ Chg (AX p M) w w' := by
  refine (h.d.put hL key v hs hh).mono ?_
  rintro e w' ⟨rfl, h1, h2⟩
  exact ⟨rfl, h.dstep h1 h2⟩
theorem AW.del (h : AW w p M T T2 k L E w0) (key : Int) (hs : Nat) (hh : hs < 18446744073709551616) :
    Calls Tryz.prog 40 #[.pointer (some ⟨p.B, 0, none⟩), .agg #[.pointer (some ⟨M, 0, none⟩), .int .i64 1, .int .i64 0, .int .i64 0], .int .u64 key, .int .u64 (hs : Int)] w fun e w' =>
      e = .returned (.tuple #[.agg #[.int .u64 (T.ent key hs).key, .int .u64 (T.ent key hs).val, .int .u64 (T.ent key hs).hash], .bool (T.has key hs)]) ∧ AW w' p M (T.delT key hs) T2 (k + T.looks key hs) L E w0 ∧ Chg (AX p M) w w' := by
  refine (h.t.del key hs hh _ (LensAt.m M) 1 0 0).mono ?_
  rintro e w' ⟨rfl, h1, h2⟩
  rw [pmS_add] at h1
  exact ⟨rfl, h.tstep h1 h2⟩
theorem AW.del2 (h : AW w p M T T2 k L E w0) (hL : 0 ≤ L ∧ L ≤ 1000000000) (key : Int) (hs : Nat) (hh : hs < 18446744073709551616) :
    Calls Tryz.prog 41 #[.pointer (some ⟨p.D, 0, none⟩), .int .u64 key, .int .u64 (hs : Int)] w fun e w' =>
      e = .returned (.tuple #[.agg #[.int .u64 (T2.ent key hs).key, .int .u64 (T2.ent key hs).val, .int .u64 (T2.ent key hs).hash], .bool (T2.has key hs)]) ∧ AW w' p M T (T2.delT key hs) k (L + T2.looks key hs) E w0 ∧ Chg (AX p M) w w' := by
  refine (h.d.del hL key hs hh).mono ?_
  rintro e w' ⟨rfl, h1, h2⟩
  exact ⟨rfl, h.dstep h1 h2⟩
theorem AW.find (h : AW w p M T T2 k L E w0) (key : Int) (hs : Nat) (hh : hs < 18446744073709551616) :
    Calls Tryz.prog 26 #[.pointer (some ⟨p.B, 0, none⟩), .agg #[.pointer (some ⟨M, 0, none⟩), .int .i64 1, .int .i64 0, .int .i64 0], .int .u64 key, .int .u64 (hs : Int)] w fun e w' =>
      e = .returned (.tuple #[.agg #[.int .u64 (T.ent key hs).key, .int .u64 (T.ent key hs).val, .int .u64 (T.ent key hs).hash], .bool (T.has key hs)]) ∧ AW w' p M T T2 (k + T.looks key hs) L E w0 ∧ Chg (AX p M) w w' := by
  refine (h.t.find key hs hh _ (LensAt.m M) 1 0 0).mono ?_
  rintro e w' ⟨rfl, h1, h2⟩
  rw [pmS_add] at h1
  exact ⟨rfl, h.tturn h1 h2⟩
theorem AW.find2 (h : AW w p M T T2 k L E w0) (hL : 0 ≤ L ∧ L ≤ 1000000000) (key : Int) (hs : Nat) (hh : hs < 18446744073709551616) :
    Calls Tryz.prog 42 #[.pointer (some ⟨p.D, 0, none⟩), .int .u64 key, .int .u64 (hs : Int)] w fun e w' =>
      e = .returned (.tuple #[.agg #[.int .u64 (T2.ent key hs).key, .int .u64 (T2.ent key hs).val, .int .u64 (T2.ent key hs).hash], .bool (T2.has key hs)]) ∧ AW w' p M T T2 k (L + T2.looks key hs) E w0 ∧ Chg (AX p M) w w' := by
  refine (h.d.find hL key hs hh).mono ?_
  rintro e w' ⟨rfl, h1, h2⟩
  exact ⟨rfl, h.dturn h1 h2⟩
theorem AW.take (h : AW w p M T T2 k L E w0) (i : Nat) (hi : i < T.n) :
    Calls Tryz.prog 43 #[.pointer (some ⟨p.B, 0, none⟩), .agg #[.pointer (some ⟨M, 0, none⟩), .int .i64 1, .int .i64 0, .int .i64 0], .int .i64 (i : Int)] w fun e w' =>
      ∃ v, e = .returned (.tuple #[v, .nilIface]) ∧ w'.ownsRow w.heap.size 47 3 v (entsL (T.M i) (T.S i)).length (entV (entsL (T.M i) (T.S i))) ∧ AW w' p M (T.takeT i) T2 (k + 1) L E w0 ∧ Chg (AX p M) w w' := by
  refine (h.t.take i hi _ (LensAt.m M) 1 0 0).mono ?_
  rintro e w' ⟨v, rfl, h0, h1, h2⟩
  rw [pmS_one] at h1
  exact ⟨v, rfl, h0, h.tstep h1 h2⟩
theorem AW.take2 (h : AW w p M T T2 k L E w0) (hL : 0 ≤ L ∧ L ≤ 1000000000) (i : Nat) (hi : i < T2.n) :
    Calls Tryz.prog 44 #[.pointer (some ⟨p.D, 0, none⟩), .int .i64 (i : Int)] w fun e w' =>
      ∃ v, e = .returned (.tuple #[v, .int .i64 0]) ∧ w'.ownsRow w.heap.size 47 3 v (entsL (T2.M i) (T2.S i)).length (entV (entsL (T2.M i) (T2.S i))) ∧ AW w' p M T (T2.takeT i) k (L + 1) E w0 ∧ Chg (AX p M) w w' := by
  refine (h.d.take hL i hi).mono ?_
  rintro e w' ⟨v, rfl, h0, h1, h2⟩
  exact ⟨v, rfl, h0, h.dstep h1 h2⟩
theorem AW.takeNo (h : AW w p M T T2 k L E w0) (i : Int) (hi : i < 0 ∨ (T.n : Int) ≤ i) :
    Calls Tryz.prog 43 #[.pointer (some ⟨p.B, 0, none⟩), .agg #[.pointer (some ⟨M, 0, none⟩), .int .i64 1, .int .i64 0, .int .i64 0], .int .i64 i] w fun e w' =>
      e = .returned (.tuple #[.slice none 0 0, errN E 1]) ∧ Below w.heap.size w w' := h.t.takeNo i hi _ 1 0 0
theorem AW.take2No (h : AW w p M T T2 k L E w0) (i : Int) (hi : i < 0 ∨ (T2.n : Int) ≤ i) :
    Calls Tryz.prog 44 #[.pointer (some ⟨p.D, 0, none⟩), .int .i64 i] w fun e w' => e = .returned (.tuple #[.slice none 0 0, .int .i64 1]) ∧ w = w' := by
  obtain ⟨P, cap, GB, hd⟩ := h.d
  exact dttake_no hd i hi
theorem AW.scan (h : AW w p M T T2 k L E w0) (i : Nat) (hi : i < T.n) :
    Calls Tryz.prog 46 #[.pointer (some ⟨p.B, 0, none⟩), .agg #[.pointer (some ⟨M, 0, none⟩), .int .i64 1, .int .i64 0, .int .i64 0], .int .i64 (i : Int)] w fun e w' =>
      ∃ v, e = .returned (.tuple #[v, .nilIface]) ∧ w'.ownsRow w.heap.size 47 3 v (entsL (T.M i) (T.S i)).length (entV (entsL (T.M i) (T.S i))) ∧ AW w' p M T T2 (k + 1) L E w0 ∧ Chg (AX p M) w w' := by
  refine (h.t.scan i hi _ (LensAt.m M) 1 0 0).mono ?_
  rintro e w' ⟨v, rfl, h0, h1, h2⟩
  rw [pmS_one] at h1
  exact ⟨v, rfl, h0, h.tturn h1 h2⟩
theorem AW.least (h : AW w p M T T2 k L E w0) (key hs : Int) :
    Calls Tryz.prog 48 #[.pointer (some ⟨p.B, 0, none⟩), .agg #[.pointer (some ⟨M, 0, none⟩), .int .i64 1, .int .i64 0, .int .i64 0], .int .u64 hs, .int .u64 key] w fun e w' =>
      e = .returned (.tuple #[.agg #[.int .u64 (T.least ⟨key, 0, hs⟩).1.key, .int .u64 (T.least ⟨key, 0, hs⟩).1.val, .int .u64 (T.least ⟨key, 0, hs⟩).1.hash], .bool (T.least ⟨key, 0, hs⟩).2]) ∧ AW w' p M T T2 (k + T.n) L E w0 ∧ Chg (AX p M) w w' := by
  refine (tleast_any p.B p.Q T h.t.good key hs _ (some M) (LensAt.m M) (pmS k) 1 0 0 w h.t.t h.t.m (h.t.hlp.seek h.t.m h.t.low.lt) h.t.low.t).mono ?_
  rintro e w' ⟨rfl, h1, h2⟩
  rw [pmS_add] at h1
  exact ⟨rfl, h.tturn (h.t.turn h1 h2) h2⟩
end
end Go.Proofs.YtannohinhlefaaaGreatDoor

namespace Go.Proofs.YtannohinhlefaaaGreatDoor
open Go.RowKit Go.Proofs
attribute [local go_sem] neq_nilG eql_nilG nilT
def DoP (w' : World) (p : PB) (M n : Nat) (k : Nat) (L : Int) (E : Nat → Addr) (w0 : World) : Prop := ∃ (T' : TabS) (k' : Nat), T'.n = n ∧ k' ≤ 64 ∧ AW w' p M T' T' (k + k') (L + k') E w0
section
variable {w w' w0 : World} {p : PB} {M : Nat} {T T2 : TabS} {k : Nat} {L : Int} {E : Nat → Addr}
theorem AW.fresh {B : Nat} {Ty : TypeId} {c : Array Value} {w1 : World} (h : AW w p M T T2 k L E w0) (hb : Blk w B Ty c) (hc : Chg (AX p M) w w1) {wb : World} (hw : AW wb p M T T2 k L E w0) (hB : wb.heap.size ≤ B) : Blk w1 B Ty c := hb.chg hc (hw.new hB)
set_option maxRecDepth 100000 in
set_option maxHeartbeats 8000000 in
theorem do0_any (h : AW w p M T T k L E w0) (hL : 0 ≤ L ∧ L ≤ 1000000) (hes : ErrsAre w0 E) (key v : Int) (hs : Nat) (hh : hs < 18446744073709551616) (ky N : Int) :
    Calls Tryz.prog 9 #[.pointer (some ⟨p.B, 0, none⟩), .pointer (some ⟨p.D, 0, none⟩), .agg #[.pointer (some ⟨M, 0, none⟩), .int .i64 1, .int .i64 0, .int .i64 0], .agg #[.int .u64 key, .int .u64 v, .int .u64 (hs : Int)], .agg #[.int .i64 0, .int .i64 ky, .int .i64 N]] w fun e w' =>
      e = .returned (.bool true) ∧ DoP w' p M T.n k L E w0 := by
  have hlk := (looks_bd h.t.good key hs)
  have hbd := h.t.good.bounds
  have HA := Lib.hid h
  have HES := Lib.hid hes
  have P1 := Lib.hid (fun (w' : World) (h' : AW w' p M T T k L E w0) => h'.put key v hs hh)
  have P2 := Lib.hid (fun (w' : World) (h' : AW w' p M (T.putT key v hs) T (k + T.looks key hs) L E w0) => h'.put2 ⟨hL.1, by omega⟩ key v hs hh)
  have NU := Lib.hid (fun (w' : World) (h' : Below w0.heap.size w0 w') => num_any E (T.putN key hs) (by unfold TabS.putN; split <;> (try split) <;> omega) w' (HES.out.below (h'.mono (Nat.le_refl _))))
  have HN := Lib.hid (show (T.putT key v hs).n = T.n from by first | rfl | (unfold TabS.putT; split <;> (try split) <;> rfl))
  have hlk64 : T.looks key hs ≤ 64 := by omega
  generalize T.putB key hs = pb at *
  generalize T.putN key hs = pn at *
  clear h hes hbd
  go_enter Tryz.func9, Tryz.ntmps9
  go_upto_region 3 with (fail)
  refine wp_at (fun w1 hw1 => ?_)
  obtain ⟨z, hz⟩ : ∃ z, z = w.heap.size := ⟨_, rfl⟩
  have hb1 : Below w.heap.size w w1 := by rw [hw1]; go_grown
  have A1 := Lib.hid (HA.out.later hb1)
  have X7 := Lib.hid (show Blk w1 z 43 #[.pointer (some ⟨M, 0, none⟩), .int .i64 1, .int .i64 0, .int .i64 0] by rw [hw1, hz]; exact ((Blk.new _ _ _).alloc _).alloc _)
  have X8 := Lib.hid (show Blk w1 (z + 1) 47 #[.int .u64 key, .int .u64 v, .int .u64 (hs : Int)] by rw [hw1, hz]; exact (Blk.new_at (by simp)).alloc _)
  have X9 := Lib.hid (show Blk w1 (z + 1 + 1) 40 #[.int .i64 0, .int .i64 ky, .int .i64 N] by rw [hw1, hz]; exact Blk.new_at (by simp))
  have NX : Hid (∀ b, z ≤ b → ¬ AX p M b) := Lib.hid (fun b hb => HA.out.new (by omega))
  rw [← hz]
  replace hz := Lib.hid hz
  replace hw1 := Lib.hid hw1
  clear hb1
  obtain ⟨l0, l1, l2, l3⟩ := cells4 X7.out
  obtain ⟨e0, e1, e2⟩ := cells3 X8.out
  obtain ⟨c0, c1, c2⟩ := cells3 X9.out
  have zl := X7.out.lt
  have ze := X8.out.lt
  have za := X9.out.lt
  go_wp2_with (first
    | (go_at_call 31; (with_reducible refine (P1.out _ A1.out).mono ?_); rintro e w2 ⟨rfl, h2, hc2⟩; have A2 := Lib.hid h2; have Y8 := Lib.hid (X8.out.chg hc2 (NX.out _ (by omega))); have q2 := cells3 Y8.out; have q20 := q2.1; have q21 := q2.2.1; have q22 := q2.2.2; have zq := Y8.out.lt; clear q2 h2)
    | (go_at_call 39; (with_reducible refine (P2.out _ A2.out).mono ?_); rintro e w3 ⟨rfl, h3, hc3⟩; have A3 := Lib.hid h3; clear h3)
    | (go_at_call 8; (with_reducible refine (NU.out _ A3.out.t.bel).mono ?_); rintro e w4 ⟨rfl, hb4⟩; have A4 := Lib.hid (A3.out.later hb4)))
  go_ret
  exact ⟨rfl, _, T.looks key hs, HN.out, by omega, A4.out⟩
set_option maxRecDepth 100000 in
set_option maxHeartbeats 8000000 in
theorem do1_any (h : AW w p M T T k L E w0) (hL : 0 ≤ L ∧ L ≤ 1000000) (key v : Int) (hs : Nat) (hh : hs < 18446744073709551616) (ky N : Int) :
    Calls Tryz.prog 9 #[.pointer (some ⟨p.B, 0, none⟩), .pointer (some ⟨p.D, 0, none⟩), .agg #[.pointer (some ⟨M, 0, none⟩), .int .i64 1, .int .i64 0, .int .i64 0], .agg #[.int .u64 key, .int .u64 v, .int .u64 (hs : Int)], .agg #[.int .i64 1, .int .i64 ky, .int .i64 N]] w fun e w' =>
      e = .returned (.bool true) ∧ DoP w' p M T.n k L E w0 := by
  have hlk := (looks_bd h.t.good key hs)
  have hbd := h.t.good.bounds
  have hlk64 : T.looks key hs ≤ 64 := by omega
  have HA := Lib.hid h
  have P1 := Lib.hid (fun (w' : World) (h' : AW w' p M T T k L E w0) => h'.del key hs hh)
  have P2 := Lib.hid (fun (w' : World) (h' : AW w' p M (T.delT key hs) T (k + T.looks key hs) L E w0) => h'.del2 ⟨hL.1, by omega⟩ key hs hh)
  have HN := Lib.hid (delT_n T key hs)
  generalize T.has key hs = pb at *
  generalize T.ent key hs = en at *
  obtain ⟨n0, n1, n2⟩ := en
  dsimp only at P1 P2
  clear h hbd
  go_enter Tryz.func9, Tryz.ntmps9
  go_upto_region 7 with (fail)
  refine wp_at (fun w1 hw1 => ?_)
  obtain ⟨z, hz⟩ : ∃ z, z = w.heap.size := ⟨_, rfl⟩
  have hb1 : Below w.heap.size w w1 := by rw [hw1]; go_grown
  have A1 := Lib.hid (HA.out.later hb1)
  have X7 := Lib.hid (show Blk w1 z 43 #[.pointer (some ⟨M, 0, none⟩), .int .i64 1, .int .i64 0, .int .i64 0] by rw [hw1, hz]; exact ((Blk.new _ _ _).alloc _).alloc _)
  have X8 := Lib.hid (show Blk w1 (z + 1) 47 #[.int .u64 key, .int .u64 v, .int .u64 (hs : Int)] by rw [hw1, hz]; exact (Blk.new_at (by simp)).alloc _)
  have X9 := Lib.hid (show Blk w1 (z + 1 + 1) 40 #[.int .i64 1, .int .i64 ky, .int .i64 N] by rw [hw1, hz]; exact Blk.new_at (by simp))
  have NX : Hid (∀ b, z ≤ b → ¬ AX p M b) := Lib.hid (fun b hb => HA.out.new (by omega))
  rw [← hz]
  replace hz := Lib.hid hz
  replace hw1 := Lib.hid hw1
  clear hb1
  obtain ⟨l0, l1, l2, l3⟩ := cells4 X7.out
  obtain ⟨e0, e1, e2⟩ := cells3 X8.out
  obtain ⟨c0, c1, c2⟩ := cells3 X9.out
  have zl := X7.out.lt
  have ze := X8.out.lt
  have za := X9.out.lt
  go_wp2_with (first
    | (go_at_call 40; (with_reducible refine (P1.out _ A1.out).mono ?_); rintro e w2 ⟨rfl, h2, hc2⟩; have A2 := Lib.hid h2; have hz2 := hc2.size; have Y8 := Lib.hid ((X8.out.chg hc2 (NX.out _ (by omega))).alloc (.cells #[.int .u64 n0, .int .u64 n1, .int .u64 n2] 47)); have q2 := cells3 Y8.out; have q20 := q2.1; have q21 := q2.2.1; have q22 := q2.2.2; have zq := Y8.out.lt; clear q2 h2)
    | (go_at_call 41; (with_reducible refine (P2.out _ (A2.out.later ((Below.refl _ _).alloc (Nat.le_refl _) _))).mono ?_); rintro e w3 ⟨rfl, h3, hc3⟩; have A3 := Lib.hid h3; have Y15 := Lib.hid ((Blk.new w2 47 #[.int .u64 n0, .int .u64 n1, .int .u64 n2]).chg hc3 (NX.out _ (by omega))); have q3 := cells3 Y15.out; have q30 := q3.1; have q31 := q3.2.1; have q32 := q3.2.2; have zq3 := Y15.out.lt; clear q3 h3))
  go_ret
  exact ⟨rfl, _, T.looks key hs, HN.out, by omega, A3.out.later ((Below.refl _ _).alloc (Nat.le_refl _) _)⟩
set_option maxRecDepth 100000 in
set_option maxHeartbeats 8000000 in
theorem do2_any (h : AW w p M T T k L E w0) (hL : 0 ≤ L ∧ L ≤ 1000000) (key v : Int) (hs : Nat) (hh : hs < 18446744073709551616) (ky N : Int) :
    Calls Tryz.prog 9 #[.pointer (some ⟨p.B, 0, none⟩), .pointer (some ⟨p.D, 0, none⟩), .agg #[.pointer (some ⟨M, 0, none⟩), .int .i64 1, .int .i64 0, .int .i64 0], .agg #[.int .u64 key, .int .u64 v, .int .u64 (hs : Int)], .agg #[.int .i64 2, .int .i64 ky, .int .i64 N]] w fun e w' =>
      e = .returned (.bool true) ∧ DoP w' p M T.n k L E w0 := by
  have hlk := (looks_bd h.t.good key hs)
  have hbd := h.t.good.bounds
  have hlk64 : T.looks key hs ≤ 64 := by omega
  have HA := Lib.hid h
  have P1 := Lib.hid (fun (w' : World) (h' : AW w' p M T T k L E w0) => h'.find key hs hh)
  have P2 := Lib.hid (fun (w' : World) (h' : AW w' p M T T (k + T.looks key hs) L E w0) => h'.find2 ⟨hL.1, by omega⟩ key hs hh)
  generalize T.has key hs = pb at *
  generalize T.ent key hs = en at *
  obtain ⟨n0, n1, n2⟩ := en
  dsimp only at P1 P2
  clear h hbd
  go_enter Tryz.func9, Tryz.ntmps9
  go_upto_region 11 with (fail)
  refine wp_at (fun w1 hw1 => ?_)
  obtain ⟨z, hz⟩ : ∃ z, z = w.heap.size := ⟨_, rfl⟩
  have hb1 : Below w.heap.size w w1 := by rw [hw1]; go_grown
  have A1 := Lib.hid (HA.out.later hb1)
  have X7 := Lib.hid (show Blk w1 z 43 #[.pointer (some ⟨M, 0, none⟩), .int .i64 1, .int .i64 0, .int .i64 0] by rw [hw1, hz]; exact ((Blk.new _ _ _).alloc _).alloc _)
  have X8 := Lib.hid (show Blk w1 (z + 1) 47 #[.int .u64 key, .int .u64 v, .int .u64 (hs : Int)] by rw [hw1, hz]; exact (Blk.new_at (by simp)).alloc _)
  have X9 := Lib.hid (show Blk w1 (z + 1 + 1) 40 #[.int .i64 2, .int .i64 ky, .int .i64 N] by rw [hw1, hz]; exact Blk.new_at (by simp))
  have NX : Hid (∀ b, z ≤ b → ¬ AX p M b) := Lib.hid (fun b hb => HA.out.new (by omega))
  rw [← hz]
  replace hz := Lib.hid hz
  replace hw1 := Lib.hid hw1
  clear hb1
  obtain ⟨l0, l1, l2, l3⟩ := cells4 X7.out
  obtain ⟨e0, e1, e2⟩ := cells3 X8.out
  obtain ⟨c0, c1, c2⟩ := cells3 X9.out
  have zl := X7.out.lt
  have ze := X8.out.lt
  have za := X9.out.lt
  go_wp2_with (first
    | (go_at_call 26; (with_reducible refine (P1.out _ A1.out).mono ?_); rintro e w2 ⟨rfl, h2, hc2⟩; have A2 := Lib.hid h2; have hz2 := hc2.size; have Y8 := Lib.hid ((X8.out.chg hc2 (NX.out _ (by omega))).alloc (.cells #[.int .u64 n0, .int .u64 n1, .int .u64 n2] 47)); have q2 := cells3 Y8.out; have q20 := q2.1; have q21 := q2.2.1; have q22 := q2.2.2; have zq := Y8.out.lt; clear q2 h2)
    | (go_at_call 42; (with_reducible refine (P2.out _ (A2.out.later ((Below.refl _ _).alloc (Nat.le_refl _) _))).mono ?_); rintro e w3 ⟨rfl, h3, hc3⟩; have A3 := Lib.hid h3; have Y15 := Lib.hid ((Blk.new w2 47 #[.int .u64 n0, .int .u64 n1, .int .u64 n2]).chg hc3 (NX.out _ (by omega))); have q3 := cells3 Y15.out; have q30 := q3.1; have q31 := q3.2.1; have q32 := q3.2.2; have zq3 := Y15.out.lt; clear q3 h3))
  go_ret
  exact ⟨rfl, _, T.looks key hs, rfl, by omega, A3.out.later ((Below.refl _ _).alloc (Nat.le_refl _) _)⟩
end
end Go.Proofs.YtannohinhlefaaaGreatDoor

namespace Go.Proofs.YtannohinhlefaaaGreatDoor
open Go.RowKit Go.Proofs
attribute [local go_sem] neq_nilG eql_nilG nilT
theorem readsEnts_row {w : World} {base : Nat} {v : Value} {l : List EntS} (h : w.ownsRow base 47 3 v l.length (entV l)) : ReadsEnts w v l := readsEnts_own h
theorem readsEnts_none (w : World) : ReadsEnts w (.slice none 0 0) [] := ⟨none, 0, rfl, fun h => absurd rfl h⟩
section
variable {w w' w0 : World} {p : PB} {M : Nat} {T T2 : TabS} {k : Nat} {L : Int} {E : Nat → Addr}
set_option maxRecDepth 100000 in
set_option maxHeartbeats 8000000 in
theorem do3_ok (h : AW w p M T T k L E w0) (hL : 0 ≤ L ∧ L ≤ 1000000) (key v : Int) (hs : Nat) (hh : hs < 18446744073709551616) (ky : Int) (i : Nat) (hi : i < T.n) :
    Calls Tryz.prog 9 #[.pointer (some ⟨p.B, 0, none⟩), .pointer (some ⟨p.D, 0, none⟩), .agg #[.pointer (some ⟨M, 0, none⟩), .int .i64 1, .int .i64 0, .int .i64 0], .agg #[.int .u64 key, .int .u64 v, .int .u64 (hs : Int)], .agg #[.int .i64 3, .int .i64 ky, .int .i64 (i : Int)]] w fun e w' =>
      e = .returned (.bool true) ∧ DoP w' p M T.n k L E w0 := by
  have HA := Lib.hid h
  have P1 := Lib.hid (fun (w' : World) (h' : AW w' p M T T k L E w0) => h'.take i hi)
  have P2 := Lib.hid (fun (w' : World) (h' : AW w' p M (T.takeT i) T (k + 1) L E w0) => h'.take2 ⟨hL.1, by omega⟩ i hi)
  have HN := Lib.hid (takeT_n T i)
  have HLE := Lib.hid (entsL_len (T.M i) (T.S i))
  generalize entsL (T.M i) (T.S i) = l at *
  have SE := Lib.hid (fun (v1 v2 : Value) (w' : World) (h1 : ReadsEnts w' v1 l) (h2 : ReadsEnts w' v2 l) => sameEnts_any v1 v2 l w' h1 h2 (by have := HLE.out; omega))
  clear h
  go_enter Tryz.func9, Tryz.ntmps9
  go_upto_region 15 with (fail)
  refine wp_at (fun w1 hw1 => ?_)
  obtain ⟨z, hz⟩ : ∃ z, z = w.heap.size := ⟨_, rfl⟩
  have hb1 : Below w.heap.size w w1 := by rw [hw1]; go_grown
  have A1 := Lib.hid (HA.out.later hb1)
  have X7 := Lib.hid (show Blk w1 z 43 #[.pointer (some ⟨M, 0, none⟩), .int .i64 1, .int .i64 0, .int .i64 0] by rw [hw1, hz]; exact ((Blk.new _ _ _).alloc _).alloc _)
  have X8 := Lib.hid (show Blk w1 (z + 1) 47 #[.int .u64 key, .int .u64 v, .int .u64 (hs : Int)] by rw [hw1, hz]; exact (Blk.new_at (by simp)).alloc _)
  have X9 := Lib.hid (show Blk w1 (z + 1 + 1) 40 #[.int .i64 3, .int .i64 ky, .int .i64 (i : Int)] by rw [hw1, hz]; exact Blk.new_at (by simp))
  have NX : Hid (∀ b, z ≤ b → ¬ AX p M b) := Lib.hid (fun b hb => HA.out.new (by omega))
  rw [← hz]
  have HZ1 := Lib.hid (show z ≤ w1.heap.size by have := hb1.size; omega)
  replace hz := Lib.hid hz
  replace hw1 := Lib.hid hw1
  clear hb1
  obtain ⟨l0, l1, l2, l3⟩ := cells4 X7.out
  obtain ⟨e0, e1, e2⟩ := cells3 X8.out
  obtain ⟨c0, c1, c2⟩ := cells3 X9.out
  have zl := X7.out.lt
  have ze := X8.out.lt
  have za := X9.out.lt
  go_wp2_with (first
    | (go_at_call 43; (with_reducible refine (P1.out _ A1.out).mono ?_); rintro e w2 ⟨v1, rfl, hr2, h2, hc2⟩; have A2 := Lib.hid h2; have R2 := Lib.hid hr2; have Y9 := Lib.hid (X9.out.chg hc2 (NX.out _ (by omega))); have q2 := cells3 Y9.out; have q22 := q2.2.2; have zq := Y9.out.lt; clear q2 h2 hr2)
    | (go_at_call 44; (with_reducible refine (P2.out _ A2.out).mono ?_); rintro e w3 ⟨v2, rfl, hr3, h3, hc3⟩; have A3 := Lib.hid h3; have E3 := Lib.hid (readsEnts_row hr3); have E2 := Lib.hid (readsEnts_row (ownsRow_chg R2.out hc3 (fun b hb => NX.out b (Nat.le_trans HZ1.out hb)))); clear h3 hr3)
    | (go_at_call 45; (with_reducible refine (SE.out _ _ _ E2.out E3.out).mono ?_); rintro e w4 ⟨rfl, hb4⟩; have A4 := Lib.hid (A3.out.later hb4))
    | (go_at_call 8; (with_reducible refine (num_nil _).mono ?_); rintro e w5 ⟨rfl, rfl⟩))
  go_ret
  exact ⟨rfl, _, 1, HN.out, by omega, A4.out⟩
set_option maxRecDepth 100000 in
set_option maxHeartbeats 8000000 in
theorem do3_no (h : AW w p M T T k L E w0) (hes : ErrsAre w0 E) (key v : Int) (hs : Nat) (hh : hs < 18446744073709551616) (ky i : Int) (hi : i < 0 ∨ (T.n : Int) ≤ i) :
    Calls Tryz.prog 9 #[.pointer (some ⟨p.B, 0, none⟩), .pointer (some ⟨p.D, 0, none⟩), .agg #[.pointer (some ⟨M, 0, none⟩), .int .i64 1, .int .i64 0, .int .i64 0], .agg #[.int .u64 key, .int .u64 v, .int .u64 (hs : Int)], .agg #[.int .i64 3, .int .i64 ky, .int .i64 i]] w fun e w' =>
      e = .returned (.bool true) ∧ DoP w' p M T.n k L E w0 := by
  have HA := Lib.hid h
  have P1 := Lib.hid (fun (w' : World) (h' : AW w' p M T T k L E w0) => h'.takeNo i hi)
  have P2 := Lib.hid (fun (w' : World) (h' : AW w' p M T T k L E w0) => h'.take2No i hi)
  have NU := Lib.hid (fun (w' : World) (h' : Below w0.heap.size w0 w') => num_any E 1 (by decide) w' (hes.below (h'.mono (Nat.le_refl _))))
  have SE := Lib.hid (fun (w' : World) => sameEnts_any (.slice none 0 0) (.slice none 0 0) [] w' (readsEnts_none w') (readsEnts_none w') (by decide))
  clear h hi
  go_enter Tryz.func9, Tryz.ntmps9
  go_upto_region 15 with (fail)
  refine wp_at (fun w1 hw1 => ?_)
  obtain ⟨z, hz⟩ : ∃ z, z = w.heap.size := ⟨_, rfl⟩
  have hb1 : Below w.heap.size w w1 := by rw [hw1]; go_grown
  have A1 := Lib.hid (HA.out.later hb1)
  have X7 := Lib.hid (show Blk w1 z 43 #[.pointer (some ⟨M, 0, none⟩), .int .i64 1, .int .i64 0, .int .i64 0] by rw [hw1, hz]; exact ((Blk.new _ _ _).alloc _).alloc _)
  have X8 := Lib.hid (show Blk w1 (z + 1) 47 #[.int .u64 key, .int .u64 v, .int .u64 (hs : Int)] by rw [hw1, hz]; exact (Blk.new_at (by simp)).alloc _)
  have X9 := Lib.hid (show Blk w1 (z + 1 + 1) 40 #[.int .i64 3, .int .i64 ky, .int .i64 i] by rw [hw1, hz]; exact Blk.new_at (by simp))
  have NX : Hid (∀ b, z ≤ b → ¬ AX p M b) := Lib.hid (fun b hb => HA.out.new (by omega))
  rw [← hz]
  have HZ1 := Lib.hid (show z ≤ w1.heap.size by have := hb1.size; omega)
  replace hz := Lib.hid hz
  replace hw1 := Lib.hid hw1
  clear hb1
  obtain ⟨l0, l1, l2, l3⟩ := cells4 X7.out
  obtain ⟨e0, e1, e2⟩ := cells3 X8.out
  obtain ⟨c0, c1, c2⟩ := cells3 X9.out
  have zl := X7.out.lt
  have ze := X8.out.lt
  have za := X9.out.lt
  go_wp2_with (first
    | (go_at_call 43; (with_reducible refine (P1.out _ A1.out).mono ?_); rintro e w2 ⟨rfl, hb2⟩; have A2 := Lib.hid (A1.out.later hb2); have Y9 := Lib.hid (X9.out.below hb2 X9.out.lt); have q2 := cells3 Y9.out; have q22 := q2.2.2; have zq := Y9.out.lt; clear q2)
    | (go_at_call 44; (with_reducible refine (P2.out _ A2.out).mono ?_); rintro e w3 ⟨rfl, rfl⟩)
    | (go_at_call 45; (with_reducible refine (SE.out _).mono ?_); rintro e w4 ⟨rfl, hb4⟩; have A4 := Lib.hid (A2.out.later hb4))
    | (go_at_call 8; (with_reducible refine (NU.out _ A4.out.t.bel).mono ?_); rintro e w5 ⟨rfl, hb5⟩; have A5 := Lib.hid (A4.out.later hb5)))
  go_ret
  exact ⟨rfl, _, 0, rfl, by omega, by simpa using A5.out⟩
end
end Go.Proofs.YtannohinhlefaaaGreatDoor

namespace Go.Proofs.YtannohinhlefaaaGreatDoor
open Go.RowKit Go.Proofs
attribute [local go_sem] neq_nilG eql_nilG nilT
section
variable {w w' w0 : World} {B Q : Nat} {lp : Option Nat} {T : TabS} {mt : MeterS} {E : Nat → Addr}
set_option maxRecDepth 100000 in
theorem TMW.scanNo (hS : TMW w B Q lp T mt E w0) (i : Int) (hi : i < 0 ∨ (T.n : Int) ≤ i) (q : Option Addr) (x1 y1 z1 : Int) :
    Calls Tryz.prog 46 #[.pointer (some ⟨B, 0, none⟩), .agg #[.pointer q, .int .i64 x1, .int .i64 y1, .int .i64 z1], .int .i64 i] w fun e w' =>
      e = .returned (.tuple #[.slice none 0 0, errAt E 1]) ∧ Below w.heap.size w w' := by
  have hbd := hS.good.bounds
  have LB := Lib.hid (fun (w' : World) (h : TMW w' B Q lp T mt E w0) => tlook_bad B Q T (by omega) i hi (.int .i64 0) x1 y1 z1 q w' h.t)
  have HS := Lib.hid hS
  have HE := Lib.hid (fun (w' : World) (h : TMW w' B Q lp T mt E w0) => (show w'.cell? ⟨2, 0, none⟩ = some (errAt E 1) from h.low.e 1 (by decide)))
  unfold errAt at *
  clear hS hbd hi
  go_enter Tryz.func46, Tryz.ntmps46
  go_wp2_with (go_at_call 80; (with_reducible refine (LB.out _ (HS.out.alloc _)).mono ?_); rintro e w1 ⟨rfl, hb1⟩; have S1 := Lib.hid ((HS.out.alloc _).later hb1); have e1 := HE.out _ (S1.out.alloc (.cells #[.pointer none] 83)); have z1' := World.block_lt_of_cell? _ _ e1)
  refine wp_region_seq (fun _ => False) #[⟨0, 0, 524288, 0, 1⟩, ⟨0, 0, 64, 0, 0⟩, ⟨3, 3, 128, 524288, 0⟩] 1 [(0, 1), (1, 0), (2, 0)] (by kernel_rfl) (by kernel_rfl) (by kernel_rfl) (by kernel_rfl) (by kernel_rfl) (by kernel_rfl) (fun c a d v w h => by cases d <;> exact h) ?_
  refine seq_load1A (hu := Tryz.underlying27) (h := ?_)
  try simp only [Act.put, List.setIfInBounds_toArray, List.set_cons_zero, List.set_cons_succ]
  refine seq_calcA (h := ?_)
  try simp only [Act.put, List.setIfInBounds_toArray, List.set_cons_zero, List.set_cons_succ]
  refine seq_calcA (h := ?_)
  try simp only [Act.put, List.setIfInBounds_toArray, List.set_cons_zero, List.set_cons_succ]
  refine seq_nil ?_
  go_wp2
  go_ret2
  have hq : Below w.heap.size w (w1.alloc (.cells #[.pointer none] 83)) := (((Below.refl _ _).alloc (Nat.le_refl _) _).trans (hb1.mono (by simp))).alloc (by have := hb1.size; simp at this; omega) _
  exact ⟨rfl, by first | exact hq | exact hq.drew⟩
end
section
variable {w w' w0 : World} {p : PB} {M : Nat} {T T2 : TabS} {k : Nat} {L : Int} {E : Nat → Addr}
set_option maxRecDepth 100000 in
set_option maxHeartbeats 8000000 in
theorem do4_ok (h : AW w p M T T k L E w0) (hL : 0 ≤ L ∧ L ≤ 1000000) (key v : Int) (hs : Nat) (hh : hs < 18446744073709551616) (ky : Int) (i : Nat) (hi : i < T.n) :
    Calls Tryz.prog 9 #[.pointer (some ⟨p.B, 0, none⟩), .pointer (some ⟨p.D, 0, none⟩), .agg #[.pointer (some ⟨M, 0, none⟩), .int .i64 1, .int .i64 0, .int .i64 0], .agg #[.int .u64 key, .int .u64 v, .int .u64 (hs : Int)], .agg #[.int .i64 4, .int .i64 ky, .int .i64 (i : Int)]] w fun e w' =>
      e = .returned (.bool true) ∧ DoP w' p M T.n k L E w0 := by
  have HA := Lib.hid h
  have hn64 := h.t.good.bounds.1
  have P1 := Lib.hid (fun (w' : World) (h' : AW w' p M T T k L E w0) => h'.scan i hi)
  have HLE := Lib.hid (entsL_len (T.M i) (T.S i))
  have HI := Lib.hid hi
  have TE := Lib.hid (fun (R : Nat) (w' : World) (h' : DW w' R (T.M i) (T.S i)) => dentries_any R (T.M i) (T.S i) w' h')
  generalize entsL (T.M i) (T.S i) = l at *
  have SE := Lib.hid (fun (v1 v2 : Value) (w' : World) (h1 : ReadsEnts w' v1 l) (h2 : ReadsEnts w' v2 l) => sameEnts_any v1 v2 l w' h1 h2 (by have := HLE.out; omega))
  have i1 : decide ((i : Int) < 0) = false := by simp
  obtain ⟨n, hn⟩ : ∃ n, n = T.n := ⟨_, rfl⟩
  have hiI : (i : Int) < (n : Int) := by omega
  have i2 : decide ((i : Int) ≥ (n : Int)) = false := by rw [decide_eq_false_iff_not]; omega
  have i3 : decide ((n : Int) ≤ (i : Int)) = false := by rw [decide_eq_false_iff_not]; omega
  have HN := Lib.hid hn
  have hL1 : IntKind.i64.wrap (L + 1) = L + 1 := by rw [IntKind.wrap_i64]; omega
  clear h hi hn
  go_enter Tryz.func9, Tryz.ntmps9
  go_upto_region 19 with (fail)
  refine wp_at (fun w1 hw1 => ?_)
  obtain ⟨z, hz⟩ : ∃ z, z = w.heap.size := ⟨_, rfl⟩
  have hb1 : Below w.heap.size w w1 := by rw [hw1]; go_grown
  have A1 := Lib.hid (HA.out.later hb1)
  have X7 := Lib.hid (show Blk w1 z 43 #[.pointer (some ⟨M, 0, none⟩), .int .i64 1, .int .i64 0, .int .i64 0] by rw [hw1, hz]; exact ((Blk.new _ _ _).alloc _).alloc _)
  have X8 := Lib.hid (show Blk w1 (z + 1) 47 #[.int .u64 key, .int .u64 v, .int .u64 (hs : Int)] by rw [hw1, hz]; exact (Blk.new_at (by simp)).alloc _)
  have X9 := Lib.hid (show Blk w1 (z + 1 + 1) 40 #[.int .i64 4, .int .i64 ky, .int .i64 (i : Int)] by rw [hw1, hz]; exact Blk.new_at (by simp))
  have NX : Hid (∀ b, z ≤ b → ¬ AX p M b) := Lib.hid (fun b hb => HA.out.new (by omega))
  rw [← hz]
  have HZ1 := Lib.hid (show z ≤ w1.heap.size by have := hb1.size; omega)
  replace hz := Lib.hid hz
  replace hw1 := Lib.hid hw1
  clear hb1
  obtain ⟨l0, l1, l2, l3⟩ := cells4 X7.out
  obtain ⟨e0, e1, e2⟩ := cells3 X8.out
  obtain ⟨c0, c1, c2⟩ := cells3 X9.out
  have zl := X7.out.lt
  have ze := X8.out.lt
  have za := X9.out.lt
  go_upto_region 20 with (go_at_call 46; (with_reducible refine (P1.out _ A1.out).mono ?_); rintro e w2 ⟨v1, rfl, hr2, h2, hc2⟩; have A2 := Lib.hid h2; have R2 := Lib.hid hr2; have Y9 := Lib.hid (X9.out.chg hc2 (NX.out _ (by omega))); have q2 := cells3 Y9.out; have q22 := q2.2.2; have zq := Y9.out.lt; clear q2 h2 hr2)
  obtain ⟨P, cap, GB, hd⟩ := A2.out.d
  have HD := Lib.hid hd
  obtain ⟨d0, d1, zD, fD⟩ := dcells hd
  rw [← HN.out] at d0
  clear hd
  refine wp_region_seq (fun _ => False) #[⟨0, 0, 11417981541647679048466287755595961091061972992, 512, 0⟩, ⟨1, 1, 22835963083295358096932575511191922182123945984, 11417981541647679048466287755595961091061972992, 1⟩, ⟨2, 3, 45671926166590716193865151022383844364247891968, 22835963083295358096932575511191922182123945984, 0⟩, ⟨4, 7, 91343852333181432387730302044767688728495783936, 45671926166590716193865151022383844364247891968, 0⟩, ⟨8, 15, 182687704666362864775460604089535377456991567872, 91343852333181432387730302044767688728495784448, 0⟩, ⟨24, 31, 365375409332725729550921208179070754913983135744, 274031556999544297163190906134303066185487351808, 1⟩, ⟨8, 15, 730750818665451459101842416358141509827966271488, 91343852333181432387730302044767688728495783938, 0⟩, ⟨72, 79, 1461501637330902918203684832716283019655932542976, 822094670998632891489572718402909198556462055424, 0⟩, ⟨136, 207, 2923003274661805836407369665432566039311865085952, 1552845489664084350591415134761050708384428326912, 0⟩, ⟨264, 463, 5846006549323611672814739330865132078623730171904, 3014347126994987268795099967477333728040360869888, 1⟩, ⟨520, 975, 11692013098647223345629478661730264157247460343808, 5937350401656793105202469632909899767352225955840, 0⟩, ⟨1064, 2047, 23384026197294446691258957323460528314494920687616, 12148732360313130507568130171954102600889939263488, 0⟩, ⟨2056, 4095, 46768052394588893382517914646921056628989841375232, 23475370049627628123646687625505296003223416471552, 0⟩] 546 [(0, 0), (1, 1), (2, 0), (3, 0), (4, 0), (5, 1), (6, 0), (7, 0), (8, 0), (9, 1), (10, 0), (11, 0), (12, 0)] (by kernel_rfl) (by kernel_rfl) (by kernel_rfl) (by kernel_rfl) (by kernel_rfl) (by kernel_rfl) (fun c a d v w h => by cases d <;> exact h) ?_
  refine seq_calcA (h := ?_)
  try simp only [Act.put, List.setIfInBounds_toArray, List.set_cons_zero, List.set_cons_succ]
  refine seq_load1A (hu := Tryz.underlying3) (h := ?_)
  try simp only [Act.put, List.setIfInBounds_toArray, List.set_cons_zero, List.set_cons_succ]
  refine seq_calcA (h := ?_)
  try simp only [Act.put, List.setIfInBounds_toArray, List.set_cons_zero, List.set_cons_succ]
  refine seq_calcA (h := ?_)
  try simp only [Act.put, List.setIfInBounds_toArray, List.set_cons_zero, List.set_cons_succ]
  first
    | (refine seq_skipA (h := ?_))
    | (refine seq_calcA (h := ?_))
  try simp only [Act.put, List.setIfInBounds_toArray, List.set_cons_zero, List.set_cons_succ]
  first
    | (refine seq_skipA (h := ?_))
    | (refine seq_load1A (hu := Tryz.underlying3) (h := ?_))
  try simp only [Act.put, List.setIfInBounds_toArray, List.set_cons_zero, List.set_cons_succ]
  first
    | (refine seq_skipA (h := ?_))
    | (refine seq_calcA (h := ?_))
  try simp only [Act.put, List.setIfInBounds_toArray, List.set_cons_zero, List.set_cons_succ]
  first
    | (refine seq_skipA (h := ?_))
    | (refine seq_calcA (h := ?_))
  try simp only [Act.put, List.setIfInBounds_toArray, List.set_cons_zero, List.set_cons_succ]
  first
    | (refine seq_skipA (h := ?_))
    | (refine seq_calcA (h := ?_))
  try simp only [Act.put, List.setIfInBounds_toArray, List.set_cons_zero, List.set_cons_succ]
  first
    | (refine seq_skipA (h := ?_))
    | (refine seq_load1A (hu := Tryz.underlying53) (h := ?_))
  try simp only [Act.put, List.setIfInBounds_toArray, List.set_cons_zero, List.set_cons_succ]
  first
    | (refine seq_skipA (h := ?_))
    | (refine seq_calcA (h := ?_))
  try simp only [Act.put, List.setIfInBounds_toArray, List.set_cons_zero, List.set_cons_succ]
  first
    | (refine seq_skipA (h := ?_))
    | (refine seq_calcA (h := ?_))
  try simp only [Act.put, List.setIfInBounds_toArray, List.set_cons_zero, List.set_cons_succ]
  refine seq_calcA (h := ?_)
  try simp only [Act.put, List.setIfInBounds_toArray, List.set_cons_zero, List.set_cons_succ]
  refine seq_nil ?_
  go_upto_region 23 with (fail)
  refine wp_at (fun w3 hw3 => ?_)
  have D3 := Lib.hid (show DT w3 p.mid p.hi p.D P cap GB T (L + 1) by rw [hw3]; exact HD.out.drew.looks (L + 1))
  have hc3 : Chg (fun b => b = p.D) w2 w3 := by rw [hw3]; exact (Chg.drew (Chg.refl _ _)).set1 _ _
  obtain ⟨hA3, hcx⟩ := A2.out.dturn (show DX w3 p.mid p.hi p.D T (L + 1) from ⟨P, cap, GB, D3.out⟩) hc3
  have A3 := Lib.hid hA3
  have R3 := Lib.hid (ownsRow_chg R2.out hcx (fun b hb => NX.out b (Nat.le_trans HZ1.out hb)))
  have Y3 := Lib.hid (Y9.out.chg hcx (NX.out _ (by omega)))
  replace hw3 := Lib.hid hw3
  clear hc3 hA3 hcx d0 d1 zD fD q22 zq Y9 R2
  obtain ⟨d0, d1, zD, fD⟩ := dcells D3.out
  rw [← HN.out] at d0
  obtain ⟨-, -, q22⟩ := cells3 Y3.out
  have zq := Y3.out.lt
  have p0 := D3.out.ptr i HI.out
  have zP := D3.out.pz
  have G3 := Lib.hid (D3.out.g i HI.out)
  refine wp_region_seq (fun _ => False) #[⟨0, 0, 3064991081731777716716694054300618367237478244367204352, 268435456, 0⟩, ⟨1, 1, 6129982163463555433433388108601236734474956488734408704, 3064991081731777716716694054300618367237478244367204352, 0⟩, ⟨2, 3, 12259964326927110866866776217202473468949912977468817408, 6129982163463555433433388108601236734474956488734408704, 0⟩, ⟨4, 7, 24519928653854221733733552434404946937899825954937634816, 12259964326927110866866776217202473468949912977603035136, 0⟩, ⟨4, 7, 49039857307708443467467104868809893875799651909875269632, 12259964326927110866866776217202473468949912977468817410, 0⟩, ⟨20, 23, 98079714615416886934934209737619787751599303819750539264, 61299821634635554334333881086012367344749564887344087040, 0⟩, ⟨36, 55, 196159429230833773869868419475239575503198607639501078528, 110339678942343997801800985954822261220549216797219356672, 0⟩, ⟨68, 119, 392318858461667547739736838950479151006397215279002157056, 208419393557760884736735195692442048972148520616969895936, 1⟩, ⟨4, 7, 784637716923335095479473677900958302012794430558004314112, 12259964326927110866866776217202473468949912977468817920, 0⟩, ⟨260, 263, 1569275433846670190958947355801916604025588861116008628224, 796897681250262206346340454118160775481744343535473131520, 1⟩, ⟨644, 1015, 3138550867693340381917894711603833208051177722232017256448, 1973854256635264849565550970969598228500935989372479602688, 0⟩, ⟨1028, 2039, 6277101735386680763835789423207666416102355444464034512896, 3150810832020267492784761487821035681520127635209486073856, 1⟩, ⟨2052, 4087, 12554203470773361527671578846415332832204710888928069025792, 6289361699713607874702656199424868889571305357441503330304, 3⟩, ⟨4108, 8191, 25108406941546723055343157692830665664409421777856138051584, 12590983363754142860272179175066940252611560627860475478016, 3⟩, ⟨8196, 16383, 50216813883093446110686315385661331328818843555712276103168, 25120666905873650166210024469047868137878371690833606868992, 0⟩, ⟨32767, 32767, 1024, 50216813883093446110686315385661331328818843555712276103168, 0⟩] 2688 [(0, 0), (1, 0), (2, 0), (3, 0), (4, 0), (5, 0), (6, 0), (7, 1), (8, 0), (9, 1), (10, 0), (11, 1), (12, 3), (13, 3), (14, 0), (15, 0)] (by kernel_rfl) (by kernel_rfl) (by kernel_rfl) (by kernel_rfl) (by kernel_rfl) (by kernel_rfl) (fun c a d v w h => by cases d <;> exact h) ?_
  refine seq_calcA (h := ?_)
  try simp only [Act.put, List.setIfInBounds_toArray, List.set_cons_zero, List.set_cons_succ]
  refine seq_calcA (h := ?_)
  try simp only [Act.put, List.setIfInBounds_toArray, List.set_cons_zero, List.set_cons_succ]
  refine seq_calcA (h := ?_)
  try simp only [Act.put, List.setIfInBounds_toArray, List.set_cons_zero, List.set_cons_succ]
  first
    | (refine seq_skipA (h := ?_))
    | (refine seq_calcA (h := ?_))
  try simp only [Act.put, List.setIfInBounds_toArray, List.set_cons_zero, List.set_cons_succ]
  first
    | (refine seq_skipA (h := ?_))
    | (refine seq_calcA (h := ?_))
  try simp only [Act.put, List.setIfInBounds_toArray, List.set_cons_zero, List.set_cons_succ]
  first
    | (refine seq_skipA (h := ?_))
    | (refine seq_calcA (h := ?_))
  try simp only [Act.put, List.setIfInBounds_toArray, List.set_cons_zero, List.set_cons_succ]
  first
    | (refine seq_skipA (h := ?_))
    | (refine seq_calcA (h := ?_))
  try simp only [Act.put, List.setIfInBounds_toArray, List.set_cons_zero, List.set_cons_succ]
  first
    | (refine seq_skipA (h := ?_))
    | (refine seq_load1A (hu := Tryz.underlying53) (h := ?_))
  try simp only [Act.put, List.setIfInBounds_toArray, List.set_cons_zero, List.set_cons_succ]
  first
    | (refine seq_skipA (h := ?_))
    | (refine seq_calcA (h := ?_))
  try simp only [Act.put, List.setIfInBounds_toArray, List.set_cons_zero, List.set_cons_succ]
  first
    | (refine seq_skipA (h := ?_))
    | (refine seq_load1A (hu := Tryz.underlying3) (h := ?_))
  try simp only [Act.put, List.setIfInBounds_toArray, List.set_cons_zero, List.set_cons_succ]
  first
    | (refine seq_skipA (h := ?_))
    | (refine seq_calcA (h := ?_))
  try simp only [Act.put, List.setIfInBounds_toArray, List.set_cons_zero, List.set_cons_succ]
  first
    | (refine seq_skipA (h := ?_))
    | (refine seq_load1A (hu := Tryz.underlying90) (h := ?_))
  try simp only [Act.put, List.setIfInBounds_toArray, List.set_cons_zero, List.set_cons_succ]
  first
    | (refine seq_skipA (h := ?_))
    | (refine seq_lastA (h := fun K hK => ?_); go_wp2_with (first | (go_at_call 47; (with_reducible refine (TE.out _ _ (G3.out.below (Below.refl _ _).drew G3.out.lt)).mono ?_); rintro e w4 ⟨v2, rfl, hr4, hb4⟩; have A4 := Lib.hid ((A3.out.later (Below.refl _ _).drew).later hb4); have E4 := Lib.hid (readsEnts_row hr4); have E3 := Lib.hid (readsEnts_row (ownsRow_later (ownsRow_later R3.out (Below.refl _ _).drew) hb4)); clear hr4) | (go_at_call 45; (with_reducible refine (SE.out _ _ _ E3.out E4.out).mono ?_); rintro e w5 ⟨rfl, hb5⟩; have A5 := Lib.hid (A4.out.later hb5))); refine hK.out _ _ ?_; clear hK K)
  try simp only [Act.put, List.setIfInBounds_toArray, List.set_cons_zero, List.set_cons_succ]
  first
    | (refine seq_skipA (h := ?_))
    | (refine seq_lastA (h := fun K hK => ?_); go_wp2_with (first | (go_at_call 47; (with_reducible refine (TE.out _ _ (G3.out.below (Below.refl _ _).drew G3.out.lt)).mono ?_); rintro e w4 ⟨v2, rfl, hr4, hb4⟩; have A4 := Lib.hid ((A3.out.later (Below.refl _ _).drew).later hb4); have E4 := Lib.hid (readsEnts_row hr4); have E3 := Lib.hid (readsEnts_row (ownsRow_later (ownsRow_later R3.out (Below.refl _ _).drew) hb4)); clear hr4) | (go_at_call 45; (with_reducible refine (SE.out _ _ _ E3.out E4.out).mono ?_); rintro e w5 ⟨rfl, hb5⟩; have A5 := Lib.hid (A4.out.later hb5))); refine hK.out _ _ ?_; clear hK K)
  try simp only [Act.put, List.setIfInBounds_toArray, List.set_cons_zero, List.set_cons_succ]
  refine seq_calcA (h := ?_)
  try simp only [Act.put, List.setIfInBounds_toArray, List.set_cons_zero, List.set_cons_succ]
  refine seq_calcA (h := ?_)
  try simp only [Act.put, List.setIfInBounds_toArray, List.set_cons_zero, List.set_cons_succ]
  refine seq_nil ?_
  go_wp2
  go_ret
  exact ⟨rfl, _, 1, rfl, by omega, A5.out⟩
end
end Go.Proofs.YtannohinhlefaaaGreatDoor

namespace Go.Proofs.YtannohinhlefaaaGreatDoor
open Go.RowKit Go.Proofs
attribute [local go_sem] neq_nilG eql_nilG nilT
section
variable {w w' w0 : World} {p : PB} {M : Nat} {T T2 : TabS} {k : Nat} {L : Int} {E : Nat → Addr}
set_option maxRecDepth 100000 in
set_option maxHeartbeats 8000000 in
theorem do4_no (h : AW w p M T T k L E w0) (hes : ErrsAre w0 E) (key v : Int) (hs : Nat) (hh : hs < 18446744073709551616) (ky i : Int) (hi : i < 0 ∨ (T.n : Int) ≤ i) :
    Calls Tryz.prog 9 #[.pointer (some ⟨p.B, 0, none⟩), .pointer (some ⟨p.D, 0, none⟩), .agg #[.pointer (some ⟨M, 0, none⟩), .int .i64 1, .int .i64 0, .int .i64 0], .agg #[.int .u64 key, .int .u64 v, .int .u64 (hs : Int)], .agg #[.int .i64 4, .int .i64 ky, .int .i64 i]] w fun e w' =>
      e = .returned (.bool true) ∧ DoP w' p M T.n k L E w0 := by
  have HA := Lib.hid h
  have hn64 := h.t.good.bounds.1
  have P1 := Lib.hid (fun (w' : World) (h' : AW w' p M T T k L E w0) => show Calls Tryz.prog 46 #[.pointer (some ⟨p.B, 0, none⟩), .agg #[.pointer (some ⟨M, 0, none⟩), .int .i64 1, .int .i64 0, .int .i64 0], .int .i64 i] w' fun e w'' => e = .returned (.tuple #[.slice none 0 0, errN E 1]) ∧ Below w'.heap.size w' w'' from h'.t.scanNo i hi _ 1 0 0)
  have NU := Lib.hid (fun (w' : World) (h' : Below w0.heap.size w0 w') => num_any E 1 (by decide) w' (hes.below (h'.mono (Nat.le_refl _))))
  obtain ⟨n, hn⟩ : ∃ n, n = T.n := ⟨_, rfl⟩
  rw [← hn] at hi
  have HN := Lib.hid hn
  clear h hn
  go_enter Tryz.func9, Tryz.ntmps9
  go_upto_region 19 with (fail)
  refine wp_at (fun w1 hw1 => ?_)
  obtain ⟨z, hz⟩ : ∃ z, z = w.heap.size := ⟨_, rfl⟩
  have hb1 : Below w.heap.size w w1 := by rw [hw1]; go_grown
  have A1 := Lib.hid (HA.out.later hb1)
  have X7 := Lib.hid (show Blk w1 z 43 #[.pointer (some ⟨M, 0, none⟩), .int .i64 1, .int .i64 0, .int .i64 0] by rw [hw1, hz]; exact ((Blk.new _ _ _).alloc _).alloc _)
  have X8 := Lib.hid (show Blk w1 (z + 1) 47 #[.int .u64 key, .int .u64 v, .int .u64 (hs : Int)] by rw [hw1, hz]; exact (Blk.new_at (by simp)).alloc _)
  have X9 := Lib.hid (show Blk w1 (z + 1 + 1) 40 #[.int .i64 4, .int .i64 ky, .int .i64 i] by rw [hw1, hz]; exact Blk.new_at (by simp))
  have NX : Hid (∀ b, z ≤ b → ¬ AX p M b) := Lib.hid (fun b hb => HA.out.new (by omega))
  rw [← hz]
  have HZ1 := Lib.hid (show z ≤ w1.heap.size by have := hb1.size; omega)
  replace hz := Lib.hid hz
  replace hw1 := Lib.hid hw1
  clear hb1
  obtain ⟨l0, l1, l2, l3⟩ := cells4 X7.out
  obtain ⟨e0, e1, e2⟩ := cells3 X8.out
  obtain ⟨c0, c1, c2⟩ := cells3 X9.out
  have zl := X7.out.lt
  have ze := X8.out.lt
  have za := X9.out.lt
  go_upto_region 20 with (go_at_call 46; (with_reducible refine (P1.out _ A1.out).mono ?_); rintro e w2 ⟨rfl, hb2⟩; have A2 := Lib.hid (A1.out.later hb2); have Y9 := Lib.hid (X9.out.below hb2 X9.out.lt); have q2 := cells3 Y9.out; have q22 := q2.2.2; have zq := Y9.out.lt; clear q2)
  obtain ⟨P, cap, GB, hd⟩ := A2.out.d
  obtain ⟨d0, d1, zD, fD⟩ := dcells hd
  rw [← HN.out] at d0
  clear hd
  by_cases hi0 : i < 0
  · have i1 : decide (i < 0) = true := decide_eq_true hi0
    clear hi
    refine wp_region_seq (fun _ => False) #[⟨0, 0, 11417981541647679048466287755595961091061972992, 512, 0⟩, ⟨1, 1, 22835963083295358096932575511191922182123945984, 11417981541647679048466287755595961091061972992, 1⟩, ⟨2, 3, 45671926166590716193865151022383844364247891968, 22835963083295358096932575511191922182123945984, 0⟩, ⟨4, 7, 91343852333181432387730302044767688728495783936, 45671926166590716193865151022383844364247891968, 0⟩, ⟨8, 15, 182687704666362864775460604089535377456991567872, 91343852333181432387730302044767688728495784448, 0⟩, ⟨24, 31, 365375409332725729550921208179070754913983135744, 274031556999544297163190906134303066185487351808, 1⟩, ⟨8, 15, 730750818665451459101842416358141509827966271488, 91343852333181432387730302044767688728495783938, 0⟩, ⟨72, 79, 1461501637330902918203684832716283019655932542976, 822094670998632891489572718402909198556462055424, 0⟩, ⟨136, 207, 2923003274661805836407369665432566039311865085952, 1552845489664084350591415134761050708384428326912, 0⟩, ⟨264, 463, 5846006549323611672814739330865132078623730171904, 3014347126994987268795099967477333728040360869888, 1⟩, ⟨520, 975, 11692013098647223345629478661730264157247460343808, 5937350401656793105202469632909899767352225955840, 0⟩, ⟨1064, 2047, 23384026197294446691258957323460528314494920687616, 12148732360313130507568130171954102600889939263488, 0⟩, ⟨2056, 4095, 46768052394588893382517914646921056628989841375232, 23475370049627628123646687625505296003223416471552, 0⟩] 546 [(0, 0), (1, 1), (2, 0), (3, 0), (4, 0), (5, 1), (6, 0), (7, 0), (8, 0), (9, 1), (10, 0), (11, 0), (12, 0)] (by kernel_rfl) (by kernel_rfl) (by kernel_rfl) (by kernel_rfl) (by kernel_rfl) (by kernel_rfl) (fun c a d v w h => by cases d <;> exact h) ?_
    refine seq_calcA (h := ?_)
    try simp only [Act.put, List.setIfInBounds_toArray, List.set_cons_zero, List.set_cons_succ]
    refine seq_load1A (hu := Tryz.underlying3) (h := ?_)
    try simp only [Act.put, List.setIfInBounds_toArray, List.set_cons_zero, List.set_cons_succ]
    refine seq_calcA (h := ?_)
    try simp only [Act.put, List.setIfInBounds_toArray, List.set_cons_zero, List.set_cons_succ]
    refine seq_calcA (h := ?_)
    try simp only [Act.put, List.setIfInBounds_toArray, List.set_cons_zero, List.set_cons_succ]
    first
      | (refine seq_skipA (h := ?_))
      | (refine seq_calcA (h := ?_))
    try simp only [Act.put, List.setIfInBounds_toArray, List.set_cons_zero, List.set_cons_succ]
    first
      | (refine seq_skipA (h := ?_))
      | (refine seq_load1A (hu := Tryz.underlying3) (h := ?_))
    try simp only [Act.put, List.setIfInBounds_toArray, List.set_cons_zero, List.set_cons_succ]
    first
      | (refine seq_skipA (h := ?_))
      | (refine seq_calcA (h := ?_))
    try simp only [Act.put, List.setIfInBounds_toArray, List.set_cons_zero, List.set_cons_succ]
    first
      | (refine seq_skipA (h := ?_))
      | (refine seq_calcA (h := ?_))
    try simp only [Act.put, List.setIfInBounds_toArray, List.set_cons_zero, List.set_cons_succ]
    first
      | (refine seq_skipA (h := ?_))
      | (refine seq_calcA (h := ?_))
    try simp only [Act.put, List.setIfInBounds_toArray, List.set_cons_zero, List.set_cons_succ]
    first
      | (refine seq_skipA (h := ?_))
      | (refine seq_load1A (hu := Tryz.underlying53) (h := ?_))
    try simp only [Act.put, List.setIfInBounds_toArray, List.set_cons_zero, List.set_cons_succ]
    first
      | (refine seq_skipA (h := ?_))
      | (refine seq_calcA (h := ?_))
    try simp only [Act.put, List.setIfInBounds_toArray, List.set_cons_zero, List.set_cons_succ]
    first
      | (refine seq_skipA (h := ?_))
      | (refine seq_calcA (h := ?_))
    try simp only [Act.put, List.setIfInBounds_toArray, List.set_cons_zero, List.set_cons_succ]
    refine seq_calcA (h := ?_)
    try simp only [Act.put, List.setIfInBounds_toArray, List.set_cons_zero, List.set_cons_succ]
    refine seq_nil ?_
    go_wp2_with (go_at_call 8; (with_reducible refine (NU.out _ (A2.out.later (Below.refl _ _).drew).t.bel).mono ?_); rintro e w5 ⟨rfl, hb5⟩; have A5 := Lib.hid ((A2.out.later (Below.refl _ _).drew).later hb5))
    go_ret
    exact ⟨rfl, _, 0, rfl, by omega, by simpa using A5.out⟩
  · have i1 : decide (i < 0) = false := decide_eq_false hi0
    have hge : (n : Int) ≤ i := by omega
    have i2 : decide (i ≥ (n : Int)) = true := decide_eq_true hge
    have i3 : decide ((n : Int) ≤ i) = true := decide_eq_true hge
    clear hi
    refine wp_region_seq (fun _ => False) #[⟨0, 0, 11417981541647679048466287755595961091061972992, 512, 0⟩, ⟨1, 1, 22835963083295358096932575511191922182123945984, 11417981541647679048466287755595961091061972992, 1⟩, ⟨2, 3, 45671926166590716193865151022383844364247891968, 22835963083295358096932575511191922182123945984, 0⟩, ⟨4, 7, 91343852333181432387730302044767688728495783936, 45671926166590716193865151022383844364247891968, 0⟩, ⟨8, 15, 182687704666362864775460604089535377456991567872, 91343852333181432387730302044767688728495784448, 0⟩, ⟨24, 31, 365375409332725729550921208179070754913983135744, 274031556999544297163190906134303066185487351808, 1⟩, ⟨8, 15, 730750818665451459101842416358141509827966271488, 91343852333181432387730302044767688728495783938, 0⟩, ⟨72, 79, 1461501637330902918203684832716283019655932542976, 822094670998632891489572718402909198556462055424, 0⟩, ⟨136, 207, 2923003274661805836407369665432566039311865085952, 1552845489664084350591415134761050708384428326912, 0⟩, ⟨264, 463, 5846006549323611672814739330865132078623730171904, 3014347126994987268795099967477333728040360869888, 1⟩, ⟨520, 975, 11692013098647223345629478661730264157247460343808, 5937350401656793105202469632909899767352225955840, 0⟩, ⟨1064, 2047, 23384026197294446691258957323460528314494920687616, 12148732360313130507568130171954102600889939263488, 0⟩, ⟨2056, 4095, 46768052394588893382517914646921056628989841375232, 23475370049627628123646687625505296003223416471552, 0⟩] 546 [(0, 0), (1, 1), (2, 0), (3, 0), (4, 0), (5, 1), (6, 0), (7, 0), (8, 0), (9, 1), (10, 0), (11, 0), (12, 0)] (by kernel_rfl) (by kernel_rfl) (by kernel_rfl) (by kernel_rfl) (by kernel_rfl) (by kernel_rfl) (fun c a d v w h => by cases d <;> exact h) ?_
    refine seq_calcA (h := ?_)
    try simp only [Act.put, List.setIfInBounds_toArray, List.set_cons_zero, List.set_cons_succ]
    refine seq_load1A (hu := Tryz.underlying3) (h := ?_)
    try simp only [Act.put, List.setIfInBounds_toArray, List.set_cons_zero, List.set_cons_succ]
    refine seq_calcA (h := ?_)
    try simp only [Act.put, List.setIfInBounds_toArray, List.set_cons_zero, List.set_cons_succ]
    refine seq_calcA (h := ?_)
    try simp only [Act.put, List.setIfInBounds_toArray, List.set_cons_zero, List.set_cons_succ]
    first
      | (refine seq_skipA (h := ?_))
      | (refine seq_calcA (h := ?_))
    try simp only [Act.put, List.setIfInBounds_toArray, List.set_cons_zero, List.set_cons_succ]
    first
      | (refine seq_skipA (h := ?_))
      | (refine seq_load1A (hu := Tryz.underlying3) (h := ?_))
    try simp only [Act.put, List.setIfInBounds_toArray, List.set_cons_zero, List.set_cons_succ]
    first
      | (refine seq_skipA (h := ?_))
      | (refine seq_calcA (h := ?_))
    try simp only [Act.put, List.setIfInBounds_toArray, List.set_cons_zero, List.set_cons_succ]
    first
      | (refine seq_skipA (h := ?_))
      | (refine seq_calcA (h := ?_))
    try simp only [Act.put, List.setIfInBounds_toArray, List.set_cons_zero, List.set_cons_succ]
    first
      | (refine seq_skipA (h := ?_))
      | (refine seq_calcA (h := ?_))
    try simp only [Act.put, List.setIfInBounds_toArray, List.set_cons_zero, List.set_cons_succ]
    first
      | (refine seq_skipA (h := ?_))
      | (refine seq_load1A (hu := Tryz.underlying53) (h := ?_))
    try simp only [Act.put, List.setIfInBounds_toArray, List.set_cons_zero, List.set_cons_succ]
    first
      | (refine seq_skipA (h := ?_))
      | (refine seq_calcA (h := ?_))
    try simp only [Act.put, List.setIfInBounds_toArray, List.set_cons_zero, List.set_cons_succ]
    first
      | (refine seq_skipA (h := ?_))
      | (refine seq_calcA (h := ?_))
    try simp only [Act.put, List.setIfInBounds_toArray, List.set_cons_zero, List.set_cons_succ]
    refine seq_calcA (h := ?_)
    try simp only [Act.put, List.setIfInBounds_toArray, List.set_cons_zero, List.set_cons_succ]
    refine seq_nil ?_
    go_wp2_with (go_at_call 8; (with_reducible refine (NU.out _ (A2.out.later (Below.refl _ _).drew).t.bel).mono ?_); rintro e w5 ⟨rfl, hb5⟩; have A5 := Lib.hid ((A2.out.later (Below.refl _ _).drew).later hb5))
    go_ret
    exact ⟨rfl, _, 0, rfl, by omega, by simpa using A5.out⟩
set_option maxRecDepth 100000 in
set_option maxHeartbeats 8000000 in
theorem do9_any (h : AW w p M T T k L E w0) (kd key v : Int) (hs : Nat) (ky N : Int) (hk : ¬ (0 ≤ kd ∧ kd ≤ 8)) :
    Calls Tryz.prog 9 #[.pointer (some ⟨p.B, 0, none⟩), .pointer (some ⟨p.D, 0, none⟩), .agg #[.pointer (some ⟨M, 0, none⟩), .int .i64 1, .int .i64 0, .int .i64 0], .agg #[.int .u64 key, .int .u64 v, .int .u64 (hs : Int)], .agg #[.int .i64 kd, .int .i64 ky, .int .i64 N]] w fun e w' =>
      e = .returned (.bool true) ∧ DoP w' p M T.n k L E w0 := by
  have HA := Lib.hid h
  have k0 : (kd == 0) = false := by rw [beq_eq_false_iff_ne]; omega
  have k1 : (kd == 1) = false := by rw [beq_eq_false_iff_ne]; omega
  have k2 : (kd == 2) = false := by rw [beq_eq_false_iff_ne]; omega
  have k3 : (kd == 3) = false := by rw [beq_eq_false_iff_ne]; omega
  have k4 : (kd == 4) = false := by rw [beq_eq_false_iff_ne]; omega
  have k5 : (kd == 5) = false := by rw [beq_eq_false_iff_ne]; omega
  have k6 : (kd == 6) = false := by rw [beq_eq_false_iff_ne]; omega
  have k7 : (kd == 7) = false := by rw [beq_eq_false_iff_ne]; omega
  have k8 : (kd == 8) = false := by rw [beq_eq_false_iff_ne]; omega
  clear h hk
  go_enter Tryz.func9, Tryz.ntmps9
  go_wp2
  refine wp_end_at (fun Wf hWf => ?_)
  have hb : Below w.heap.size w Wf := by rw [hWf]; go_grown
  exact bodyPost_ret (results_tmp rfl _ _ _) rfl ⟨rfl, T, 0, rfl, by omega, by simpa using HA.out.later hb⟩
end
end Go.Proofs.YtannohinhlefaaaGreatDoor

namespace Go.Proofs.YtannohinhlefaaaGreatDoor
open Go.RowKit Go.Proofs
attribute [local go_sem] neq_nilG eql_nilG nilT
section
variable {w w' w0 : World} {p : PB} {M : Nat} {T T2 : TabS} {k : Nat} {L : Int} {E : Nat → Addr}
theorem ents_len64 (T : TabS) (h : T.n ≤ 64) : T.ents.length ≤ 1000 := by
  have := entsTo_len T T.n
  unfold TabS.ents; omega
set_option maxRecDepth 100000 in
set_option maxHeartbeats 8000000 in
theorem do5_any (h : AW w p M T T k L E w0) (hL : 0 ≤ L ∧ L ≤ 1000000) (key v : Int) (hs : Nat) (hh : hs < 18446744073709551616) (ky N : Int) :
    Calls Tryz.prog 9 #[.pointer (some ⟨p.B, 0, none⟩), .pointer (some ⟨p.D, 0, none⟩), .agg #[.pointer (some ⟨M, 0, none⟩), .int .i64 1, .int .i64 0, .int .i64 0], .agg #[.int .u64 key, .int .u64 v, .int .u64 (hs : Int)], .agg #[.int .i64 5, .int .i64 ky, .int .i64 N]] w fun e w' =>
      e = .returned (.bool true) ∧ DoP w' p M T.n k L E w0 := by
  have HA := Lib.hid h
  have hn64 := h.t.good.bounds.1
  obtain ⟨N2, hN2⟩ : ∃ N2, N2 = IntKind.u64.wrap N := ⟨_, rfl⟩
  have P1 := Lib.hid (fun (w' : World) (h' : AW w' p M T T k L E w0) => h'.least N2 (hs : Int))
  have P2 := Lib.hid (fun (w' : World) (h' : DX w' p.mid p.hi p.D T L) => show Calls Tryz.prog 50 #[.pointer (some ⟨p.D, 0, none⟩)] w' fun e w'' => ∃ v, e = .returned v ∧ w''.ownsRow w'.heap.size 47 3 v T.ents.length (entV T.ents) ∧ Below w'.heap.size w' w'' from by
    obtain ⟨P, cap, GB, hd⟩ := h'
    exact dtall_any hd)
  have P3 := Lib.hid (fun (v1 : Value) (base : Nat) (w' : World) (h' : w'.ownsRow base 47 3 v1 T.ents.length (entV T.ents)) => rleast_any v1 T.ents base (hs : Int) N2 w' h' (ents_len64 T hn64))
  have e0 : T.least ⟨N2, 0, (hs : Int)⟩ = TabS.leastL T.ents ⟨N2, 0, (hs : Int)⟩ := rfl
  rw [e0] at P1
  generalize TabS.leastL T.ents ⟨N2, 0, (hs : Int)⟩ = r at *
  obtain ⟨⟨r0, r1, r2⟩, rb⟩ := r
  dsimp only at P1 P3
  obtain ⟨n, hn⟩ : ∃ n, n = T.n := ⟨_, rfl⟩
  rw [← hn] at P1 hn64
  have HN := Lib.hid hn
  have hLn : IntKind.i64.wrap (L + (n : Int)) = L + (n : Int) := by rw [IntKind.wrap_i64]; omega
  have hNW : IntKind.u64.wrap N = N2 := hN2.symm
  clear h hn e0 hN2
  go_enter Tryz.func9, Tryz.ntmps9
  go_upto_region 25 with (fail)
  refine wp_at (fun w1 hw1 => ?_)
  obtain ⟨z, hz⟩ : ∃ z, z = w.heap.size := ⟨_, rfl⟩
  have hb1 : Below w.heap.size w w1 := by rw [hw1]; go_grown
  have A1 := Lib.hid (HA.out.later hb1)
  have X7 := Lib.hid (show Blk w1 z 43 #[.pointer (some ⟨M, 0, none⟩), .int .i64 1, .int .i64 0, .int .i64 0] by rw [hw1, hz]; exact ((Blk.new _ _ _).alloc _).alloc _)
  have X8 := Lib.hid (show Blk w1 (z + 1) 47 #[.int .u64 key, .int .u64 v, .int .u64 (hs : Int)] by rw [hw1, hz]; exact (Blk.new_at (by simp)).alloc _)
  have X9 := Lib.hid (show Blk w1 (z + 1 + 1) 40 #[.int .i64 5, .int .i64 ky, .int .i64 N] by rw [hw1, hz]; exact Blk.new_at (by simp))
  have NX : Hid (∀ b, z ≤ b → ¬ AX p M b) := Lib.hid (fun b hb => HA.out.new (by omega))
  rw [← hz]
  have HZ1 := Lib.hid (show z ≤ w1.heap.size by have := hb1.size; omega)
  replace hz := Lib.hid hz
  replace hw1 := Lib.hid hw1
  clear hb1
  obtain ⟨l0, l1, l2, l3⟩ := cells4 X7.out
  obtain ⟨e0, e1, e2⟩ := cells3 X8.out
  obtain ⟨c0, c1, c2⟩ := cells3 X9.out
  have zl := X7.out.lt
  have ze := X8.out.lt
  have za := X9.out.lt
  go_upto_region 26 with (go_at_call 48; (with_reducible refine (P1.out _ A1.out).mono ?_); rintro e w2' ⟨rfl, h2, hc2⟩; have A2' := Lib.hid h2; have hz2 := hc2.size; have Y8' := Lib.hid (X8.out.chg hc2 (NX.out _ (by omega))); have Y9' := Lib.hid (X9.out.chg hc2 (NX.out _ (by omega))); clear h2)
  refine wp_at (fun w2 hw2 => ?_)
  have hb2 : Below w2'.heap.size w2' w2 := by rw [hw2]; go_grown
  have A2 := Lib.hid (A2'.out.later hb2)
  have Y8 := Lib.hid (Y8'.out.below hb2 Y8'.out.lt)
  have Y9 := Lib.hid (Y9'.out.below hb2 Y9'.out.lt)
  have Y29 := Lib.hid (show Blk w2 w2'.heap.size 47 #[.int .u64 r0, .int .u64 r1, .int .u64 r2] by rw [hw2]; exact Blk.new _ _ _)
  obtain ⟨y, hy⟩ : ∃ y, y = w2'.heap.size := ⟨_, rfl⟩
  rw [← hy] at Y29 ⊢
  have hzy : z ≤ y := by have := HZ1.out; omega
  have hy2 : y < w2.heap.size := Y29.out.lt
  replace hw2 := Lib.hid hw2
  clear hb2 A2' Y8' Y9' hc2 e0 e1 e2 c0 c1 c2 zl ze za l0 l1 l2 l3 X7 X8 X9
  replace hy := Lib.hid hy
  obtain ⟨e0, e1, e2⟩ := cells3 Y8.out
  obtain ⟨c0, c1, c2⟩ := cells3 Y9.out
  have ze := Y8.out.lt
  have za := Y9.out.lt
  have AD := Lib.hid (show ∀ w' : World, Below w2.heap.size w2 w' → DX w' p.mid p.hi p.D T L from fun w' hb => A2.out.d.later hb)
  go_cut [31, 32] (fun v31 v32 wx => ∃ P31, v31 = .pointer (some ⟨P31, 0, none⟩) ∧ v32 = .bool rb ∧ w2.heap.size ≤ P31 ∧ Blk wx P31 47 #[.int .u64 r0, .int .u64 r1, .int .u64 r2] ∧ Below w2.heap.size w2 wx)
  case first =>
    refine wp_region_T (fun _ => False) #[⟨0, 0, 1645504557321206042154969182557350504982735865633579863348609024, 2, 0⟩, ⟨1, 1, 3291009114642412084309938365114701009965471731267159726697218048, 1645504557321206042154969182557350504982735865633579863348609024, 2⟩, ⟨0, 0, 6582018229284824168619876730229402019930943462534319453394436096, 256, 0⟩, ⟨4, 4, 13164036458569648337239753460458804039861886925068638906788872192, 6582018229284824168619876730229402019930943462534319453394436096, 1⟩, ⟨0, 0, 26328072917139296674479506920917608079723773850137277813577744384, 512, 0⟩, ⟨16, 16, 52656145834278593348959013841835216159447547700274555627155488768, 26328072917139296674479506920917608079723773850137277813577744384, 1⟩, ⟨32, 48, 105312291668557186697918027683670432318895095400549111254310977536, 52656145834278593348959013841835216159447547700274555627155488768, 0⟩, ⟨74, 127, 210624583337114373395836055367340864637790190801098222508621955072, 121767337241769247119467719509243937368722454056884909887797067776, 3⟩, ⟨128, 255, 822752278660603021077484591278675252491367932816789931674304512, 210624583337114373395836055367340864637790190801098222508621955072, 0⟩, ⟨256, 511, 421249166674228746791672110734681729275580381602196445017243910144, 822752278660603021077484591278675252491367932816789931674304512, 0⟩, ⟨256, 511, 842498333348457493583344221469363458551160763204392890034487820288, 822752278660603021077484591278675252491367932816789931674304512, 0⟩, ⟨0, 0, 2147483648, 0, 2⟩, ⟨3071, 3071, 0, 421249166674228746791672110734681729275580381602196445019391393792, 3⟩, ⟨8191, 8191, 4294967296, 842498333348457493583344221469363458551160763204392890034487820288, 0⟩] 40 (.step 0 0 (.step 2 0 (.step 3 1 (.step 4 0 (.step 5 1 (.step 6 0 (.fork (.alt 1 (.fork (.alt 7 (.step 8 0 (.step 9 0 (.step 10 0 (.step 11 2 (.step 12 3 (.step 13 0 Plan.done)))))) (.alt 11 (.step 7 3 (.step 8 0 (.step 9 0 (.step 10 0 (.step 12 3 (.step 13 0 Plan.done)))))) Plan.none))) (.alt 11 (.step 1 2 (.step 7 3 (.step 8 0 (.step 9 0 (.step 10 0 (.step 12 3 (.step 13 0 Plan.done))))))) Plan.none))))))))) (by kernel_rfl) (by kernel_rfl) (by kernel_rfl) (by kernel_rfl) (by kernel_rfl) (by kernel_rfl) (fun c a d v w h => by cases d <;> exact h) ?_
    refine T_calcA (h := ?_)
    try simp only [Act.put, List.setIfInBounds_toArray, List.set_cons_zero, List.set_cons_succ]
    refine T_calcA (h := ?_)
    try simp only [Act.put, List.setIfInBounds_toArray, List.set_cons_zero, List.set_cons_succ]
    refine T_load1A (hu := Tryz.underlying45) (h := ?_)
    try simp only [Act.put, List.setIfInBounds_toArray, List.set_cons_zero, List.set_cons_succ]
    refine T_calcA (h := ?_)
    try simp only [Act.put, List.setIfInBounds_toArray, List.set_cons_zero, List.set_cons_succ]
    refine T_load1A (hu := Tryz.underlying3) (h := ?_)
    try simp only [Act.put, List.setIfInBounds_toArray, List.set_cons_zero, List.set_cons_succ]
    refine T_calcA (h := ?_)
    try simp only [Act.put, List.setIfInBounds_toArray, List.set_cons_zero, List.set_cons_succ]
    refine T_fork (T_alt (by simp only [List.getElem?_toArray, List.getElem?_cons_succ, List.getElem?_cons_zero]; rfl) (by rfl) (fun K hK => ?_) (T_alt (by simp only [List.getElem?_toArray, List.getElem?_cons_succ, List.getElem?_cons_zero]; rfl) (by rfl) (fun K hK => ?_) T_none))
    (go_wp2_with (first | (go_at_call 50; (with_reducible refine (P2.out _ (AD.out _ (by go_grown))).mono ?_); rintro e w4 ⟨av, rfl, hr4, hb4⟩; have R4 := Lib.hid hr4; have hz4 := hb4.size; have B4 := Lib.hid (Below.trans (show Below w2.heap.size w2 _ from by go_grown) (hb4.mono (by simp))); (try have Z4 := Lib.hid (show Blk w4 w2.heap.size 47 #[.int .u64 0, .int .u64 0, .int .u64 0] from Blk.below (Blk.new w2.drew _ _) hb4 (by simp))); clear hr4) | (go_at_call 49; (with_reducible refine (P3.out _ _ _ (by first | exact R4.out | exact ownsRow_later R4.out ((Below.refl _ _).alloc (Nat.le_refl _) _))).mono ?_); rintro e w5 ⟨rfl, hb5⟩; have B5 := Lib.hid ((show Below w2.heap.size w2 _ by first | exact B4.out | exact B4.out.alloc B4.out.size _).trans (hb5.mono (by have := B4.out.size; first | exact this | (simp; omega)))); (first | have Z5 := Lib.hid (Z4.out.below hb5 Z4.out.lt) | have Z5 := Lib.hid (show Blk w5 w4.heap.size 47 #[.int .u64 0, .int .u64 0, .int .u64 0] from Blk.below (Blk.new w4 _ _) hb5 (by simp)) | skip); (try have q5 := cells3 Z5.out); (try have q50 := q5.1); (try have q51 := q5.2.1); (try have q52 := q5.2.2); (try have zZ5 := Z5.out.lt); (try have fZ5 := fun j => Z5.out.frozen j); try clear q5)); refine hkI hK (h := ?_); clear hK K)
    try simp only [Act.put, List.setIfInBounds_toArray, List.set_cons_zero, List.set_cons_succ]
    refine T_fork (T_alt (by simp only [List.getElem?_toArray, List.getElem?_cons_succ, List.getElem?_cons_zero]; rfl) (by rfl) (fun K hK => ?_) (T_alt (by simp only [List.getElem?_toArray, List.getElem?_cons_succ, List.getElem?_cons_zero]; rfl) (by rfl) (fun K hK => ?_) T_none))
    (go_wp2_with (first | (go_at_call 50; (with_reducible refine (P2.out _ (AD.out _ (by go_grown))).mono ?_); rintro e w4 ⟨av, rfl, hr4, hb4⟩; have R4 := Lib.hid hr4; have hz4 := hb4.size; have B4 := Lib.hid (Below.trans (show Below w2.heap.size w2 _ from by go_grown) (hb4.mono (by simp))); (try have Z4 := Lib.hid (show Blk w4 w2.heap.size 47 #[.int .u64 0, .int .u64 0, .int .u64 0] from Blk.below (Blk.new w2.drew _ _) hb4 (by simp))); clear hr4) | (go_at_call 49; (with_reducible refine (P3.out _ _ _ (by first | exact R4.out | exact ownsRow_later R4.out ((Below.refl _ _).alloc (Nat.le_refl _) _))).mono ?_); rintro e w5 ⟨rfl, hb5⟩; have B5 := Lib.hid ((show Below w2.heap.size w2 _ by first | exact B4.out | exact B4.out.alloc B4.out.size _).trans (hb5.mono (by have := B4.out.size; first | exact this | (simp; omega)))); (first | have Z5 := Lib.hid (Z4.out.below hb5 Z4.out.lt) | have Z5 := Lib.hid (show Blk w5 w4.heap.size 47 #[.int .u64 0, .int .u64 0, .int .u64 0] from Blk.below (Blk.new w4 _ _) hb5 (by simp)) | skip); (try have q5 := cells3 Z5.out); (try have q50 := q5.1); (try have q51 := q5.2.1); (try have q52 := q5.2.2); (try have zZ5 := Z5.out.lt); (try have fZ5 := fun j => Z5.out.frozen j); try clear q5)); refine hkI hK (h := ?_); clear hK K)
    try simp only [Act.put, List.setIfInBounds_toArray, List.set_cons_zero, List.set_cons_succ]
    refine T_calcA (h := ?_)
    try simp only [Act.put, List.setIfInBounds_toArray, List.set_cons_zero, List.set_cons_succ]
    refine T_calcA (h := ?_)
    try simp only [Act.put, List.setIfInBounds_toArray, List.set_cons_zero, List.set_cons_succ]
    refine T_calcA (h := ?_)
    try simp only [Act.put, List.setIfInBounds_toArray, List.set_cons_zero, List.set_cons_succ]
    refine T_doA (h := fun K hK => ?_); go_wp2_with (fail); refine hkI hK (h := ?_); clear hK K
    try simp only [Act.put, List.setIfInBounds_toArray, List.set_cons_zero, List.set_cons_succ]
    refine T_lastA (h := fun K hK => ?_); go_wp2_with (fail); refine hK.out _ _ ?_; clear hK K
    try simp only [Act.put, List.setIfInBounds_toArray, List.set_cons_zero, List.set_cons_succ]
    refine T_calcA (h := ?_)
    try simp only [Act.put, List.setIfInBounds_toArray, List.set_cons_zero, List.set_cons_succ]
    refine T_done ?_
    rotate_left 1
    (go_wp2_with (fail); refine hkI hK (h := ?_); clear hK K)
    try simp only [Act.put, List.setIfInBounds_toArray, List.set_cons_zero, List.set_cons_succ]
    refine T_lastA (h := fun K hK => ?_); go_wp2_with (first | (go_at_call 50; (with_reducible refine (P2.out _ (AD.out _ (by go_grown))).mono ?_); rintro e w4 ⟨av, rfl, hr4, hb4⟩; have R4 := Lib.hid hr4; have hz4 := hb4.size; have B4 := Lib.hid (Below.trans (show Below w2.heap.size w2 _ from by go_grown) (hb4.mono (by simp))); (try have Z4 := Lib.hid (show Blk w4 w2.heap.size 47 #[.int .u64 0, .int .u64 0, .int .u64 0] from Blk.below (Blk.new w2.drew _ _) hb4 (by simp))); clear hr4) | (go_at_call 49; (with_reducible refine (P3.out _ _ _ (by first | exact R4.out | exact ownsRow_later R4.out ((Below.refl _ _).alloc (Nat.le_refl _) _))).mono ?_); rintro e w5 ⟨rfl, hb5⟩; have B5 := Lib.hid ((show Below w2.heap.size w2 _ by first | exact B4.out | exact B4.out.alloc B4.out.size _).trans (hb5.mono (by have := B4.out.size; first | exact this | (simp; omega)))); (first | have Z5 := Lib.hid (Z4.out.below hb5 Z4.out.lt) | have Z5 := Lib.hid (show Blk w5 w4.heap.size 47 #[.int .u64 0, .int .u64 0, .int .u64 0] from Blk.below (Blk.new w4 _ _) hb5 (by simp)) | skip); (try have q5 := cells3 Z5.out); (try have q50 := q5.1); (try have q51 := q5.2.1); (try have q52 := q5.2.2); (try have zZ5 := Z5.out.lt); (try have fZ5 := fun j => Z5.out.frozen j); try clear q5)); refine hK.out _ _ ?_; clear hK K
    try simp only [Act.put, List.setIfInBounds_toArray, List.set_cons_zero, List.set_cons_succ]
    refine T_calcA (h := ?_)
    try simp only [Act.put, List.setIfInBounds_toArray, List.set_cons_zero, List.set_cons_succ]
    refine T_calcA (h := ?_)
    try simp only [Act.put, List.setIfInBounds_toArray, List.set_cons_zero, List.set_cons_succ]
    refine T_calcA (h := ?_)
    try simp only [Act.put, List.setIfInBounds_toArray, List.set_cons_zero, List.set_cons_succ]
    refine T_lastA (h := fun K hK => ?_); go_wp2_with (fail); refine hK.out _ _ ?_; clear hK K
    try simp only [Act.put, List.setIfInBounds_toArray, List.set_cons_zero, List.set_cons_succ]
    refine T_calcA (h := ?_)
    try simp only [Act.put, List.setIfInBounds_toArray, List.set_cons_zero, List.set_cons_succ]
    refine T_done ?_
    rotate_left 1
    rotate_right 2
    rotate_left 2
    (go_wp2_with (fail); refine hkI hK (h := ?_); clear hK K)
    try simp only [Act.put, List.setIfInBounds_toArray, List.set_cons_zero, List.set_cons_succ]
    refine T_doA (h := fun K hK => ?_); go_wp2_with (first | (go_at_call 50; (with_reducible refine (P2.out _ (AD.out _ (by go_grown))).mono ?_); rintro e w4 ⟨av, rfl, hr4, hb4⟩; have R4 := Lib.hid hr4; have hz4 := hb4.size; have B4 := Lib.hid (Below.trans (show Below w2.heap.size w2 _ from by go_grown) (hb4.mono (by simp))); (try have Z4 := Lib.hid (show Blk w4 w2.heap.size 47 #[.int .u64 0, .int .u64 0, .int .u64 0] from Blk.below (Blk.new w2.drew _ _) hb4 (by simp))); clear hr4) | (go_at_call 49; (with_reducible refine (P3.out _ _ _ (by first | exact R4.out | exact ownsRow_later R4.out ((Below.refl _ _).alloc (Nat.le_refl _) _))).mono ?_); rintro e w5 ⟨rfl, hb5⟩; have B5 := Lib.hid ((show Below w2.heap.size w2 _ by first | exact B4.out | exact B4.out.alloc B4.out.size _).trans (hb5.mono (by have := B4.out.size; first | exact this | (simp; omega)))); (first | have Z5 := Lib.hid (Z4.out.below hb5 Z4.out.lt) | have Z5 := Lib.hid (show Blk w5 w4.heap.size 47 #[.int .u64 0, .int .u64 0, .int .u64 0] from Blk.below (Blk.new w4 _ _) hb5 (by simp)) | skip); (try have q5 := cells3 Z5.out); (try have q50 := q5.1); (try have q51 := q5.2.1); (try have q52 := q5.2.2); (try have zZ5 := Z5.out.lt); (try have fZ5 := fun j => Z5.out.frozen j); try clear q5)); refine hkI hK (h := ?_); clear hK K
    try simp only [Act.put, List.setIfInBounds_toArray, List.set_cons_zero, List.set_cons_succ]
    refine T_lastA (h := fun K hK => ?_); go_wp2_with (first | (go_at_call 50; (with_reducible refine (P2.out _ (AD.out _ (by go_grown))).mono ?_); rintro e w4 ⟨av, rfl, hr4, hb4⟩; have R4 := Lib.hid hr4; have hz4 := hb4.size; have B4 := Lib.hid (Below.trans (show Below w2.heap.size w2 _ from by go_grown) (hb4.mono (by simp))); (try have Z4 := Lib.hid (show Blk w4 w2.heap.size 47 #[.int .u64 0, .int .u64 0, .int .u64 0] from Blk.below (Blk.new w2.drew _ _) hb4 (by simp))); clear hr4) | (go_at_call 49; (with_reducible refine (P3.out _ _ _ (by first | exact R4.out | exact ownsRow_later R4.out ((Below.refl _ _).alloc (Nat.le_refl _) _))).mono ?_); rintro e w5 ⟨rfl, hb5⟩; have B5 := Lib.hid ((show Below w2.heap.size w2 _ by first | exact B4.out | exact B4.out.alloc B4.out.size _).trans (hb5.mono (by have := B4.out.size; first | exact this | (simp; omega)))); (first | have Z5 := Lib.hid (Z4.out.below hb5 Z4.out.lt) | have Z5 := Lib.hid (show Blk w5 w4.heap.size 47 #[.int .u64 0, .int .u64 0, .int .u64 0] from Blk.below (Blk.new w4 _ _) hb5 (by simp)) | skip); (try have q5 := cells3 Z5.out); (try have q50 := q5.1); (try have q51 := q5.2.1); (try have q52 := q5.2.2); (try have zZ5 := Z5.out.lt); (try have fZ5 := fun j => Z5.out.frozen j); try clear q5)); refine hK.out _ _ ?_; clear hK K
    try simp only [Act.put, List.setIfInBounds_toArray, List.set_cons_zero, List.set_cons_succ]
    refine T_calcA (h := ?_)
    try simp only [Act.put, List.setIfInBounds_toArray, List.set_cons_zero, List.set_cons_succ]
    refine T_calcA (h := ?_)
    try simp only [Act.put, List.setIfInBounds_toArray, List.set_cons_zero, List.set_cons_succ]
    refine T_calcA (h := ?_)
    try simp only [Act.put, List.setIfInBounds_toArray, List.set_cons_zero, List.set_cons_succ]
    refine T_lastA (h := fun K hK => ?_); go_wp2_with (fail); refine hK.out _ _ ?_; clear hK K
    try simp only [Act.put, List.setIfInBounds_toArray, List.set_cons_zero, List.set_cons_succ]
    refine T_calcA (h := ?_)
    try simp only [Act.put, List.setIfInBounds_toArray, List.set_cons_zero, List.set_cons_succ]
    refine T_done ?_
    rotate_left 1
    rotate_right 3
    all_goals (go_wp2; go_meet)
    all_goals refine ⟨_, rfl, rfl, ?_, ?_, ?_⟩
    all_goals first
      | exact Nat.le_refl _
      | exact B4.out.size
      | exact B5.out.size
      | exact Blk.new _ _ _
      | exact ((Z5.out.set 0 _).set 1 _).set 2 _
      | exact B5.out.alloc B5.out.size _
      | exact ((B5.out.setCell (Nat.le_refl _) _).setCell (Nat.le_refl _) _).setCell (Nat.le_refl _) _
      | exact ((B5.out.setCell B4.out.size _).setCell B4.out.size _).setCell B4.out.size _
  case rest =>
    obtain ⟨P31, rfl, rfl, hP, hZ, hBe⟩ := hcut
    have A6 := Lib.hid (A2.out.later hBe)
    have Y6 := Lib.hid (Y29.out.below hBe Y29.out.lt)
    have Z6 := Lib.hid hZ
    have zc2 := hBe.size
    clear hZ hBe e0 e1 e2 c0 c1 c2 ze za
    obtain ⟨P, cap, GB, hd⟩ := A6.out.d
    have HD := Lib.hid hd
    obtain ⟨d0, d1, zD, fD⟩ := dcells hd
    rw [← HN.out] at d0
    clear hd
    go_upto_region 27 with (fail)
    refine wp_region_seq (fun _ => False) #[⟨0, 0, 1684996666696914987166688442938726917102321526408785780068975640576, 2, 0⟩, ⟨1, 1, 3369993333393829974333376885877453834204643052817571560137951281152, 1684996666696914987166688442938726917102321526408785780068975640576, 0⟩, ⟨2, 3, 6739986666787659948666753771754907668409286105635143120275902562304, 3369993333393829974333376885877453834204643052817571560137951281152, 0⟩, ⟨4, 7, 13479973333575319897333507543509815336818572211270286240551805124608, 6739986666787659948666753771754907668409286105635143120275902562304, 1⟩, ⟨0, 0, 26959946667150639794667015087019630673637144422540572481103610249216, 2, 0⟩, ⟨16, 16, 53919893334301279589334030174039261347274288845081144962207220498432, 26959946667150639794667015087019630673637144422540572481103610249216, 0⟩, ⟨32, 48, 107839786668602559178668060348078522694548577690162289924414440996864, 53919893334301279589334030174039261347274288845081144962207220498432, 0⟩, ⟨64, 112, 215679573337205118357336120696157045389097155380324579848828881993728, 107839786668602559178668060348078522694548577690162289924414440996864, 1⟩, ⟨128, 240, 431359146674410236714672241392314090778194310760649159697657763987456, 215679573337205118357336120696157045389097155380324579848828881993728, 0⟩, ⟨264, 511, 862718293348820473429344482784628181556388621521298319395315527974912, 444839120007985556612005748935823906115012882971919445938209569112064, 0⟩, ⟨1023, 1023, 1725436586697640946858688965569256363112777243042596638790631055949824, 1684996666696914987166688442938726917102321526408785780068975640576, 0⟩, ⟨2047, 2047, 3450873173395281893717377931138512726225554486085193277581262111899648, 1725436586697640946858688965569256363112777243042596638790631055949824, 0⟩, ⟨3071, 4095, 0, 4313591466744102367146722413923140907781943107606491596976577639874560, 3⟩] 136 [(0, 0), (1, 0), (2, 0), (3, 1), (4, 0), (5, 0), (6, 0), (7, 1), (8, 0), (9, 0), (10, 0), (11, 0), (12, 3)] (by kernel_rfl) (by kernel_rfl) (by kernel_rfl) (by kernel_rfl) (by kernel_rfl) (by kernel_rfl) (fun c a d v w h => by cases d <;> exact h) ?_
    refine seq_calcA (h := ?_)
    try simp only [Act.put, List.setIfInBounds_toArray, List.set_cons_zero, List.set_cons_succ]
    refine seq_calcA (h := ?_)
    try simp only [Act.put, List.setIfInBounds_toArray, List.set_cons_zero, List.set_cons_succ]
    refine seq_calcA (h := ?_)
    try simp only [Act.put, List.setIfInBounds_toArray, List.set_cons_zero, List.set_cons_succ]
    refine seq_load1A (hu := Tryz.underlying3) (h := ?_)
    try simp only [Act.put, List.setIfInBounds_toArray, List.set_cons_zero, List.set_cons_succ]
    refine seq_calcA (h := ?_)
    try simp only [Act.put, List.setIfInBounds_toArray, List.set_cons_zero, List.set_cons_succ]
    refine seq_calcA (h := ?_)
    try simp only [Act.put, List.setIfInBounds_toArray, List.set_cons_zero, List.set_cons_succ]
    refine seq_calcA (h := ?_)
    try simp only [Act.put, List.setIfInBounds_toArray, List.set_cons_zero, List.set_cons_succ]
    refine seq_load1A (hu := Tryz.underlying53) (h := ?_)
    try simp only [Act.put, List.setIfInBounds_toArray, List.set_cons_zero, List.set_cons_succ]
    refine seq_calcA (h := ?_)
    try simp only [Act.put, List.setIfInBounds_toArray, List.set_cons_zero, List.set_cons_succ]
    refine seq_calcA (h := ?_)
    try simp only [Act.put, List.setIfInBounds_toArray, List.set_cons_zero, List.set_cons_succ]
    refine seq_calcA (h := ?_)
    try simp only [Act.put, List.setIfInBounds_toArray, List.set_cons_zero, List.set_cons_succ]
    refine seq_calcA (h := ?_)
    try simp only [Act.put, List.setIfInBounds_toArray, List.set_cons_zero, List.set_cons_succ]
    refine seq_lastA (h := fun K hK => ?_); go_wp2_with (fail); refine hK.out _ _ ?_; clear hK K
    try simp only [Act.put, List.setIfInBounds_toArray, List.set_cons_zero, List.set_cons_succ]
    refine seq_nil ?_
    go_upto_region 28 with (fail)
    refine wp_at (fun w7 hw7 => ?_)
    have D7 := Lib.hid (show DX w7 p.mid p.hi p.D T (L + (n : Int)) from ⟨P, cap, GB, by rw [hw7]; first | exact HD.out.drew.looks _ | exact (HD.out.drew.looks _).drew | exact HD.out.looks _⟩)
    have hc7 : Chg (fun b => b = p.D) wc w7 := by rw [hw7]; first | exact ((Chg.refl _ _).drew).set1 _ _ | exact (((Chg.refl _ _).drew).set1 _ _).drew
    obtain ⟨hA7, hcx⟩ := A6.out.dturn D7.out hc7
    have A7 := Lib.hid hA7
    have Y7 := Lib.hid (Y6.out.chg hcx (NX.out _ hzy))
    have Z7 := Lib.hid (Z6.out.chg hcx (NX.out _ (by omega)))
    replace hw7 := Lib.hid hw7
    clear hc7 hA7 hcx d0 d1 zD fD
    obtain ⟨u0, u1, u2⟩ := cells3 Y7.out
    obtain ⟨t0, t1, t2⟩ := cells3 Z7.out
    have zu := Y7.out.lt
    have zt := Z7.out.lt
    go_wp2
    go_ret
    exact ⟨rfl, T, n, rfl, by omega, A7.out⟩
end
end Go.Proofs.YtannohinhlefaaaGreatDoor

namespace Go.Proofs.YtannohinhlefaaaGreatDoor
open Go.RowKit Go.Proofs
theorem putT_yes {T : TabS} {key v : Int} {h : Nat} (hh : T.has key h = true) : T.putT key v h = T.setV (T.lastG key h) (T.atZ key h).toNat v := by unfold TabS.putT; rw [if_pos hh]
theorem delT_no {T : TabS} {key : Int} {h : Nat} (hh : T.has key h = false) : T.delT key h = T := by unfold TabS.delT; rw [hh]; rfl
theorem placeT_no {T : TabS} {key x0 x1 : Int} {h h' : Nat} (hn : T.placeN key h x0 h' ≠ 0) : T.placeT key h x0 x1 h' = T := by unfold TabS.placeT; rw [if_neg hn]
theorem placeN_has {T : TabS} {key x0 : Int} {h h' : Nat} (hh : T.has key h = true) : T.placeN key h x0 h' = 16 := by unfold TabS.placeN; rw [if_pos hh]
theorem placeN_bad {T : TabS} {key x0 : Int} {h h' : Nat} (hh : T.has key h = false) (hne : h' ≠ h) : T.placeN key h x0 h' = 14 := by unfold TabS.placeN; rw [hh, if_neg (by decide), if_pos (.inr hne)]
theorem placeN_put {T : TabS} {key : Int} {h : Nat} (hh : T.has key h = false) : T.placeN key h key h = T.putN key h := by
  unfold TabS.placeN TabS.putN
  rw [hh, if_neg (by decide), if_neg (by simp)]
  simp
theorem placeT_put {T : TabS} {key v : Int} {h : Nat} (hh : T.has key h = false) : T.placeT key h key v h = T.putT key v h := by
  unfold TabS.placeT TabS.putT
  rw [placeN_put hh]
  unfold TabS.putN
  rw [hh]
  cases hr : T.room key h <;> simp [hr]
section
variable {w w' w0 : World} {p : PB} {M : Nat} {T T2 : TabS} {k : Nat} {L : Int} {E : Nat → Addr}
theorem AW.seek (h : AW w p M T T2 k L E w0) (key : Int) (hs : Nat) (hh : hs < 18446744073709551616) :
    Calls Tryz.prog 52 #[.pointer (some ⟨p.B, 0, none⟩), .agg #[.pointer (some ⟨M, 0, none⟩), .int .i64 1, .int .i64 0, .int .i64 0], .int .u64 key, .int .u64 (hs : Int)] w fun e w' =>
      ∃ fp, e = .returned (.agg (spotC p.B key hs (T.atP p.Q key hs) (T.atZ key hs) fp (T.frZ key hs))) ∧ (0 ≤ T.frZ key hs → fp = some ⟨p.Q, T.freeG key hs * 25, none⟩) ∧ AW w' p M T T2 (k + T.looks key hs) L E w0 ∧ Chg (AX p M) w w' := by
  refine (seekT_any p.B p.Q T h.t.good key hs hh _ (some M) (LensAt.m M) (pmS k) 1 0 0 w h.t.t h.t.m (h.t.hlp.seek h.t.m h.t.low.lt) h.t.low.t).mono ?_
  rintro e w' ⟨fp, rfl, hf, h1, h2⟩
  rw [pmS_add] at h1
  exact ⟨fp, rfl, hf, h.tturn (h.t.turn h1 h2) h2⟩
theorem AW.entry (h : AW w p M T T2 k L E w0) (key : Int) (hs : Nat) (fp : Option Addr) (fz : Int) :
    Calls Tryz.prog 58 #[.agg (spotC p.B key hs (T.atP p.Q key hs) (T.atZ key hs) fp fz)] w fun e w' =>
      e = .returned (.tuple #[(T.ent key hs).val3, .bool (T.has key hs)]) ∧ Below w.heap.size w w' :=
  entry_any p.B p.Q T h.t.good key hs fp fz E w h.t.t (h.t.low.e.sub (by decide))
theorem AW.own {T' : TabS} (h : AW w p M T T2 k L E w0) (ht : TS w' p.B p.Q T') (hg : TGood T') (hc : Chg (fun b => b = p.B ∨ b = p.Q) w w') : AW w' p M T' T2 k L E w0 ∧ Chg (AX p M) w w' := by
  have ho := h.o
  have hb := h.b
  refine h.tstep (h.t.full ht hg (h.t.m.chg hc (fun b e e2 => by have := Option.some.inj e; omega)) (hc.mono fun b _ e => .inr e)) (hc.mono fun b _ e => .inr e)
theorem AW.replace (h : AW w p M T T2 k L E w0) (key v : Int) (hs : Nat) (hh : hs < 18446744073709551616) (fp : Option Addr) (fz : Int) (he : EC w E [1, 4, 5]) :
    Calls Tryz.prog 68 #[.agg (spotC p.B key hs (T.atP p.Q key hs) (T.atZ key hs) fp fz), .int .u64 v] w fun e w' =>
      e = .returned (errN E (if T.has key hs = true then 0 else 4)) ∧ AW w' p M (if T.has key hs = true then T.putT key v hs else T) T2 k L E w0 ∧ Chg (AX p M) w w' := by
  refine (replace_any p.B p.Q T h.t.good key hs fp fz v E w h.t.t he).mono ?_
  rintro e w' ⟨rfl, h1, h2⟩
  cases hq : T.has key hs with
  | true =>
    rw [hq, if_pos rfl, ← putT_yes hq] at h1
    exact ⟨rfl, h.own h1 (h.t.good.putT v hh) h2⟩
  | false =>
    rw [hq, if_neg (by decide)] at h1
    exact ⟨rfl, h.own h1 h.t.good h2⟩
theorem AW.remove (h : AW w p M T T2 k L E w0) (key : Int) (hs : Nat) (fp : Option Addr) (fz : Int) (he : EC w E [1, 4, 5]) :
    Calls Tryz.prog 78 #[.agg (spotC p.B key hs (T.atP p.Q key hs) (T.atZ key hs) fp fz)] w fun e w' =>
      e = .returned (errN E (if T.has key hs = true then 0 else 4)) ∧ AW w' p M (T.delT key hs) T2 k L E w0 ∧ Chg (AX p M) w w' := by
  refine (remove_any p.B p.Q T h.t.good key hs fp fz E w h.t.t he).mono ?_
  rintro e w' ⟨rfl, h1, h2⟩
  exact ⟨rfl, h.own h1 h.t.good.delT h2⟩
theorem AW.place (h : AW w p M T T2 k L E w0) (key : Int) (hs : Nat) (hh : hs < 18446744073709551616) (fp : Option Addr) (hfp : 0 ≤ T.frZ key hs → fp = some ⟨p.Q, T.freeG key hs * 25, none⟩) (x1 : Int) :
    Calls Tryz.prog 69 #[.agg (spotC p.B key hs (T.atP p.Q key hs) (T.atZ key hs) fp (T.frZ key hs)), .agg #[.int .u64 key, .int .u64 x1, .int .u64 (hs : Int)]] w fun e w' =>
      e = .returned (errN E (if T.has key hs = true then 16 else T.putN key hs)) ∧ AW w' p M (if T.has key hs = true then T else T.putT key x1 hs) T2 k L E w0 ∧ Chg (AX p M) w w' := by
  refine (place_any p.B p.Q T h.t.good key hs hh fp hfp key x1 hs E w h.t.t (h.t.low.e.sub (by decide))).mono ?_
  rintro e w' ⟨rfl, h1, h2⟩
  cases hq : T.has key hs with
  | true =>
    rw [placeN_has hq]
    rw [placeT_no (by rw [placeN_has hq]; decide)] at h1
    exact ⟨rfl, h.own h1 h.t.good h2⟩
  | false =>
    rw [placeN_put hq]
    rw [placeT_put hq] at h1
    exact ⟨rfl, h.own h1 (h.t.good.putT x1 hh) h2⟩
theorem AW.place2 (h : AW w p M T T2 k L E w0) (key : Int) (hs : Nat) (hh : hs < 18446744073709551616) (fp : Option Addr) (hfp : 0 ≤ T.frZ key hs → fp = some ⟨p.Q, T.freeG key hs * 25, none⟩) (x1 : Int) (hs' : Nat) (hne : hs' ≠ hs) :
    Calls Tryz.prog 69 #[.agg (spotC p.B key hs (T.atP p.Q key hs) (T.atZ key hs) fp (T.frZ key hs)), .agg #[.int .u64 key, .int .u64 x1, .int .u64 (hs' : Int)]] w fun e w' =>
      e = .returned (errN E (if T.has key hs = true then 16 else 14)) ∧ AW w' p M T T2 k L E w0 ∧ Chg (AX p M) w w' := by
  refine (place_any p.B p.Q T h.t.good key hs hh fp hfp key x1 hs' E w h.t.t (h.t.low.e.sub (by decide))).mono ?_
  rintro e w' ⟨rfl, h1, h2⟩
  cases hq : T.has key hs with
  | true =>
    rw [placeN_has hq]
    rw [placeT_no (by rw [placeN_has hq]; decide)] at h1
    exact ⟨rfl, h.own h1 h.t.good h2⟩
  | false =>
    rw [placeN_bad hq hne]
    rw [placeT_no (by rw [placeN_bad hq hne]; decide)] at h1
    exact ⟨rfl, h.own h1 h.t.good h2⟩
end
end Go.Proofs.YtannohinhlefaaaGreatDoor

namespace Go.Proofs.YtannohinhlefaaaGreatDoor
open Go.RowKit Go.Proofs
attribute [local go_sem] neq_nilG eql_nilG nilT
section
variable {w w' w0 : World} {p : PB} {M : Nat} {T T2 : TabS} {k : Nat} {L : Int} {E : Nat → Addr}
set_option maxRecDepth 100000 in
set_option maxHeartbeats 8000000 in
theorem spot6_any (h : AW w p M T T k L E w0) (hL : 0 ≤ L ∧ L ≤ 1000000) (hes : ErrsAre w0 E) (key v : Int) (hs : Nat) (hh : hs < 18446744073709551616) (ky N : Int) (fp : Option Addr) (fz : Int) :
    Calls Tryz.prog 51 #[.agg (spotC p.B key hs (T.atP p.Q key hs) (T.atZ key hs) fp fz), .pointer (some ⟨p.D, 0, none⟩), .agg #[.int .u64 key, .int .u64 v, .int .u64 (hs : Int)], .agg #[.int .i64 6, .int .i64 ky, .int .i64 N]] w fun e w' =>
      e = .returned (.bool true) ∧ AW w' p M (if T.has key hs = true then T.putT key v hs else T) (if T.has key hs = true then T.putT key v hs else T) k (L + T.looks key hs) E w0 := by
  have hlk := (looks_bd h.t.good key hs)
  have hbd := h.t.good.bounds
  have hlk64 : T.looks key hs ≤ 64 := by omega
  have HA := Lib.hid h
  have HES := Lib.hid hes
  have P1 := Lib.hid (fun (w' : World) (h' : AW w' p M T T k L E w0) => h'.entry key hs fp fz)
  have P2 := Lib.hid (fun (w' : World) (h' : AW w' p M T T k L E w0) => h'.find2 ⟨hL.1, by omega⟩ key hs hh)
  have P3 := Lib.hid (fun (w' : World) (h' : AW w' p M T T k (L + T.looks key hs) E w0) => h'.put2 ⟨by omega, by omega⟩ key v hs hh)
  have P4 := Lib.hid (fun (T2 : TabS) (w' : World) (h' : AW w' p M T T2 k (L + T.looks key hs) E w0) => h'.replace key v hs hh fp fz ((hes.below (h'.t.bel.mono (Nat.le_refl _))).ec.sub (by decide)))
  have NU := Lib.hid (fun (n : Nat) (hn : n ≤ 16) (w' : World) (h' : Below w0.heap.size w0 w') => num_any E n hn w' (HES.out.below (h'.mono (Nat.le_refl _))))
  obtain ⟨L2, hL2⟩ : ∃ L2, L2 = L + (T.looks key hs : Int) := ⟨_, rfl⟩
  rw [← hL2] at P2 P3 P4
  replace hL2 := Lib.hid hL2
  simp only [spotC, EntS.val3] at P1 P4 ⊢
  generalize T.ent key hs = en at *
  obtain ⟨n0, n1, n2⟩ := en
  dsimp only at P1 P2
  generalize hap : T.atP p.Q key hs = ap at *
  generalize haz : T.atZ key hs = az at *
  obtain ⟨TF, hTF⟩ : ∃ TF, TF = if T.has key hs = true then T.putT key v hs else T := ⟨_, rfl⟩
  rw [← hTF] at P4 ⊢
  replace hTF := Lib.hid hTF
  clear h hes hbd hap haz
  go_enter Tryz.func51, Tryz.ntmps51
  go_upto_region 5 with (first
    | (go_at_call 58; (with_reducible refine (P1.out _ (HA.out.later (by go_grown))).mono ?_); rintro e w2 ⟨rfl, hb2⟩; have A2 := Lib.hid (HA.out.later (Below.trans (show Below w.heap.size w _ from by go_grown) (hb2.mono (by simp; omega)))); have X4 := Lib.hid (show Blk w2 w.heap.size 109 #[.pointer (some ⟨p.B, 0, none⟩), .int .u64 key, .int .u64 (hs : Int), .pointer ap, .int .i64 az, .pointer fp, .int .i64 fz] from (((Blk.new _ _ _).alloc _).alloc _).below hb2 (by simp; omega)); have X6 := Lib.hid (show Blk w2 (w.heap.size + 1) 47 #[.int .u64 key, .int .u64 v, .int .u64 (hs : Int)] from ((Blk.new_at (by simp)).alloc _).below hb2 (by simp)); have X7 := Lib.hid (show Blk w2 (w.heap.size + 1 + 1) 40 #[.int .i64 6, .int .i64 ky, .int .i64 N] from (Blk.new_at (by simp)).below hb2 (by simp)); have hz2 : w.heap.size + 1 + 1 + 1 ≤ w2.heap.size := (by have := hb2.size; simpa using this); have q2 := cells3 (X6.out.alloc (.cells #[.int .u64 n0, .int .u64 n1, .int .u64 n2] 47)); have q20 := q2.1; have q21 := q2.2.1; have q22 := q2.2.2; have zq := X6.out.lt; clear q2)
    | (go_at_call 42; (with_reducible refine (P2.out _ (A2.out.later ((Below.refl _ _).alloc (Nat.le_refl _) _))).mono ?_); rintro e w3 ⟨rfl, h3, hc3⟩; have A3 := Lib.hid h3; have hz3 := hc3.size; have NX3 : ∀ b, w.heap.size ≤ b → ¬ AX p M b := (fun b hb => HA.out.new hb); have Y9 := Lib.hid ((Blk.new w2 47 #[.int .u64 n0, .int .u64 n1, .int .u64 n2]).chg hc3 (NX3 _ (by omega))); have Y4 := Lib.hid ((X4.out.alloc (.cells #[.int .u64 n0, .int .u64 n1, .int .u64 n2] 47)).chg hc3 (NX3 _ (by omega))); have Y6 := Lib.hid ((X6.out.alloc (.cells #[.int .u64 n0, .int .u64 n1, .int .u64 n2] 47)).chg hc3 (NX3 _ (by omega))); have Y7 := Lib.hid ((X7.out.alloc (.cells #[.int .u64 n0, .int .u64 n1, .int .u64 n2] 47)).chg hc3 (NX3 _ (by omega))); have NX := Lib.hid NX3; have q3 := cells3 Y9.out; have q30 := q3.1; have q31 := q3.2.1; have q32 := q3.2.2; have zq3 := Y9.out.lt; clear q3 h3 NX3))
  refine wp_at (fun w4 hw4 => ?_)
  have hb4 : Below w3.heap.size w3 w4 := by rw [hw4]; go_grown
  have A4 := Lib.hid (A3.out.later hb4)
  have Z4 := Lib.hid (Y4.out.below hb4 Y4.out.lt)
  have Z6 := Lib.hid (Y6.out.below hb4 Y6.out.lt)
  have Z7 := Lib.hid (Y7.out.below hb4 Y7.out.lt)
  have hz4 := hb4.size
  have NXw := Lib.hid (NX.out)
  replace hw4 := Lib.hid hw4
  clear hb4 q20 q21 q22 zq q30 q31 q32 zq3 X4 X6 X7 Y4 Y6 Y7 Y9
  obtain ⟨d1, fD⟩ := A4.out.d.cells
  have zD := A4.out.d.lt
  obtain ⟨e0, e1, e2⟩ := cells3 Z6.out
  obtain ⟨c0, c1, c2⟩ := cells3 Z7.out
  have ze := Z6.out.lt
  have za := Z7.out.lt
  cases hq : T.has key hs with
  | true =>
    rw [hq] at P4 hTF
    rw [if_pos rfl] at hTF
    simp only [if_true] at P4
    go_upto_region 13 with (fail)
    refine wp_at (fun w5 hw5 => ?_)
    have hb5 : Below w4.heap.size w4 w5 := by rw [hw5]; go_grown
    have A5 := Lib.hid (A4.out.later hb5)
    have V4 := Lib.hid (Z4.out.below hb5 Z4.out.lt)
    have V6 := Lib.hid (Z6.out.below hb5 Z6.out.lt)
    replace hw5 := Lib.hid hw5
    clear hb5 d1 fD zD e0 e1 e2 c0 c1 c2 ze za Z4 Z6 Z7
    obtain ⟨d1, fD⟩ := A5.out.d.cells
    have zD := A5.out.d.lt
    obtain ⟨e0, e1, e2⟩ := cells3 V6.out
    have ze := V6.out.lt
    go_upto_region 14 with (go_at_call 39; (with_reducible refine (P3.out _ A5.out).mono ?_); rintro e w6 ⟨rfl, h6, hc6⟩; have A6 := Lib.hid h6; have W4 := Lib.hid (V4.out.chg hc6 (NX.out _ (by omega))); have W6 := Lib.hid (V6.out.chg hc6 (NX.out _ (by omega))); clear h6)
    clear d1 fD zD e0 e1 e2 ze
    obtain ⟨d1, fD⟩ := A6.out.d.cells
    have zD := A6.out.d.lt
    go_upto_region 15 with (fail)
    refine wp_at (fun w7 hw7 => ?_)
    have hc7 : Chg (fun b => b = p.D) w6 w7 := by rw [hw7]; exact (Chg.refl _ _).set1 _ _
    obtain ⟨hA7, hcx7⟩ := A6.out.dturn (show DX w7 p.mid p.hi p.D (T.putT key v hs) L2 by rw [hw7]; exact A6.out.d.looks L2) hc7
    have A7 := Lib.hid hA7
    have U4 := Lib.hid (W4.out.chg hcx7 (NX.out _ (by omega)))
    have U6 := Lib.hid (W6.out.chg hcx7 (NX.out _ (by omega)))
    obtain ⟨e0, e1, e2⟩ := cells3 U6.out
    have ze := U6.out.lt
    replace hw7 := Lib.hid hw7
    clear hA7 hcx7 hc7 d1 fD zD
    obtain ⟨s0, s1, s2, s3, s4, s5, s6⟩ := spot7 U4.out
    have zs := U4.out.lt
    go_wp2_with (first
      | (go_at_call 68; (with_reducible refine (P4.out _ _ A7.out).mono ?_); rintro e w8 ⟨rfl, h8, -⟩; have A8 := Lib.hid h8; clear h8)
      | (go_at_call 8; (with_reducible refine (NU.out _ (by decide) _ A8.out.t.bel).mono ?_); rintro e w9 ⟨rfl, hb9⟩; have A9 := Lib.hid (A8.out.later hb9)))
    go_ret
    exact ⟨rfl, by rw [← hL2.out]; have := A9.out; rw [← hTF.out] at this; exact this⟩
  | false =>
    rw [hq] at P4 hTF
    rw [if_neg (by decide)] at hTF
    simp only [Bool.false_eq_true, if_false] at P4
    go_upto_region 14 with (fail)
    refine wp_at (fun w5 hw5 => ?_)
    have hb5 : Below w4.heap.size w4 w5 := by rw [hw5]; go_grown
    have A5 := Lib.hid (A4.out.later hb5)
    have V4 := Lib.hid (Z4.out.below hb5 Z4.out.lt)
    have V6 := Lib.hid (Z6.out.below hb5 Z6.out.lt)
    replace hw5 := Lib.hid hw5
    clear hb5 d1 fD zD e0 e1 e2 c0 c1 c2 ze za Z4 Z6 Z7
    obtain ⟨d1, fD⟩ := A5.out.d.cells
    have zD := A5.out.d.lt
    obtain ⟨e0, e1, e2⟩ := cells3 V6.out
    have ze := V6.out.lt
    clear e0 e1 e2 ze
    go_upto_region 15 with (fail)
    refine wp_at (fun w7 hw7 => ?_)
    have hc7 : Chg (fun b => b = p.D) w5 w7 := by rw [hw7]; exact (Chg.refl _ _).set1 _ _
    obtain ⟨hA7, hcx7⟩ := A5.out.dturn (show DX w7 p.mid p.hi p.D T L2 by rw [hw7]; exact A5.out.d.looks L2) hc7
    have A7 := Lib.hid hA7
    have U4 := Lib.hid (V4.out.chg hcx7 (NX.out _ (by omega)))
    have U6 := Lib.hid (V6.out.chg hcx7 (NX.out _ (by omega)))
    obtain ⟨e0, e1, e2⟩ := cells3 U6.out
    have ze := U6.out.lt
    replace hw7 := Lib.hid hw7
    clear hA7 hcx7 hc7 d1 fD zD
    obtain ⟨s0, s1, s2, s3, s4, s5, s6⟩ := spot7 U4.out
    have zs := U4.out.lt
    go_wp2_with (first
      | (go_at_call 68; (with_reducible refine (P4.out _ _ A7.out).mono ?_); rintro e w8 ⟨rfl, h8, -⟩; have A8 := Lib.hid h8; clear h8)
      | (go_at_call 8; (with_reducible refine (NU.out _ (by decide) _ A8.out.t.bel).mono ?_); rintro e w9 ⟨rfl, hb9⟩; have A9 := Lib.hid (A8.out.later hb9)))
    go_ret
    exact ⟨rfl, by rw [← hL2.out]; have := A9.out; rw [← hTF.out] at this; exact this⟩
end
end Go.Proofs.YtannohinhlefaaaGreatDoor

namespace Go.Proofs.YtannohinhlefaaaGreatDoor
open Go.RowKit Go.Proofs
attribute [local go_sem] neq_nilG eql_nilG nilT
section
variable {w w' w0 : World} {p : PB} {M : Nat} {T T2 : TabS} {k : Nat} {L : Int} {E : Nat → Addr}
theorem next_hash (hs : Nat) (hh : hs < 18446744073709551616) : ∃ h2 : Nat, IntKind.u64.wrap ((hs : Int) + 1) = (h2 : Int) ∧ h2 ≠ hs := by
  refine ⟨(hs + 1) % 18446744073709551616, ?_, ?_⟩
  · rw [IntKind.wrap_u64]; omega
  · omega
set_option maxRecDepth 100000 in
set_option maxHeartbeats 8000000 in
theorem spot7_any (h : AW w p M T T k L E w0) (hL : 0 ≤ L ∧ L ≤ 1000000) (hes : ErrsAre w0 E) (key v : Int) (hs : Nat) (hh : hs < 18446744073709551616) (ky N : Int) (fp : Option Addr) (hfp : 0 ≤ T.frZ key hs → fp = some ⟨p.Q, T.freeG key hs * 25, none⟩) :
    Calls Tryz.prog 51 #[.agg (spotC p.B key hs (T.atP p.Q key hs) (T.atZ key hs) fp (T.frZ key hs)), .pointer (some ⟨p.D, 0, none⟩), .agg #[.int .u64 key, .int .u64 v, .int .u64 (hs : Int)], .agg #[.int .i64 7, .int .i64 ky, .int .i64 N]] w fun e w' =>
      e = .returned (.bool true) ∧ AW w' p M (if T.has key hs = true then T else T.putT key v hs) (if T.has key hs = true then T else T.putT key v hs) k (L + T.looks key hs) E w0 := by
  have hlk := (looks_bd h.t.good key hs)
  have hbd := h.t.good.bounds
  have hlk64 : T.looks key hs ≤ 64 := by omega
  obtain ⟨h2, hw2', hne⟩ := next_hash hs hh
  have HA := Lib.hid h
  have HES := Lib.hid hes
  have P1 := Lib.hid (fun (w' : World) (h' : AW w' p M T T k L E w0) => h'.entry key hs fp (T.frZ key hs))
  have P2 := Lib.hid (fun (w' : World) (h' : AW w' p M T T k L E w0) => h'.find2 ⟨hL.1, by omega⟩ key hs hh)
  have P3 := Lib.hid (fun (w' : World) (h' : AW w' p M T T k (L + T.looks key hs) E w0) => h'.put2 ⟨by omega, by omega⟩ key v hs hh)
  have P5 := Lib.hid (fun (w' : World) (h' : AW w' p M T T k (L + T.looks key hs) E w0) => h'.place2 key hs hh fp hfp v h2 hne)
  have P4 := Lib.hid (fun (T2 : TabS) (w' : World) (h' : AW w' p M T T2 k (L + T.looks key hs) E w0) => h'.place key hs hh fp hfp v)
  have hpn : T.putN key hs ≤ 16 := by unfold TabS.putN; split <;> omega
  have NU := Lib.hid (fun (n : Nat) (hn : n ≤ 16) (w' : World) (h' : Below w0.heap.size w0 w') => num_any E n hn w' (HES.out.below (h'.mono (Nat.le_refl _))))
  have NU16 := Lib.hid (NU.out 16 (by decide))
  have NU14 := Lib.hid (NU.out 14 (by decide))
  have NUp := Lib.hid (NU.out _ hpn)
  obtain ⟨TF, hTF⟩ : ∃ TF, TF = if T.has key hs = true then T else T.putT key v hs := ⟨_, rfl⟩
  rw [← hTF] at P4 ⊢
  replace hTF := Lib.hid hTF
  generalize T.putN key hs = pn at *
  generalize T.putB key hs = pb at *
  obtain ⟨L2, hL2⟩ : ∃ L2, L2 = L + (T.looks key hs : Int) := ⟨_, rfl⟩
  rw [← hL2] at P2 P3 P4 P5
  replace hL2 := Lib.hid hL2
  simp only [spotC, EntS.val3] at P1 P4 P5 ⊢
  generalize T.ent key hs = en at *
  obtain ⟨n0, n1, n2⟩ := en
  dsimp only at P1 P2
  generalize hap : T.atP p.Q key hs = ap at *
  generalize haz : T.atZ key hs = az at *
  generalize hfz : T.frZ key hs = fz at *
  clear h hes hbd hap haz hfz hfp NU hne
  go_enter Tryz.func51, Tryz.ntmps51
  go_upto_region 5 with (first
    | (go_at_call 58; (with_reducible refine (P1.out _ (HA.out.later (by go_grown))).mono ?_); rintro e w2 ⟨rfl, hb2⟩; have A2 := Lib.hid (HA.out.later (Below.trans (show Below w.heap.size w _ from by go_grown) (hb2.mono (by simp; omega)))); have X4 := Lib.hid (show Blk w2 w.heap.size 109 #[.pointer (some ⟨p.B, 0, none⟩), .int .u64 key, .int .u64 (hs : Int), .pointer ap, .int .i64 az, .pointer fp, .int .i64 fz] from (((Blk.new _ _ _).alloc _).alloc _).below hb2 (by simp; omega)); have X6 := Lib.hid (show Blk w2 (w.heap.size + 1) 47 #[.int .u64 key, .int .u64 v, .int .u64 (hs : Int)] from ((Blk.new_at (by simp)).alloc _).below hb2 (by simp)); have X7 := Lib.hid (show Blk w2 (w.heap.size + 1 + 1) 40 #[.int .i64 7, .int .i64 ky, .int .i64 N] from (Blk.new_at (by simp)).below hb2 (by simp)); have hz2 : w.heap.size + 1 + 1 + 1 ≤ w2.heap.size := (by have := hb2.size; simpa using this); have q2 := cells3 (X6.out.alloc (.cells #[.int .u64 n0, .int .u64 n1, .int .u64 n2] 47)); have q20 := q2.1; have q21 := q2.2.1; have q22 := q2.2.2; have zq := X6.out.lt; clear q2)
    | (go_at_call 42; (with_reducible refine (P2.out _ (A2.out.later ((Below.refl _ _).alloc (Nat.le_refl _) _))).mono ?_); rintro e w3 ⟨rfl, h3, hc3⟩; have A3 := Lib.hid h3; have hz3 := hc3.size; have NX3 : ∀ b, w.heap.size ≤ b → ¬ AX p M b := (fun b hb => HA.out.new hb); have Y9 := Lib.hid ((Blk.new w2 47 #[.int .u64 n0, .int .u64 n1, .int .u64 n2]).chg hc3 (NX3 _ (by omega))); have Y4 := Lib.hid ((X4.out.alloc (.cells #[.int .u64 n0, .int .u64 n1, .int .u64 n2] 47)).chg hc3 (NX3 _ (by omega))); have Y6 := Lib.hid ((X6.out.alloc (.cells #[.int .u64 n0, .int .u64 n1, .int .u64 n2] 47)).chg hc3 (NX3 _ (by omega))); have Y7 := Lib.hid ((X7.out.alloc (.cells #[.int .u64 n0, .int .u64 n1, .int .u64 n2] 47)).chg hc3 (NX3 _ (by omega))); have NX := Lib.hid NX3; have q3 := cells3 Y9.out; have q30 := q3.1; have q31 := q3.2.1; have q32 := q3.2.2; have zq3 := Y9.out.lt; clear q3 h3 NX3))
  refine wp_at (fun w4 hw4 => ?_)
  have hb4 : Below w3.heap.size w3 w4 := by rw [hw4]; go_grown
  have A4 := Lib.hid (A3.out.later hb4)
  have Z4 := Lib.hid (Y4.out.below hb4 Y4.out.lt)
  have Z6 := Lib.hid (Y6.out.below hb4 Y6.out.lt)
  have Z7 := Lib.hid (Y7.out.below hb4 Y7.out.lt)
  have hz4 := hb4.size
  have NXw := Lib.hid (NX.out)
  replace hw4 := Lib.hid hw4
  clear hb4 q20 q21 q22 zq q30 q31 q32 zq3 X4 X6 X7 Y4 Y6 Y7 Y9
  obtain ⟨d1, fD⟩ := A4.out.d.cells
  have zD := A4.out.d.lt
  obtain ⟨e0, e1, e2⟩ := cells3 Z6.out
  obtain ⟨c0, c1, c2⟩ := cells3 Z7.out
  have ze := Z6.out.lt
  have za := Z7.out.lt
  cases hq : T.has key hs with
  | true =>
    rw [hq] at P4 P5 hTF
    rw [if_pos rfl] at hTF
    simp only [if_true] at P4 P5
    go_upto_region 25 with (fail)
    refine wp_at (fun w5 hw5 => ?_)
    have hb5 : Below w4.heap.size w4 w5 := by rw [hw5]; go_grown
    have A5 := Lib.hid (A4.out.later hb5)
    have V4 := Lib.hid (Z4.out.below hb5 Z4.out.lt)
    have V6 := Lib.hid (Z6.out.below hb5 Z6.out.lt)
    have O5 := Lib.hid (show Blk w5 w4.heap.size 47 #[.int .u64 key, .int .u64 v, .int .u64 (h2 : Int)] by rw [hw5]; exact Blk.new _ _ _)
    replace hw5 := Lib.hid hw5
    clear hb5 d1 fD zD e0 e1 e2 c0 c1 c2 ze za Z4 Z6 Z7
    obtain ⟨o0, o1, o2⟩ := cells3 O5.out
    have zo := O5.out.lt
    obtain ⟨s0, s1, s2, s3, s4, s5, s6⟩ := spot7 V4.out
    have zs := V4.out.lt
    go_upto_region 29 with (first
      | (go_at_call 69; (with_reducible refine (P5.out _ A5.out).mono ?_); rintro e w6 ⟨rfl, h6, hc6⟩; have A6 := Lib.hid h6; have W4 := Lib.hid (V4.out.chg hc6 (NX.out _ (by omega))); have W6 := Lib.hid (V6.out.chg hc6 (NX.out _ (by omega))); clear h6)
      | (go_at_call 8; (with_reducible refine (NU16.out _ A6.out.t.bel).mono ?_); rintro e w7 ⟨rfl, hb7⟩; have A7 := Lib.hid (A6.out.later hb7); have R4 := Lib.hid (W4.out.below hb7 W4.out.lt); have R6 := Lib.hid (W6.out.below hb7 W6.out.lt)))
    clear o0 o1 o2 zo s0 s1 s2 s3 s4 s5 s6 zs
    obtain ⟨d1, fD⟩ := A7.out.d.cells
    have zD := A7.out.d.lt
    go_upto_region 30 with (fail)
    refine wp_at (fun w8 hw8 => ?_)
    have hc8 : Chg (fun b => b = p.D) w7 w8 := by rw [hw8]; exact (Chg.refl _ _).set1 _ _
    obtain ⟨hA8, hcx8⟩ := A7.out.dturn (show DX w8 p.mid p.hi p.D T L2 by rw [hw8]; exact A7.out.d.looks L2) hc8
    have A8 := Lib.hid hA8
    have U4 := Lib.hid (R4.out.chg hcx8 (NX.out _ (by omega)))
    have U6 := Lib.hid (R6.out.chg hcx8 (NX.out _ (by omega)))
    replace hw8 := Lib.hid hw8
    clear hA8 hcx8 hc8 d1 fD zD
    obtain ⟨s0, s1, s2, s3, s4, s5, s6⟩ := spot7 U4.out
    have zs := U4.out.lt
    obtain ⟨e0, e1, e2⟩ := cells3 U6.out
    have ze := U6.out.lt
    go_wp2_with (first
      | (go_at_call 69; (with_reducible refine (P4.out _ _ A8.out).mono ?_); rintro e w9 ⟨rfl, h9, -⟩; have A9 := Lib.hid h9; clear h9)
      | (go_at_call 8; (with_reducible refine (NU16.out _ A9.out.t.bel).mono ?_); rintro e w10 ⟨rfl, hb10⟩; have A10 := Lib.hid (A9.out.later hb10)))
    go_ret
    exact ⟨rfl, by rw [← hL2.out]; have := A10.out; rw [← hTF.out] at this; exact this⟩
  | false =>
    rw [hq] at P4 P5 hTF
    rw [if_neg (by decide)] at hTF
    simp only [Bool.false_eq_true, if_false] at P4 P5
    go_upto_region 25 with (fail)
    refine wp_at (fun w5 hw5 => ?_)
    have hb5 : Below w4.heap.size w4 w5 := by rw [hw5]; go_grown
    have A5 := Lib.hid (A4.out.later hb5)
    have V4 := Lib.hid (Z4.out.below hb5 Z4.out.lt)
    have V6 := Lib.hid (Z6.out.below hb5 Z6.out.lt)
    have O5 := Lib.hid (show Blk w5 w4.heap.size 47 #[.int .u64 key, .int .u64 v, .int .u64 (h2 : Int)] by rw [hw5]; exact Blk.new _ _ _)
    replace hw5 := Lib.hid hw5
    clear hb5 d1 fD zD e0 e1 e2 c0 c1 c2 ze za Z4 Z6 Z7
    obtain ⟨o0, o1, o2⟩ := cells3 O5.out
    have zo := O5.out.lt
    obtain ⟨s0, s1, s2, s3, s4, s5, s6⟩ := spot7 V4.out
    have zs := V4.out.lt
    go_upto_region 28 with (first
      | (go_at_call 69; (with_reducible refine (P5.out _ A5.out).mono ?_); rintro e w6 ⟨rfl, h6, hc6⟩; have A6 := Lib.hid h6; have W4 := Lib.hid (V4.out.chg hc6 (NX.out _ (by omega))); have W6 := Lib.hid (V6.out.chg hc6 (NX.out _ (by omega))); clear h6)
      | (go_at_call 8; (with_reducible refine (NU14.out _ A6.out.t.bel).mono ?_); rintro e w7 ⟨rfl, hb7⟩; have A7 := Lib.hid (A6.out.later hb7); have R4 := Lib.hid (W4.out.below hb7 W4.out.lt); have R6 := Lib.hid (W6.out.below hb7 W6.out.lt)))
    clear o0 o1 o2 zo s0 s1 s2 s3 s4 s5 s6 zs
    obtain ⟨e0, e1, e2⟩ := cells3 R6.out
    have ze := R6.out.lt
    go_upto_region 29 with (go_at_call 39; (with_reducible refine (P3.out _ A7.out).mono ?_); rintro e w7' ⟨rfl, h7', hc7'⟩; have A7' := Lib.hid h7'; have Q4 := Lib.hid (R4.out.chg hc7' (NX.out _ (by omega))); have Q6 := Lib.hid (R6.out.chg hc7' (NX.out _ (by omega))); clear h7')
    clear e0 e1 e2 ze
    obtain ⟨d1, fD⟩ := A7'.out.d.cells
    have zD := A7'.out.d.lt
    go_upto_region 30 with (fail)
    refine wp_at (fun w8 hw8 => ?_)
    have hc8 : Chg (fun b => b = p.D) w7' w8 := by rw [hw8]; exact (Chg.refl _ _).set1 _ _
    obtain ⟨hA8, hcx8⟩ := A7'.out.dturn (show DX w8 p.mid p.hi p.D (T.putT key v hs) L2 by rw [hw8]; exact A7'.out.d.looks L2) hc8
    have A8 := Lib.hid hA8
    have U4 := Lib.hid (Q4.out.chg hcx8 (NX.out _ (by omega)))
    have U6 := Lib.hid (Q6.out.chg hcx8 (NX.out _ (by omega)))
    replace hw8 := Lib.hid hw8
    clear hA8 hcx8 hc8 d1 fD zD
    obtain ⟨s0, s1, s2, s3, s4, s5, s6⟩ := spot7 U4.out
    have zs := U4.out.lt
    obtain ⟨e0, e1, e2⟩ := cells3 U6.out
    have ze := U6.out.lt
    go_wp2_with (first
      | (go_at_call 69; (with_reducible refine (P4.out _ _ A8.out).mono ?_); rintro e w9 ⟨rfl, h9, -⟩; have A9 := Lib.hid h9; clear h9)
      | (go_at_call 8; (with_reducible refine (NUp.out _ A9.out.t.bel).mono ?_); rintro e w10 ⟨rfl, hb10⟩; have A10 := Lib.hid (A9.out.later hb10)))
    go_ret
    exact ⟨rfl, by rw [← hL2.out]; have := A10.out; rw [← hTF.out] at this; exact this⟩
end
end Go.Proofs.YtannohinhlefaaaGreatDoor

namespace Go.Proofs.YtannohinhlefaaaGreatDoor
open Go.RowKit Go.Proofs
attribute [local go_sem] neq_nilG eql_nilG nilT
section
variable {w w' w0 : World} {p : PB} {M : Nat} {T T2 : TabS} {k : Nat} {L : Int} {E : Nat → Addr}
set_option maxRecDepth 100000 in
set_option maxHeartbeats 8000000 in
theorem spot8_any (h : AW w p M T T k L E w0) (hL : 0 ≤ L ∧ L ≤ 1000000) (hes : ErrsAre w0 E) (key v : Int) (hs : Nat) (hh : hs < 18446744073709551616) (ky N : Int) (fp : Option Addr) (fz : Int) :
    Calls Tryz.prog 51 #[.agg (spotC p.B key hs (T.atP p.Q key hs) (T.atZ key hs) fp fz), .pointer (some ⟨p.D, 0, none⟩), .agg #[.int .u64 key, .int .u64 v, .int .u64 (hs : Int)], .agg #[.int .i64 8, .int .i64 ky, .int .i64 N]] w fun e w' =>
      e = .returned (.bool true) ∧ AW w' p M (T.delT key hs) (T.delT key hs) k (L + T.looks key hs) E w0 := by
  have hlk := (looks_bd h.t.good key hs)
  have hbd := h.t.good.bounds
  have hlk64 : T.looks key hs ≤ 64 := by omega
  have HA := Lib.hid h
  have HES := Lib.hid hes
  have P1 := Lib.hid (fun (w' : World) (h' : AW w' p M T T k L E w0) => h'.entry key hs fp fz)
  have P2 := Lib.hid (fun (w' : World) (h' : AW w' p M T T k L E w0) => h'.find2 ⟨hL.1, by omega⟩ key hs hh)
  have P3 := Lib.hid (fun (w' : World) (h' : AW w' p M T T k (L + T.looks key hs) E w0) => h'.del2 ⟨by omega, by omega⟩ key hs hh)
  have P4 := Lib.hid (fun (T2 : TabS) (w' : World) (h' : AW w' p M T T2 k (L + T.looks key hs) E w0) => h'.remove key hs fp fz ((hes.below (h'.t.bel.mono (Nat.le_refl _))).ec.sub (by decide)))
  have NU := Lib.hid (fun (n : Nat) (hn : n ≤ 16) (w' : World) (h' : Below w0.heap.size w0 w') => num_any E n hn w' (HES.out.below (h'.mono (Nat.le_refl _))))
  obtain ⟨L2, hL2⟩ : ∃ L2, L2 = L + (T.looks key hs : Int) := ⟨_, rfl⟩
  rw [← hL2] at P2 P3 P4
  replace hL2 := Lib.hid hL2
  simp only [spotC, EntS.val3] at P1 P4 ⊢
  generalize T.ent key hs = en at *
  obtain ⟨n0, n1, n2⟩ := en
  dsimp only at P1 P2
  generalize hap : T.atP p.Q key hs = ap at *
  generalize haz : T.atZ key hs = az at *
  clear h hes hbd hap haz
  go_enter Tryz.func51, Tryz.ntmps51
  go_upto_region 5 with (first
    | (go_at_call 58; (with_reducible refine (P1.out _ (HA.out.later (by go_grown))).mono ?_); rintro e w2 ⟨rfl, hb2⟩; have A2 := Lib.hid (HA.out.later (Below.trans (show Below w.heap.size w _ from by go_grown) (hb2.mono (by simp; omega)))); have X4 := Lib.hid (show Blk w2 w.heap.size 109 #[.pointer (some ⟨p.B, 0, none⟩), .int .u64 key, .int .u64 (hs : Int), .pointer ap, .int .i64 az, .pointer fp, .int .i64 fz] from (((Blk.new _ _ _).alloc _).alloc _).below hb2 (by simp; omega)); have X6 := Lib.hid (show Blk w2 (w.heap.size + 1) 47 #[.int .u64 key, .int .u64 v, .int .u64 (hs : Int)] from ((Blk.new_at (by simp)).alloc _).below hb2 (by simp)); have X7 := Lib.hid (show Blk w2 (w.heap.size + 1 + 1) 40 #[.int .i64 8, .int .i64 ky, .int .i64 N] from (Blk.new_at (by simp)).below hb2 (by simp)); have hz2 : w.heap.size + 1 + 1 + 1 ≤ w2.heap.size := (by have := hb2.size; simpa using this); have q2 := cells3 (X6.out.alloc (.cells #[.int .u64 n0, .int .u64 n1, .int .u64 n2] 47)); have q20 := q2.1; have q21 := q2.2.1; have q22 := q2.2.2; have zq := X6.out.lt; clear q2)
    | (go_at_call 42; (with_reducible refine (P2.out _ (A2.out.later ((Below.refl _ _).alloc (Nat.le_refl _) _))).mono ?_); rintro e w3 ⟨rfl, h3, hc3⟩; have A3 := Lib.hid h3; have hz3 := hc3.size; have NX3 : ∀ b, w.heap.size ≤ b → ¬ AX p M b := (fun b hb => HA.out.new hb); have Y9 := Lib.hid ((Blk.new w2 47 #[.int .u64 n0, .int .u64 n1, .int .u64 n2]).chg hc3 (NX3 _ (by omega))); have Y4 := Lib.hid ((X4.out.alloc (.cells #[.int .u64 n0, .int .u64 n1, .int .u64 n2] 47)).chg hc3 (NX3 _ (by omega))); have Y6 := Lib.hid ((X6.out.alloc (.cells #[.int .u64 n0, .int .u64 n1, .int .u64 n2] 47)).chg hc3 (NX3 _ (by omega))); have Y7 := Lib.hid ((X7.out.alloc (.cells #[.int .u64 n0, .int .u64 n1, .int .u64 n2] 47)).chg hc3 (NX3 _ (by omega))); have NX := Lib.hid NX3; have q3 := cells3 Y9.out; have q30 := q3.1; have q31 := q3.2.1; have q32 := q3.2.2; have zq3 := Y9.out.lt; clear q3 h3 NX3))
  refine wp_at (fun w4 hw4 => ?_)
  have hb4 : Below w3.heap.size w3 w4 := by rw [hw4]; go_grown
  have A4 := Lib.hid (A3.out.later hb4)
  have Z4 := Lib.hid (Y4.out.below hb4 Y4.out.lt)
  have Z6 := Lib.hid (Y6.out.below hb4 Y6.out.lt)
  have Z7 := Lib.hid (Y7.out.below hb4 Y7.out.lt)
  have hz4 := hb4.size
  have NXw := Lib.hid (NX.out)
  replace hw4 := Lib.hid hw4
  clear hb4 q20 q21 q22 zq q30 q31 q32 zq3 X4 X6 X7 Y4 Y6 Y7 Y9
  obtain ⟨d1, fD⟩ := A4.out.d.cells
  have zD := A4.out.d.lt
  obtain ⟨e0, e1, e2⟩ := cells3 Z6.out
  obtain ⟨c0, c1, c2⟩ := cells3 Z7.out
  have ze := Z6.out.lt
  have za := Z7.out.lt
  cases hq : T.has key hs with
  | true =>
    rw [hq] at P4
    simp only [if_true] at P4
    go_upto_region 19 with (fail)
    refine wp_at (fun w5 hw5 => ?_)
    have hb5 : Below w4.heap.size w4 w5 := by rw [hw5]; go_grown
    have A5 := Lib.hid (A4.out.later hb5)
    have V4 := Lib.hid (Z4.out.below hb5 Z4.out.lt)
    have V6 := Lib.hid (Z6.out.below hb5 Z6.out.lt)
    replace hw5 := Lib.hid hw5
    clear hb5 d1 fD zD e0 e1 e2 c0 c1 c2 ze za Z4 Z6 Z7
    obtain ⟨d1, fD⟩ := A5.out.d.cells
    have zD := A5.out.d.lt
    obtain ⟨e0, e1, e2⟩ := cells3 V6.out
    have ze := V6.out.lt
    go_upto_region 20 with (go_at_call 41; (with_reducible refine (P3.out _ A5.out).mono ?_); rintro e w6 ⟨rfl, h6, hc6⟩; have A6 := Lib.hid h6; have W4 := Lib.hid (V4.out.chg hc6 (NX.out _ (by omega))); clear h6)
    clear d1 fD zD e0 e1 e2 ze
    obtain ⟨d1, fD⟩ := A6.out.d.cells
    have zD := A6.out.d.lt
    go_upto_region 21 with (fail)
    refine wp_at (fun w7 hw7 => ?_)
    have hc7 : Chg (fun b => b = p.D) w6 w7 := by rw [hw7]; exact (Chg.refl _ _).set1 _ _
    obtain ⟨hA7, hcx7⟩ := A6.out.dturn (show DX w7 p.mid p.hi p.D (T.delT key hs) L2 by rw [hw7]; exact A6.out.d.looks L2) hc7
    have A7 := Lib.hid hA7
    have U4 := Lib.hid (W4.out.chg hcx7 (NX.out _ (by omega)))
    replace hw7 := Lib.hid hw7
    clear hA7 hcx7 hc7 d1 fD zD
    obtain ⟨s0, s1, s2, s3, s4, s5, s6⟩ := spot7 U4.out
    have zs := U4.out.lt
    go_wp2_with (first
      | (go_at_call 78; (with_reducible refine (P4.out _ _ A7.out).mono ?_); rintro e w8 ⟨rfl, h8, -⟩; have A8 := Lib.hid h8; clear h8)
      | (go_at_call 8; (with_reducible refine (NU.out _ (by decide) _ A8.out.t.bel).mono ?_); rintro e w9 ⟨rfl, hb9⟩; have A9 := Lib.hid (A8.out.later hb9)))
    go_ret
    exact ⟨rfl, by rw [← hL2.out]; exact A9.out⟩
  | false =>
    rw [hq] at P4
    simp only [Bool.false_eq_true, if_false] at P4
    have HDN := Lib.hid (delT_no hq)
    go_upto_region 20 with (fail)
    refine wp_at (fun w5 hw5 => ?_)
    have hb5 : Below w4.heap.size w4 w5 := by rw [hw5]; go_grown
    have A5 := Lib.hid (A4.out.later hb5)
    have V4 := Lib.hid (Z4.out.below hb5 Z4.out.lt)
    have V6 := Lib.hid (Z6.out.below hb5 Z6.out.lt)
    replace hw5 := Lib.hid hw5
    clear hb5 d1 fD zD e0 e1 e2 c0 c1 c2 ze za Z4 Z6 Z7
    obtain ⟨d1, fD⟩ := A5.out.d.cells
    have zD := A5.out.d.lt
    obtain ⟨e0, e1, e2⟩ := cells3 V6.out
    have ze := V6.out.lt
    clear e0 e1 e2 ze
    go_upto_region 21 with (fail)
    refine wp_at (fun w7 hw7 => ?_)
    have hc7 : Chg (fun b => b = p.D) w5 w7 := by rw [hw7]; exact (Chg.refl _ _).set1 _ _
    obtain ⟨hA7, hcx7⟩ := A5.out.dturn (show DX w7 p.mid p.hi p.D T L2 by rw [hw7]; exact A5.out.d.looks L2) hc7
    have A7 := Lib.hid hA7
    have U4 := Lib.hid (V4.out.chg hcx7 (NX.out _ (by omega)))
    replace hw7 := Lib.hid hw7
    clear hA7 hcx7 hc7 d1 fD zD
    obtain ⟨s0, s1, s2, s3, s4, s5, s6⟩ := spot7 U4.out
    have zs := U4.out.lt
    go_wp2_with (first
      | (go_at_call 78; (with_reducible refine (P4.out _ _ A7.out).mono ?_); rintro e w8 ⟨rfl, h8, -⟩; have A8 := Lib.hid h8; clear h8)
      | (go_at_call 8; (with_reducible refine (NU.out _ (by decide) _ A8.out.t.bel).mono ?_); rintro e w9 ⟨rfl, hb9⟩; have A9 := Lib.hid (A8.out.later hb9)))
    go_ret
    exact ⟨rfl, by rw [← hL2.out]; have := A9.out; rw [HDN.out] at this ⊢; exact this⟩
end
end Go.Proofs.YtannohinhlefaaaGreatDoor

namespace Go.Proofs.YtannohinhlefaaaGreatDoor
open Go.RowKit Go.Proofs
attribute [local go_sem] neq_nilG eql_nilG nilT
section
variable {w w' w0 : World} {p : PB} {M : Nat} {T T2 : TabS} {k : Nat} {L : Int} {E : Nat → Addr}
set_option maxRecDepth 100000 in
set_option maxHeartbeats 8000000 in
theorem do6_any (h : AW w p M T T k L E w0) (hL : 0 ≤ L ∧ L ≤ 1000000) (hes : ErrsAre w0 E) (key v : Int) (hs : Nat) (hh : hs < 18446744073709551616) (ky N : Int) :
    Calls Tryz.prog 9 #[.pointer (some ⟨p.B, 0, none⟩), .pointer (some ⟨p.D, 0, none⟩), .agg #[.pointer (some ⟨M, 0, none⟩), .int .i64 1, .int .i64 0, .int .i64 0], .agg #[.int .u64 key, .int .u64 v, .int .u64 (hs : Int)], .agg #[.int .i64 6, .int .i64 ky, .int .i64 N]] w fun e w' =>
      e = .returned (.bool true) ∧ DoP w' p M T.n k L E w0 := by
  have hlk := (looks_bd h.t.good key hs)
  have hbd := h.t.good.bounds
  have hlk64 : T.looks key hs ≤ 64 := by omega
  have HA := Lib.hid h
  have P1 := Lib.hid (fun (w' : World) (h' : AW w' p M T T k L E w0) => h'.seek key hs hh)
  have P2 := Lib.hid (fun (fp : Option Addr) (hf : 0 ≤ T.frZ key hs → fp = some ⟨p.Q, T.freeG key hs * 25, none⟩) (w' : World) (h' : AW w' p M T T (k + T.looks key hs) L E w0) => spot6_any h' hL hes key v hs hh ky N fp (T.frZ key hs))
  have HN := Lib.hid (show (if T.has key hs = true then T.putT key v hs else T).n = T.n from by split <;> first | rfl | exact putT_n _ _ _ _)
  clear h hes hbd
  go_enter Tryz.func9, Tryz.ntmps9
  go_upto_region 32 with (fail)
  refine wp_at (fun w1 hw1 => ?_)
  obtain ⟨z, hz⟩ : ∃ z, z = w.heap.size := ⟨_, rfl⟩
  have hb1 : Below w.heap.size w w1 := by rw [hw1]; go_grown
  have A1 := Lib.hid (HA.out.later hb1)
  have X7 := Lib.hid (show Blk w1 z 43 #[.pointer (some ⟨M, 0, none⟩), .int .i64 1, .int .i64 0, .int .i64 0] by rw [hw1, hz]; exact ((Blk.new _ _ _).alloc _).alloc _)
  have X8 := Lib.hid (show Blk w1 (z + 1) 47 #[.int .u64 key, .int .u64 v, .int .u64 (hs : Int)] by rw [hw1, hz]; exact (Blk.new_at (by simp)).alloc _)
  have X9 := Lib.hid (show Blk w1 (z + 1 + 1) 40 #[.int .i64 6, .int .i64 ky, .int .i64 N] by rw [hw1, hz]; exact Blk.new_at (by simp))
  have NX : Hid (∀ b, z ≤ b → ¬ AX p M b) := Lib.hid (fun b hb => HA.out.new (by omega))
  rw [← hz]
  have HZ1 := Lib.hid (show z ≤ w1.heap.size by have := hb1.size; omega)
  replace hz := Lib.hid hz
  replace hw1 := Lib.hid hw1
  clear hb1
  obtain ⟨l0, l1, l2, l3⟩ := cells4 X7.out
  obtain ⟨e0, e1, e2⟩ := cells3 X8.out
  obtain ⟨c0, c1, c2⟩ := cells3 X9.out
  have zl := X7.out.lt
  have ze := X8.out.lt
  have za := X9.out.lt
  have nx1 := NX.out z (Nat.le_refl _)
  have nx2 := NX.out (z + 1) (by omega)
  have nx3 := NX.out (z + 1 + 1) (by omega)
  refine wp_region_seq (AX p M) #[⟨0, 0, 28269553036454149273332760011886696253239742350009903329945699220681916416, 1, 0⟩, ⟨0, 0, 56539106072908298546665520023773392506479484700019806659891398441363832832, 128, 1⟩, ⟨0, 0, 113078212145816597093331040047546785012958969400039613319782796882727665664, 256, 0⟩, ⟨4, 4, 226156424291633194186662080095093570025917938800079226639565593765455331328, 113078212145816597093331040047546785012958969400039613319782796882727665664, 1⟩, ⟨0, 0, 452312848583266388373324160190187140051835877600158453279131187530910662656, 256, 0⟩, ⟨16, 16, 904625697166532776746648320380374280103671755200316906558262375061821325312, 452312848583266388373324160190187140051835877600158453279131187530910662656, 1⟩, ⟨43, 63, 1809251394333065553493296640760748560207343510400633813116524750123642650624, 1215590780567528418753308680511127938889308921050425843187665066489322405888, 2⟩, ⟨0, 0, 3618502788666131106986593281521497120414687020801267626233049500247285301248, 2, 0⟩, ⟨0, 0, 7237005577332262213973186563042994240829374041602535252466099000494570602496, 256, 1⟩, ⟨0, 0, 14474011154664524427946373126085988481658748083205070504932198000989141204992, 512, 1⟩, ⟨960, 1023, 28948022309329048855892746252171976963317496166410141009864396001978282409984, 27138770914995983302399449611411228403110152656009507196747871251854639759360, 3⟩, ⟨2047, 2047, 1024, 28948022309329048855892746252171976963317496166410141009864396001978282409984, 0⟩] 810 [(0, 0), (1, 1), (2, 0), (3, 1), (4, 0), (5, 1), (7, 0), (8, 1), (9, 1), (6, 2), (10, 3), (11, 0)] (by kernel_rfl) (by kernel_rfl) (by kernel_rfl) (by kernel_rfl) (by kernel_rfl) (by kernel_rfl) (fun c a d v w h => by cases d <;> exact h) ?_
  refine seq_calcA (h := ?_)
  try simp only [Act.put, List.setIfInBounds_toArray, List.set_cons_zero, List.set_cons_succ]
  refine seq_loadsA [_, _, _, _] (hu := Tryz.underlying43) (h := ?_)
  try simp only [Act.put, List.setIfInBounds_toArray, List.set_cons_zero, List.set_cons_succ]
  refine seq_calcA (h := ?_)
  try simp only [Act.put, List.setIfInBounds_toArray, List.set_cons_zero, List.set_cons_succ]
  refine seq_load1A (hu := Tryz.underlying45) (h := ?_)
  try simp only [Act.put, List.setIfInBounds_toArray, List.set_cons_zero, List.set_cons_succ]
  refine seq_calcA (h := ?_)
  try simp only [Act.put, List.setIfInBounds_toArray, List.set_cons_zero, List.set_cons_succ]
  refine seq_load1A (hu := Tryz.underlying45) (h := ?_)
  try simp only [Act.put, List.setIfInBounds_toArray, List.set_cons_zero, List.set_cons_succ]
  refine seq_calcA (h := ?_)
  try simp only [Act.put, List.setIfInBounds_toArray, List.set_cons_zero, List.set_cons_succ]
  refine seq_loadsA [_, _, _] (hu := Tryz.underlying47) (h := ?_)
  try simp only [Act.put, List.setIfInBounds_toArray, List.set_cons_zero, List.set_cons_succ]
  refine seq_loadsA [_, _, _] (hu := Tryz.underlying40) (h := ?_)
  try simp only [Act.put, List.setIfInBounds_toArray, List.set_cons_zero, List.set_cons_succ]
  refine seq_doA (h := fun K hK => ?_); go_wp2_with (first | (go_at_call 52; (with_reducible refine (P1.out _ (A1.out.later (Below.refl _ _).drew)).mono ?_); rintro e w2 ⟨fp, rfl, hf, h2, hc2⟩; have A2 := Lib.hid h2; have HF := Lib.hid hf; clear h2 hf) | (go_at_call 51; (with_reducible refine (P2.out _ HF.out _ A2.out).mono ?_); rintro e w3 ⟨rfl, h3⟩; have A3 := Lib.hid h3; clear h3)); refine hkA hK (h := ?_); clear hK K
  try simp only [Act.put, List.setIfInBounds_toArray, List.set_cons_zero, List.set_cons_succ]
  refine seq_lastA (h := fun K hK => ?_); go_wp2_with (first | (go_at_call 52; (with_reducible refine (P1.out _ (A1.out.later (Below.refl _ _).drew)).mono ?_); rintro e w2 ⟨fp, rfl, hf, h2, hc2⟩; have A2 := Lib.hid h2; have HF := Lib.hid hf; clear h2 hf) | (go_at_call 51; (with_reducible refine (P2.out _ HF.out _ A2.out).mono ?_); rintro e w3 ⟨rfl, h3⟩; have A3 := Lib.hid h3; clear h3)); refine hK.out _ _ ?_; clear hK K
  try simp only [Act.put, List.setIfInBounds_toArray, List.set_cons_zero, List.set_cons_succ]
  refine seq_calcA (h := ?_)
  try simp only [Act.put, List.setIfInBounds_toArray, List.set_cons_zero, List.set_cons_succ]
  refine seq_nil ?_
  go_wp2
  go_ret
  exact ⟨rfl, _, T.looks key hs, HN.out, by omega, A3.out⟩
set_option maxRecDepth 100000 in
set_option maxHeartbeats 8000000 in
theorem do7_any (h : AW w p M T T k L E w0) (hL : 0 ≤ L ∧ L ≤ 1000000) (hes : ErrsAre w0 E) (key v : Int) (hs : Nat) (hh : hs < 18446744073709551616) (ky N : Int) :
    Calls Tryz.prog 9 #[.pointer (some ⟨p.B, 0, none⟩), .pointer (some ⟨p.D, 0, none⟩), .agg #[.pointer (some ⟨M, 0, none⟩), .int .i64 1, .int .i64 0, .int .i64 0], .agg #[.int .u64 key, .int .u64 v, .int .u64 (hs : Int)], .agg #[.int .i64 7, .int .i64 ky, .int .i64 N]] w fun e w' =>
      e = .returned (.bool true) ∧ DoP w' p M T.n k L E w0 := by
  have hlk := (looks_bd h.t.good key hs)
  have hbd := h.t.good.bounds
  have hlk64 : T.looks key hs ≤ 64 := by omega
  have HA := Lib.hid h
  have P1 := Lib.hid (fun (w' : World) (h' : AW w' p M T T k L E w0) => h'.seek key hs hh)
  have P2 := Lib.hid (fun (fp : Option Addr) (hf : 0 ≤ T.frZ key hs → fp = some ⟨p.Q, T.freeG key hs * 25, none⟩) (w' : World) (h' : AW w' p M T T (k + T.looks key hs) L E w0) => spot7_any h' hL hes key v hs hh ky N fp hf)
  have HN := Lib.hid (show (if T.has key hs = true then T else T.putT key v hs).n = T.n from by split <;> first | rfl | exact putT_n _ _ _ _)
  clear h hes hbd
  go_enter Tryz.func9, Tryz.ntmps9
  go_upto_region 32 with (fail)
  refine wp_at (fun w1 hw1 => ?_)
  obtain ⟨z, hz⟩ : ∃ z, z = w.heap.size := ⟨_, rfl⟩
  have hb1 : Below w.heap.size w w1 := by rw [hw1]; go_grown
  have A1 := Lib.hid (HA.out.later hb1)
  have X7 := Lib.hid (show Blk w1 z 43 #[.pointer (some ⟨M, 0, none⟩), .int .i64 1, .int .i64 0, .int .i64 0] by rw [hw1, hz]; exact ((Blk.new _ _ _).alloc _).alloc _)
  have X8 := Lib.hid (show Blk w1 (z + 1) 47 #[.int .u64 key, .int .u64 v, .int .u64 (hs : Int)] by rw [hw1, hz]; exact (Blk.new_at (by simp)).alloc _)
  have X9 := Lib.hid (show Blk w1 (z + 1 + 1) 40 #[.int .i64 7, .int .i64 ky, .int .i64 N] by rw [hw1, hz]; exact Blk.new_at (by simp))
  have NX : Hid (∀ b, z ≤ b → ¬ AX p M b) := Lib.hid (fun b hb => HA.out.new (by omega))
  rw [← hz]
  have HZ1 := Lib.hid (show z ≤ w1.heap.size by have := hb1.size; omega)
  replace hz := Lib.hid hz
  replace hw1 := Lib.hid hw1
  clear hb1
  obtain ⟨l0, l1, l2, l3⟩ := cells4 X7.out
  obtain ⟨e0, e1, e2⟩ := cells3 X8.out
  obtain ⟨c0, c1, c2⟩ := cells3 X9.out
  have zl := X7.out.lt
  have ze := X8.out.lt
  have za := X9.out.lt
  have nx1 := NX.out z (Nat.le_refl _)
  have nx2 := NX.out (z + 1) (by omega)
  have nx3 := NX.out (z + 1 + 1) (by omega)
  refine wp_region_seq (AX p M) #[⟨0, 0, 28269553036454149273332760011886696253239742350009903329945699220681916416, 1, 0⟩, ⟨0, 0, 56539106072908298546665520023773392506479484700019806659891398441363832832, 128, 1⟩, ⟨0, 0, 113078212145816597093331040047546785012958969400039613319782796882727665664, 256, 0⟩, ⟨4, 4, 226156424291633194186662080095093570025917938800079226639565593765455331328, 113078212145816597093331040047546785012958969400039613319782796882727665664, 1⟩, ⟨0, 0, 452312848583266388373324160190187140051835877600158453279131187530910662656, 256, 0⟩, ⟨16, 16, 904625697166532776746648320380374280103671755200316906558262375061821325312, 452312848583266388373324160190187140051835877600158453279131187530910662656, 1⟩, ⟨43, 63, 1809251394333065553493296640760748560207343510400633813116524750123642650624, 1215590780567528418753308680511127938889308921050425843187665066489322405888, 2⟩, ⟨0, 0, 3618502788666131106986593281521497120414687020801267626233049500247285301248, 2, 0⟩, ⟨0, 0, 7237005577332262213973186563042994240829374041602535252466099000494570602496, 256, 1⟩, ⟨0, 0, 14474011154664524427946373126085988481658748083205070504932198000989141204992, 512, 1⟩, ⟨960, 1023, 28948022309329048855892746252171976963317496166410141009864396001978282409984, 27138770914995983302399449611411228403110152656009507196747871251854639759360, 3⟩, ⟨2047, 2047, 1024, 28948022309329048855892746252171976963317496166410141009864396001978282409984, 0⟩] 810 [(0, 0), (1, 1), (2, 0), (3, 1), (4, 0), (5, 1), (7, 0), (8, 1), (9, 1), (6, 2), (10, 3), (11, 0)] (by kernel_rfl) (by kernel_rfl) (by kernel_rfl) (by kernel_rfl) (by kernel_rfl) (by kernel_rfl) (fun c a d v w h => by cases d <;> exact h) ?_
  refine seq_calcA (h := ?_)
  try simp only [Act.put, List.setIfInBounds_toArray, List.set_cons_zero, List.set_cons_succ]
  refine seq_loadsA [_, _, _, _] (hu := Tryz.underlying43) (h := ?_)
  try simp only [Act.put, List.setIfInBounds_toArray, List.set_cons_zero, List.set_cons_succ]
  refine seq_calcA (h := ?_)
  try simp only [Act.put, List.setIfInBounds_toArray, List.set_cons_zero, List.set_cons_succ]
  refine seq_load1A (hu := Tryz.underlying45) (h := ?_)
  try simp only [Act.put, List.setIfInBounds_toArray, List.set_cons_zero, List.set_cons_succ]
  refine seq_calcA (h := ?_)
  try simp only [Act.put, List.setIfInBounds_toArray, List.set_cons_zero, List.set_cons_succ]
  refine seq_load1A (hu := Tryz.underlying45) (h := ?_)
  try simp only [Act.put, List.setIfInBounds_toArray, List.set_cons_zero, List.set_cons_succ]
  refine seq_calcA (h := ?_)
  try simp only [Act.put, List.setIfInBounds_toArray, List.set_cons_zero, List.set_cons_succ]
  refine seq_loadsA [_, _, _] (hu := Tryz.underlying47) (h := ?_)
  try simp only [Act.put, List.setIfInBounds_toArray, List.set_cons_zero, List.set_cons_succ]
  refine seq_loadsA [_, _, _] (hu := Tryz.underlying40) (h := ?_)
  try simp only [Act.put, List.setIfInBounds_toArray, List.set_cons_zero, List.set_cons_succ]
  refine seq_doA (h := fun K hK => ?_); go_wp2_with (first | (go_at_call 52; (with_reducible refine (P1.out _ (A1.out.later (Below.refl _ _).drew)).mono ?_); rintro e w2 ⟨fp, rfl, hf, h2, hc2⟩; have A2 := Lib.hid h2; have HF := Lib.hid hf; clear h2 hf) | (go_at_call 51; (with_reducible refine (P2.out _ HF.out _ A2.out).mono ?_); rintro e w3 ⟨rfl, h3⟩; have A3 := Lib.hid h3; clear h3)); refine hkA hK (h := ?_); clear hK K
  try simp only [Act.put, List.setIfInBounds_toArray, List.set_cons_zero, List.set_cons_succ]
  refine seq_lastA (h := fun K hK => ?_); go_wp2_with (first | (go_at_call 52; (with_reducible refine (P1.out _ (A1.out.later (Below.refl _ _).drew)).mono ?_); rintro e w2 ⟨fp, rfl, hf, h2, hc2⟩; have A2 := Lib.hid h2; have HF := Lib.hid hf; clear h2 hf) | (go_at_call 51; (with_reducible refine (P2.out _ HF.out _ A2.out).mono ?_); rintro e w3 ⟨rfl, h3⟩; have A3 := Lib.hid h3; clear h3)); refine hK.out _ _ ?_; clear hK K
  try simp only [Act.put, List.setIfInBounds_toArray, List.set_cons_zero, List.set_cons_succ]
  refine seq_calcA (h := ?_)
  try simp only [Act.put, List.setIfInBounds_toArray, List.set_cons_zero, List.set_cons_succ]
  refine seq_nil ?_
  go_wp2
  go_ret
  exact ⟨rfl, _, T.looks key hs, HN.out, by omega, A3.out⟩
set_option maxRecDepth 100000 in
set_option maxHeartbeats 8000000 in
theorem do8_any (h : AW w p M T T k L E w0) (hL : 0 ≤ L ∧ L ≤ 1000000) (hes : ErrsAre w0 E) (key v : Int) (hs : Nat) (hh : hs < 18446744073709551616) (ky N : Int) :
    Calls Tryz.prog 9 #[.pointer (some ⟨p.B, 0, none⟩), .pointer (some ⟨p.D, 0, none⟩), .agg #[.pointer (some ⟨M, 0, none⟩), .int .i64 1, .int .i64 0, .int .i64 0], .agg #[.int .u64 key, .int .u64 v, .int .u64 (hs : Int)], .agg #[.int .i64 8, .int .i64 ky, .int .i64 N]] w fun e w' =>
      e = .returned (.bool true) ∧ DoP w' p M T.n k L E w0 := by
  have hlk := (looks_bd h.t.good key hs)
  have hbd := h.t.good.bounds
  have hlk64 : T.looks key hs ≤ 64 := by omega
  have HA := Lib.hid h
  have P1 := Lib.hid (fun (w' : World) (h' : AW w' p M T T k L E w0) => h'.seek key hs hh)
  have P2 := Lib.hid (fun (fp : Option Addr) (hf : 0 ≤ T.frZ key hs → fp = some ⟨p.Q, T.freeG key hs * 25, none⟩) (w' : World) (h' : AW w' p M T T (k + T.looks key hs) L E w0) => spot8_any h' hL hes key v hs hh ky N fp (T.frZ key hs))
  have HN := Lib.hid (show (T.delT key hs).n = T.n from delT_n _ _ _)
  clear h hes hbd
  go_enter Tryz.func9, Tryz.ntmps9
  go_upto_region 32 with (fail)
  refine wp_at (fun w1 hw1 => ?_)
  obtain ⟨z, hz⟩ : ∃ z, z = w.heap.size := ⟨_, rfl⟩
  have hb1 : Below w.heap.size w w1 := by rw [hw1]; go_grown
  have A1 := Lib.hid (HA.out.later hb1)
  have X7 := Lib.hid (show Blk w1 z 43 #[.pointer (some ⟨M, 0, none⟩), .int .i64 1, .int .i64 0, .int .i64 0] by rw [hw1, hz]; exact ((Blk.new _ _ _).alloc _).alloc _)
  have X8 := Lib.hid (show Blk w1 (z + 1) 47 #[.int .u64 key, .int .u64 v, .int .u64 (hs : Int)] by rw [hw1, hz]; exact (Blk.new_at (by simp)).alloc _)
  have X9 := Lib.hid (show Blk w1 (z + 1 + 1) 40 #[.int .i64 8, .int .i64 ky, .int .i64 N] by rw [hw1, hz]; exact Blk.new_at (by simp))
  have NX : Hid (∀ b, z ≤ b → ¬ AX p M b) := Lib.hid (fun b hb => HA.out.new (by omega))
  rw [← hz]
  have HZ1 := Lib.hid (show z ≤ w1.heap.size by have := hb1.size; omega)
  replace hz := Lib.hid hz
  replace hw1 := Lib.hid hw1
  clear hb1
  obtain ⟨l0, l1, l2, l3⟩ := cells4 X7.out
  obtain ⟨e0, e1, e2⟩ := cells3 X8.out
  obtain ⟨c0, c1, c2⟩ := cells3 X9.out
  have zl := X7.out.lt
  have ze := X8.out.lt
  have za := X9.out.lt
  have nx1 := NX.out z (Nat.le_refl _)
  have nx2 := NX.out (z + 1) (by omega)
  have nx3 := NX.out (z + 1 + 1) (by omega)
  refine wp_region_seq (AX p M) #[⟨0, 0, 28269553036454149273332760011886696253239742350009903329945699220681916416, 1, 0⟩, ⟨0, 0, 56539106072908298546665520023773392506479484700019806659891398441363832832, 128, 1⟩, ⟨0, 0, 113078212145816597093331040047546785012958969400039613319782796882727665664, 256, 0⟩, ⟨4, 4, 226156424291633194186662080095093570025917938800079226639565593765455331328, 113078212145816597093331040047546785012958969400039613319782796882727665664, 1⟩, ⟨0, 0, 452312848583266388373324160190187140051835877600158453279131187530910662656, 256, 0⟩, ⟨16, 16, 904625697166532776746648320380374280103671755200316906558262375061821325312, 452312848583266388373324160190187140051835877600158453279131187530910662656, 1⟩, ⟨43, 63, 1809251394333065553493296640760748560207343510400633813116524750123642650624, 1215590780567528418753308680511127938889308921050425843187665066489322405888, 2⟩, ⟨0, 0, 3618502788666131106986593281521497120414687020801267626233049500247285301248, 2, 0⟩, ⟨0, 0, 7237005577332262213973186563042994240829374041602535252466099000494570602496, 256, 1⟩, ⟨0, 0, 14474011154664524427946373126085988481658748083205070504932198000989141204992, 512, 1⟩, ⟨960, 1023, 28948022309329048855892746252171976963317496166410141009864396001978282409984, 27138770914995983302399449611411228403110152656009507196747871251854639759360, 3⟩, ⟨2047, 2047, 1024, 28948022309329048855892746252171976963317496166410141009864396001978282409984, 0⟩] 810 [(0, 0), (1, 1), (2, 0), (3, 1), (4, 0), (5, 1), (7, 0), (8, 1), (9, 1), (6, 2), (10, 3), (11, 0)] (by kernel_rfl) (by kernel_rfl) (by kernel_rfl) (by kernel_rfl) (by kernel_rfl) (by kernel_rfl) (fun c a d v w h => by cases d <;> exact h) ?_
  refine seq_calcA (h := ?_)
  try simp only [Act.put, List.setIfInBounds_toArray, List.set_cons_zero, List.set_cons_succ]
  refine seq_loadsA [_, _, _, _] (hu := Tryz.underlying43) (h := ?_)
  try simp only [Act.put, List.setIfInBounds_toArray, List.set_cons_zero, List.set_cons_succ]
  refine seq_calcA (h := ?_)
  try simp only [Act.put, List.setIfInBounds_toArray, List.set_cons_zero, List.set_cons_succ]
  refine seq_load1A (hu := Tryz.underlying45) (h := ?_)
  try simp only [Act.put, List.setIfInBounds_toArray, List.set_cons_zero, List.set_cons_succ]
  refine seq_calcA (h := ?_)
  try simp only [Act.put, List.setIfInBounds_toArray, List.set_cons_zero, List.set_cons_succ]
  refine seq_load1A (hu := Tryz.underlying45) (h := ?_)
  try simp only [Act.put, List.setIfInBounds_toArray, List.set_cons_zero, List.set_cons_succ]
  refine seq_calcA (h := ?_)
  try simp only [Act.put, List.setIfInBounds_toArray, List.set_cons_zero, List.set_cons_succ]
  refine seq_loadsA [_, _, _] (hu := Tryz.underlying47) (h := ?_)
  try simp only [Act.put, List.setIfInBounds_toArray, List.set_cons_zero, List.set_cons_succ]
  refine seq_loadsA [_, _, _] (hu := Tryz.underlying40) (h := ?_)
  try simp only [Act.put, List.setIfInBounds_toArray, List.set_cons_zero, List.set_cons_succ]
  refine seq_doA (h := fun K hK => ?_); go_wp2_with (first | (go_at_call 52; (with_reducible refine (P1.out _ (A1.out.later (Below.refl _ _).drew)).mono ?_); rintro e w2 ⟨fp, rfl, hf, h2, hc2⟩; have A2 := Lib.hid h2; have HF := Lib.hid hf; clear h2 hf) | (go_at_call 51; (with_reducible refine (P2.out _ HF.out _ A2.out).mono ?_); rintro e w3 ⟨rfl, h3⟩; have A3 := Lib.hid h3; clear h3)); refine hkA hK (h := ?_); clear hK K
  try simp only [Act.put, List.setIfInBounds_toArray, List.set_cons_zero, List.set_cons_succ]
  refine seq_lastA (h := fun K hK => ?_); go_wp2_with (first | (go_at_call 52; (with_reducible refine (P1.out _ (A1.out.later (Below.refl _ _).drew)).mono ?_); rintro e w2 ⟨fp, rfl, hf, h2, hc2⟩; have A2 := Lib.hid h2; have HF := Lib.hid hf; clear h2 hf) | (go_at_call 51; (with_reducible refine (P2.out _ HF.out _ A2.out).mono ?_); rintro e w3 ⟨rfl, h3⟩; have A3 := Lib.hid h3; clear h3)); refine hK.out _ _ ?_; clear hK K
  try simp only [Act.put, List.setIfInBounds_toArray, List.set_cons_zero, List.set_cons_succ]
  refine seq_calcA (h := ?_)
  try simp only [Act.put, List.setIfInBounds_toArray, List.set_cons_zero, List.set_cons_succ]
  refine seq_nil ?_
  go_wp2
  go_ret
  exact ⟨rfl, _, T.looks key hs, HN.out, by omega, A3.out⟩
end
end Go.Proofs.YtannohinhlefaaaGreatDoor

namespace Go.Proofs.YtannohinhlefaaaGreatDoor
open Go.RowKit Go.Proofs
theorem do_any {w w0 : World} {p : PB} {M : Nat} {T : TabS} {k : Nat} {L : Int} {E : Nat → Addr} (h : AW w p M T T k L E w0) (hL : 0 ≤ L ∧ L ≤ 1000000) (hes : ErrsAre w0 E) (kd key v : Int) (hs : Nat) (hh : hs < 18446744073709551616) (ky N : Int) :
    Calls Tryz.prog 9 #[.pointer (some ⟨p.B, 0, none⟩), .pointer (some ⟨p.D, 0, none⟩), .agg #[.pointer (some ⟨M, 0, none⟩), .int .i64 1, .int .i64 0, .int .i64 0], .agg #[.int .u64 key, .int .u64 v, .int .u64 (hs : Int)], .agg #[.int .i64 kd, .int .i64 ky, .int .i64 N]] w fun e w' =>
      e = .returned (.bool true) ∧ DoP w' p M T.n k L E w0 := by
  by_cases hk : 0 ≤ kd ∧ kd ≤ 8
  · obtain ⟨j, rfl⟩ := Int.eq_ofNat_of_zero_le hk.1
    have hj : j ≤ 8 := by omega
    have h34 : (∃ i : Nat, N = (i : Int) ∧ i < T.n) ∨ (N < 0 ∨ (T.n : Int) ≤ N) := by
      by_cases h0 : N < 0
      · exact .inr (.inl h0)
      · by_cases h1 : (T.n : Int) ≤ N
        · exact .inr (.inr h1)
        · exact .inl ⟨N.toNat, by omega, by omega⟩
    match j, hj with
    | 0, _ => exact do0_any h hL hes key v hs hh ky N
    | 1, _ => exact do1_any h hL key v hs hh ky N
    | 2, _ => exact do2_any h hL key v hs hh ky N
    | 3, _ =>
      rcases h34 with ⟨i, rfl, hi⟩ | hi
      · exact do3_ok h hL key v hs hh ky i hi
      · exact do3_no h hes key v hs hh ky N hi
    | 4, _ =>
      rcases h34 with ⟨i, rfl, hi⟩ | hi
      · exact do4_ok h hL key v hs hh ky i hi
      · exact do4_no h hes key v hs hh ky N hi
    | 5, _ => exact do5_any h hL key v hs hh ky N
    | 6, _ => exact do6_any h hL hes key v hs hh ky N
    | 7, _ => exact do7_any h hL hes key v hs hh ky N
    | 8, _ => exact do8_any h hL hes key v hs hh ky N
  · exact do9_any h kd key v hs ky N hk
end Go.Proofs.YtannohinhlefaaaGreatDoor
