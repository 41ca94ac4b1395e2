/- Texts joined: Less TabLeast TabLeastP. No condition but those that stand within. -/
import Derived.Test.YtolhmibejhldkaaGreatDoorPkSwar
import Derived.Test.YtolhmibejhldkaaGreatDoorPkMeter
import Derived.Test.YtolhmibejhldkaaGreatDoorPkErrs
import Derived.Test.YtolhmibejhldkaaGreatDoorPkGroup
import Derived.Test.YtolhmibejhldkaaGreatDoorPkTab
import Derived.Test.YtolhmibejhldkaaGreatDoorPkTab2
set_option linter.unusedVariables false
set_option linter.unusedSimpArgs false
namespace Go.Proofs.YtolhmibejhldkaaGreatDoor
open Go.RowKit Go.Proofs
def lessB (a b : EntS) : Bool := decide (a.hash < b.hash ∨ a.hash = b.hash ∧ a.key < b.key)
end Go.Proofs.YtolhmibejhldkaaGreatDoor

namespace Go.Proofs.YtolhmibejhldkaaGreatDoor
open Go.RowKit Go.Proofs
def leastStep (f : EntS) (acc : EntS × Bool) (e : EntS) : EntS × Bool := if (!lessB e f && (!acc.2 || lessB e acc.1)) = true then (e, true) else acc
def entsTo' (T : TabS) (n : Nat) : List EntS := (List.range n).flatMap fun i => entsL (T.M i) (T.S i)
def TabS.ents (T : TabS) : List EntS := entsTo' T T.n
theorem entsTo_snoc (T : TabS) (n : Nat) : entsTo' T (n + 1) = entsTo' T n ++ entsL (T.M n) (T.S n) := by unfold entsTo'; rw [List.range_succ, List.flatMap_append]; simp
theorem entsL_len (m : Nat) (s : Nat → EntS) : (entsL m s).length ≤ 8 := by unfold entsL; rw [List.length_map]; exact lanesL_len _
theorem ents_own {w : World} {base n : Nat} {e : TypeId} {v : Value} {l : List EntS} (h : w.ownsRow base e 3 v n (entV l)) :
    ∃ a cap, v = .slice a n cap ∧ n = l.length ∧ (l ≠ [] → ∃ b, a = some ⟨b, 0, none⟩ ∧ base ≤ b ∧ b < w.heap.size ∧ ∀ i (h : i < l.length), w.cell? ⟨b, i * 3, none⟩ = some (.int .u64 l[i].key) ∧ w.cell? ⟨b, i * 3 + 1, none⟩ = some (.int .u64 l[i].val) ∧ w.cell? ⟨b, i * 3 + 2, none⟩ = some (.int .u64 l[i].hash)) := by
  have hl : l.length = n := by have := h.1; rw [entV_length] at this; omega
  rcases h.2 with ⟨rfl, h0⟩ | ⟨b, cap, cur, rfl, hb, hg, h1, h2, h3, h4⟩
  · exact ⟨none, 0, by rw [h0], hl.symm, fun hk => by rw [h0] at hl; exact absurd (List.length_eq_zero_iff.1 hl) hk⟩
  · refine ⟨_, cap, rfl, hl.symm, fun hk => ⟨b, rfl, hb, (Array.getElem?_eq_some_iff.1 hg).1, fun i hi => ?_⟩⟩
    have hc : ∀ j, j < 3 → w.cell? ⟨b, i * 3 + j, none⟩ = (e3 l[i])[j]? := by
      intro j hj
      have h5 := h.cells (g := b) rfl (i * 3 + j)
      rw [entV_at _ i hi j hj] at h5
      have h6 : (⟨b, 0, none⟩ : Addr).add (i * 3 + j) = ⟨b, i * 3 + j, none⟩ := by
        simp only [Addr.add]; split
        · rename_i e; rw [e]
        · simp
      rw [h6] at h5
      obtain ⟨u, hu⟩ : ∃ u, (e3 l[i])[j]? = some u := ⟨_, List.getElem?_eq_getElem (show j < (e3 l[i]).length from hj)⟩
      rw [hu]; exact h5 u hu
    exact ⟨hc 0 (by decide), hc 1 (by decide), hc 2 (by decide)⟩
theorem cells4 {w : World} {C : Nat} {T : TypeId} {a b c d : Value} (h : Blk w C T #[a, b, c, d]) : w.cell? ⟨C, 0, none⟩ = some a ∧ w.cell? ⟨C, 1, none⟩ = some b ∧ w.cell? ⟨C, 2, none⟩ = some c ∧ w.cell? ⟨C, 3, none⟩ = some d := ⟨h.cell 0, h.cell 1, h.cell 2, h.cell 3⟩
structure LE (wr : World) (z : Nat) (q : Option Addr) (lp : Option Nat) (mt : MeterS) (x1 y1 z1 : Int) (f acc : EntS) (w : World) : Prop where
  l : Blk wr z 50 #[.pointer q, .int .i64 x1, .int .i64 y1, .int .i64 z1]
  r : Blk wr (z + 1) 46 #[.int .u64 0, .int .u64 0, .int .u64 0]
  f : Blk wr (z + 1 + 1) 46 #[.int .u64 f.key, .int .u64 f.val, .int .u64 f.hash]
  o : Blk wr (z + 1 + 1 + 1) 46 #[.int .u64 acc.key, .int .u64 acc.val, .int .u64 acc.hash]
  m : LW wr lp mt
  c : Chg (fun b => lp = some b) w wr
theorem LE.later {wr w' w : World} {z : Nat} {q : Option Addr} {lp : Option Nat} {mt : MeterS} {x1 y1 z1 : Int} {f acc : EntS} (h : LE wr z q lp mt x1 y1 z1 f acc w) (hb : Below wr.heap.size wr w') : LE w' z q lp mt x1 y1 z1 f acc w :=
  ⟨h.l.below hb h.l.lt, h.r.below hb h.r.lt, h.f.below hb h.f.lt, h.o.below hb h.o.lt, h.m.later hb, h.c.thenBelow hb⟩
theorem LE.look {wr w' w : World} {z : Nat} {q : Option Addr} {lp : Option Nat} {mt mt' : MeterS} {x1 y1 z1 : Int} {f acc : EntS} (h : LE wr z q lp mt x1 y1 z1 f acc w) (hl : LW w' lp mt') (hc : Chg (fun b => lp = some b) wr w') (hz : ∀ b, z ≤ b → ¬ lp = some b) : LE w' z q lp mt' x1 y1 z1 f acc w :=
  ⟨h.l.chg hc (hz _ (by omega)), h.r.chg hc (hz _ (by omega)), h.f.chg hc (hz _ (by omega)), h.o.chg hc (hz _ (by omega)), hl, h.c.trans hc⟩
theorem LE.set {wr w : World} {z : Nat} {q : Option Addr} {lp : Option Nat} {mt : MeterS} {x1 y1 z1 : Int} {f acc e : EntS} (h : LE wr z q lp mt x1 y1 z1 f acc w) (hw : w.heap.size ≤ z) (hz : ∀ b, z ≤ b → ¬ lp = some b) :
    LE (((wr.setCell ⟨z + 1 + 1 + 1, 0, none⟩ (.int .u64 e.key)).setCell ⟨z + 1 + 1 + 1, 1, none⟩ (.int .u64 e.val)).setCell ⟨z + 1 + 1 + 1, 2, none⟩ (.int .u64 e.hash)) z q lp mt x1 y1 z1 f e w := by
  have hc : Chg (fun b => b = z + 1 + 1 + 1) wr (((wr.setCell ⟨z + 1 + 1 + 1, 0, none⟩ (.int .u64 e.key)).setCell ⟨z + 1 + 1 + 1, 1, none⟩ (.int .u64 e.val)).setCell ⟨z + 1 + 1 + 1, 2, none⟩ (.int .u64 e.hash)) := (((Chg.refl _ _).set1 _ _).set1 _ _).set1 _ _
  exact ⟨h.l.chg hc (by omega), h.r.chg hc (by omega), h.f.chg hc (by omega), ((h.o.set 0 _).set 1 _).set 2 _, h.m.chg hc (fun b e1 e2 => hz b (by omega) e1), h.c.trans' hc (fun i hi e => by omega)⟩
end Go.Proofs.YtolhmibejhldkaaGreatDoor

namespace Go.Proofs.YtolhmibejhldkaaGreatDoor
open Go.RowKit Go.Proofs
theorem less_iff (a b : EntS) : lessB a b = true ↔ a.hash < b.hash ∨ a.hash = b.hash ∧ a.key < b.key := by unfold lessB; simp
theorem less_not (a b : EntS) : lessB a b = false ↔ ¬ (a.hash < b.hash ∨ a.hash = b.hash ∧ a.key < b.key) := by unfold lessB; simp
def LeastI (f : EntS) (l : List EntS) (acc : EntS × Bool) : Prop :=
  (acc.2 = false ∧ ∀ a ∈ l, lessB a f = true) ∨ (acc.2 = true ∧ acc.1 ∈ l ∧ lessB acc.1 f = false ∧ ∀ a ∈ l, lessB a f = false → lessB a acc.1 = false)
theorem LeastI.step {f : EntS} {l : List EntS} {acc : EntS × Bool} (h : LeastI f l acc) (e : EntS) : LeastI f (l ++ [e]) (leastStep f acc e) := by
  unfold leastStep
  cases h1 : lessB e f with
  | true =>
    simp only [Bool.not_true, Bool.false_and, Bool.false_eq_true, if_false]
    rcases h with ⟨a1, a2⟩ | ⟨a1, a2, a3, a4⟩
    · refine .inl ⟨a1, fun a ha => ?_⟩
      rcases List.mem_append.1 ha with ha | ha
      · exact a2 a ha
      · rw [List.mem_singleton.1 ha]; exact h1
    · refine .inr ⟨a1, List.mem_append_left _ a2, a3, fun a ha hf => ?_⟩
      rcases List.mem_append.1 ha with ha | ha
      · exact a4 a ha hf
      · rw [List.mem_singleton.1 ha, h1] at hf; cases hf
  | false =>
    simp only [Bool.not_false, Bool.true_and]
    rcases h with ⟨a1, a2⟩ | ⟨a1, a2, a3, a4⟩
    · rw [a1]
      simp only [Bool.not_false, Bool.true_or, if_true]
      refine .inr ⟨rfl, by simp, h1, fun a ha hf => ?_⟩
      rcases List.mem_append.1 ha with ha | ha
      · rw [a2 a ha] at hf; cases hf
      · rw [List.mem_singleton.1 ha, less_not]; dsimp only; omega
    · rw [a1]
      simp only [Bool.not_true, Bool.false_or]
      cases h2 : lessB e acc.1 with
      | true =>
        simp only [if_true]
        refine .inr ⟨rfl, by simp, h1, fun a ha hf => ?_⟩
        rcases List.mem_append.1 ha with ha | ha
        · have b := a4 a ha hf
          rw [less_not] at b ⊢; rw [less_iff] at h2; dsimp only; omega
        · rw [List.mem_singleton.1 ha, less_not]; dsimp only; omega
      | false =>
        simp only [Bool.false_eq_true, if_false]
        refine .inr ⟨a1, List.mem_append_left _ a2, a3, fun a ha hf => ?_⟩
        rcases List.mem_append.1 ha with ha | ha
        · exact a4 a ha hf
        · rw [List.mem_singleton.1 ha]; exact h2
theorem LeastI.all {f : EntS} : ∀ (k l : List EntS) (acc : EntS × Bool), LeastI f l acc → LeastI f (l ++ k) (k.foldl (leastStep f) acc)
  | [], l, acc, h => by rw [List.append_nil]; exact h
  | e :: k, l, acc, h => by
    have := LeastI.all k (l ++ [e]) (leastStep f acc e) (h.step e)
    rwa [List.append_assoc] at this
theorem entsL_mem {m : Nat} {s : Nat → EntS} {e : EntS} : e ∈ entsL m s ↔ ∃ k, k < 8 ∧ fullB m k = true ∧ s k = e := by
  unfold entsL
  rw [List.mem_map]
  constructor
  · rintro ⟨k, hk, rfl⟩
    obtain ⟨h1, h2⟩ := lanesL_mem.1 hk
    exact ⟨k, h1, h2, rfl⟩
  · rintro ⟨k, h1, h2, rfl⟩
    exact ⟨k, lanesL_mem.2 ⟨h1, h2⟩, rfl⟩
theorem entsTo_mem {T : TabS} {n : Nat} {e : EntS} : e ∈ entsTo' T n ↔ ∃ g k, g < n ∧ k < 8 ∧ fullB (T.M g) k = true ∧ T.S g k = e := by
  unfold entsTo'
  rw [List.mem_flatMap]
  constructor
  · rintro ⟨g, hg, he⟩
    obtain ⟨k, h1, h2, h3⟩ := entsL_mem.1 he
    exact ⟨g, k, by simpa using hg, h1, h2, h3⟩
  · rintro ⟨g, k, h0, h1, h2, h3⟩
    exact ⟨g, by simpa using h0, entsL_mem.2 ⟨k, h1, h2, h3⟩⟩
theorem TFun.pw {T : TabS} {H : Int → Nat} (hT : TFun T H) : ∀ n, n ≤ T.n → (entsTo' T n).Pairwise (fun a b => a.key ≠ b.key)
  | 0, _ => List.Pairwise.nil
  | n + 1, hn => by
    rw [entsTo_snoc, List.pairwise_append]
    refine ⟨TFun.pw hT n (by omega), ?_, fun a ha b hb => ?_⟩
    · unfold entsL
      rw [List.pairwise_map]
      refine List.Pairwise.imp_of_mem (R := fun a b => a ≠ b) (fun {a b} ha hb hne hk => ?_) (List.nodup_range.filter _)
      obtain ⟨a1, a2⟩ := lanesL_mem.1 ha
      obtain ⟨b1, b2⟩ := lanesL_mem.1 hb
      exact hne (hT.one _ n a n b ⟨by omega, a1, a2, rfl⟩ ⟨by omega, b1, b2, hk.symm⟩).2
    · intro hk
      obtain ⟨g, k, h0, h1, h2, rfl⟩ := entsTo_mem.1 ha
      obtain ⟨k', h1', h2', rfl⟩ := entsL_mem.1 hb
      have := (hT.one _ g k n k' ⟨by omega, h1, h2, rfl⟩ ⟨by omega, h1', h2', hk.symm⟩).1
      omega
theorem entsTo_length (T : TabS) : ∀ n, (entsTo' T n).length = sumN (fun i => countK (T.M i) 3) n
  | 0 => rfl
  | n + 1 => by
    rw [entsTo_snoc, List.length_append, entsTo_length T n]
    unfold entsL
    rw [List.length_map, count_full]; rfl
theorem ents_length {T : TabS} (hT : TGood T) : (T.ents.length : Int) = T.lv := by
  unfold TabS.ents; rw [entsTo_length, hT.lv]; rfl
def TCnt (T : TabS) (H : Int → Nat) (n : Nat) : Prop := T.lv = ((sumN (fun i => if T.has (i : Int) (H i) = true then 1 else 0) n : Nat) : Int)
theorem TCnt.le {T : TabS} {H : Int → Nat} {n : Nat} (h : TCnt T H n) : T.lv ≤ n := by
  have : sumN (fun i => if T.has (i : Int) (H i) = true then 1 else 0) n ≤ 1 * n := sumN_le fun i _ => by split <;> omega
  unfold TCnt at h; omega
theorem TCnt.put {T : TabS} {H : Int → Nat} {n x : Nat} (h : TCnt T H n) (hT : TFun T H) (hx : x < n) (v : Int) (hh : H x < 18446744073709551616) : TCnt (T.putT x v (H x)) H n := by
  unfold TCnt at h ⊢
  have hs := sumN_upd (f := fun i : Nat => if T.has (i : Int) (H i) = true then 1 else 0) (g := fun i : Nat => if (T.putT x v (H x)).has (i : Int) (H i) = true then 1 else 0) hx (fun j hj => by
    rw [(hT.put_at x v hh j).1, if_neg (show ¬ (j : Int) = (x : Int) by omega)])
  have e := (hT.put_at x v hh x).1
  rw [if_pos rfl] at e
  simp only [e] at hs
  rw [(hT.put_lv x v).1, hT.putB]
  unfold TabS.ok at hs
  cases c : T.has (x : Int) (H x) <;> cases d : decide (1 ≤ T.left) <;> simp [c, d] at hs ⊢ <;> omega
theorem TCnt.del {T : TabS} {H : Int → Nat} {n x : Nat} (h : TCnt T H n) (hT : TFun T H) (hx : x < n) : TCnt (T.delT x (H x)) H n := by
  unfold TCnt at h ⊢
  have hs := sumN_upd (f := fun i : Nat => if T.has (i : Int) (H i) = true then 1 else 0) (g := fun i : Nat => if (T.delT x (H x)).has (i : Int) (H i) = true then 1 else 0) hx (fun j hj => by
    rw [(hT.del_at x j).1, if_neg (show ¬ (j : Int) = (x : Int) by omega)])
  have e := (hT.del_at x x).1
  rw [if_pos rfl] at e
  simp only [e] at hs
  rw [del_lv]
  cases c : T.has (x : Int) (H x) <;> simp [c] at hs ⊢ <;> omega
theorem TCnt.new {g : Nat} (H : Int → Nat) (n : Nat) (hr : rightB (g : Int) = true) : TCnt (TabS.new g) H n := by
  unfold TCnt
  rw [sumN_zero fun i _ => ?_]
  · rfl
  · cases c : (TabS.new g).has (i : Int) (H i) with
    | false => rfl
    | true =>
      obtain ⟨a, -⟩ := (TGood.new hr).at_of c
      have h1 := a.full
      rw [show (TabS.new g).M ((TabS.new g).lastG i (H i)) = rep 128 from rfl, full_iff, ln_rep 128 _ (by decide) a.hk] at h1
      omega
end Go.Proofs.YtolhmibejhldkaaGreatDoor
