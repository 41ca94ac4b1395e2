/- Texts joined: EvacP EvacJ TrapAct EvacG. No condition but those that stand within. -/
import Derived.Deep.DeepMakePanics
import Derived.Test.YtolhmibejhldkaaGreatDoorPkSwar
import Derived.Test.YtolhmibejhldkaaGreatDoorPkMeter
import Derived.Test.YtolhmibejhldkaaGreatDoorPkErrs
import Derived.Test.YtolhmibejhldkaaGreatDoorPkGroup
import Derived.Test.YtolhmibejhldkaaGreatDoorPkTab
import Derived.Test.YtolhmibejhldkaaGreatDoorPkTab2
import Derived.Test.YtolhmibejhldkaaGreatDoorPkTab3
import Derived.Test.YtolhmibejhldkaaGreatDoorPkTab4
import Derived.Test.YtolhmibejhldkaaGreatDoorPkTake
import Derived.Test.YtolhmibejhldkaaGreatDoorPkTabM
import Derived.Test.YtolhmibejhldkaaGreatDoorPkBuild
import Derived.Test.YtolhmibejhldkaaGreatDoorPkEvac
import Derived.Test.YtolhmibejhldkaaGreatDoorPkRef09
set_option linter.unusedVariables false
set_option linter.unusedSimpArgs false
namespace Go.Proofs.YtolhmibejhldkaaGreatDoor
open Go.RowKit Go.Proofs
theorem put_tb {T : TabS} (hT : TGood T) (ht : T.tb = 0) (key v : Int) {h : Nat} (hh : h < 18446744073709551616) : (T.putT key v h).tb = 0 := by
  have hg := hT.putT (key := key) v hh
  unfold TabS.putT
  split
  · exact ht
  · split
    · rename_i hr
      unfold TabS.room at hr
      simp only [Bool.and_eq_true, decide_eq_true_eq] at hr
      obtain ⟨k, hz, hk, hfg, hfl⟩ := hT.free' hr.2
      rw [hz, Int.toNat_natCast]
      show (if ln (T.M (T.freeG key h)) k = 254 then T.tb - 1 else T.tb) = 0
      have h2 := (hT.ins hfg hk hfl key v hh).bounds.2.2.2.2.1
      have h3 : (T.ins (T.freeG key h) k ⟨key, v, h⟩ h).tb = (if ln (T.M (T.freeG key h)) k = 254 then T.tb - 1 else T.tb) := rfl
      rw [h3] at h2
      split
      · rename_i e; rw [if_pos e] at h2; omega
      · exact ht
    · exact ht
def lvSum (U : Nat → TabS) (k : Nat) : Int := ((List.range k).map fun i => (U i).lv).sum
theorem lvSum_one (U : Nat → TabS) : lvSum U 1 = (U 0).lv := by simp [lvSum]
theorem lvSum_two (U : Nat → TabS) : lvSum U 2 = (U 0).lv + (U 1).lv := by simp [lvSum, List.range_succ]
theorem lvSum_upd {U : Nat → TabS} {k i : Nat} (hk : k = 1 ∨ k = 2) (hi : i < k) (T' : TabS) : lvSum (upd U i T') k = lvSum U k - (U i).lv + T'.lv := by
  rcases hk with rfl | rfl
  · obtain rfl : i = 0 := by omega
    rw [lvSum_one, lvSum_one, upd_same]; omega
  · rw [lvSum_two, lvSum_two]
    obtain rfl | rfl : i = 0 ∨ i = 1 := by omega
    · rw [upd_same, upd_other _ _ (by decide : (1 : Nat) ≠ 0)]; omega
    · rw [upd_same, upd_other _ _ (by decide : (0 : Nat) ≠ 1)]; omega
theorem lvSum_le {U : Nat → TabS} {k i : Nat} (hk : k = 1 ∨ k = 2) (hi : i < k) (h0 : ∀ j, j < k → 0 ≤ (U j).lv) : (U i).lv ≤ lvSum U k := by
  rcases hk with rfl | rfl
  · obtain rfl : i = 0 := by omega
    rw [lvSum_one]; omega
  · rw [lvSum_two]
    have h1 := h0 0 (by decide); have h2 := h0 1 (by decide)
    have hi' : i = 0 ∨ i = 1 := by omega
    rcases hi' with rfl | rfl
    · omega
    · omega
structure UI (U : Nat → TabS) (k d : Nat) (H : Int → Nat) (gn : Nat) : Prop where
  f : ∀ i, i < k → TFun (U i) H
  tb : ∀ i, i < k → (U i).tb = 0
  n : ∀ i, i < k → (U i).n = gn
  side : ∀ i, i < k → ∀ q, (U i).has q (H q) = true → tIx k d (H q) = i
theorem UI.put {U : Nat → TabS} {k d gn : Nat} {H : Int → Nat} (h : UI U k d H gn) (hk : k = 1 ∨ (k = 2 ∧ d ≤ 15)) (q v : Int) (hh : H q < 18446744073709551616) (hno : (U (tIx k d (H q))).has q (H q) = false) (hroom : lvSum U k < 7 * (gn : Int)) :
    (U (tIx k d (H q))).putB q (H q) = true ∧ UI (upd U (tIx k d (H q)) ((U (tIx k d (H q))).putT q v (H q))) k d H gn ∧ lvSum (upd U (tIx k d (H q)) ((U (tIx k d (H q))).putT q v (H q))) k = lvSum U k + 1 ∧
    ∀ i, i < k → ∀ q', (upd U (tIx k d (H q)) ((U (tIx k d (H q))).putT q v (H q)) i).has q' (H q') = ((U i).has q' (H q') || (decide (q' = q) && decide (tIx k d (H q) = i))) ∧
      (upd U (tIx k d (H q)) ((U (tIx k d (H q))).putT q v (H q)) i).ent q' (H q') = if q' = q ∧ tIx k d (H q) = i then ⟨q, v, H q⟩ else (U i).ent q' (H q') := by
  have hi := tIx_lt (h := H q) hk
  have hk' : k = 1 ∨ k = 2 := by omega
  generalize hix : tIx k d (H q) = x at *
  have hle := lvSum_le hk' hi (fun j hj => (h.f j hj).good.bounds.2.2.1)
  have hl1 : 1 ≤ (U x).left := by unfold TabS.left; rw [h.tb x hi, h.n x hi]; omega
  have hok : (U x).ok q (H q) = true := by unfold TabS.ok; simp [hl1]
  have hpB : (U x).putB q (H q) = true := by rw [(h.f x hi).putB, hno]; simpa using hl1
  have hat : ∀ i, i < k → ∀ q', (upd U x ((U x).putT q v (H q)) i).has q' (H q') = ((U i).has q' (H q') || (decide (q' = q) && decide (x = i))) ∧
      (upd U x ((U x).putT q v (H q)) i).ent q' (H q') = if q' = q ∧ x = i then ⟨q, v, H q⟩ else (U i).ent q' (H q') := fun i hik q' => by
    by_cases e : i = x
    · subst e
      rw [upd_same]
      have h1 := (h.f i hi).put_at q v hh q'
      rw [h1.1, h1.2, hok]
      by_cases e2 : q' = q
      · subst e2; simp
      · simp [e2]
    · rw [upd_other _ _ e]
      have e3 : ¬ x = i := fun e' => e e'.symm
      simp [e3]
  refine ⟨hpB, ⟨fun i hik => ?_, fun i hik => ?_, fun i hik => ?_, fun i hik q' hq' => ?_⟩, ?_, hat⟩
  · by_cases e : i = x
    · subst e; rw [upd_same]; exact (h.f i hi).putT q v hh
    · rw [upd_other _ _ e]; exact h.f i hik
  · by_cases e : i = x
    · subst e; rw [upd_same]; exact put_tb (h.f i hi).good (h.tb i hi) q v hh
    · rw [upd_other _ _ e]; exact h.tb i hik
  · by_cases e : i = x
    · subst e; rw [upd_same, putT_n]; exact h.n i hi
    · rw [upd_other _ _ e]; exact h.n i hik
  · rw [(hat i hik q').1] at hq'
    simp only [Bool.or_eq_true, Bool.and_eq_true, decide_eq_true_eq] at hq'
    rcases hq' with hq' | ⟨rfl, e⟩
    · exact h.side i hik q' hq'
    · rw [hix, e]
  · rw [lvSum_upd hk' hi, ((h.f x hi).put_lv q v).1, hpB]; simp; omega
theorem evF_inv {U : Nat → TabS} {k d gn : Nat} {H : Int → Nat} (h : UI U k d H gn) (hk : k = 1 ∨ (k = 2 ∧ d ≤ 15)) (l : List EntS) (hH : ∀ e ∈ l, e.hash = (H e.key : Int) ∧ H e.key < 18446744073709551616)
    (hnew : ∀ e ∈ l, (U (tIx k d (H e.key))).has e.key (H e.key) = false) (hdup : ∀ i j (hi : i < l.length) (hj : j < l.length), l[i].key = l[j].key → i = j) (hroom : lvSum U k + l.length ≤ 7 * (gn : Int)) :
    ∀ j, j ≤ l.length → UI (evF k d (l.take j) (U, 0)).1 k d H gn ∧ lvSum (evF k d (l.take j) (U, 0)).1 k = lvSum U k + j ∧
      (∀ i, i < k → ∀ q, ((evF k d (l.take j) (U, 0)).1 i).has q (H q) = true ↔ (U i).has q (H q) = true ∨ ∃ p, ∃ hp : p < l.length, p < j ∧ l[p].key = q ∧ tIx k d (H q) = i) ∧
      (∀ i, i < k → ∀ q, (∀ p (hp : p < l.length), p < j → l[p].key = q → tIx k d (H q) ≠ i) → ((evF k d (l.take j) (U, 0)).1 i).ent q (H q) = (U i).ent q (H q)) ∧
      (∀ p (hp : p < l.length), p < j → ((evF k d (l.take j) (U, 0)).1 (tIx k d (H l[p].key))).ent l[p].key (H l[p].key) = l[p]) ∧
      (∀ p (hp : p < l.length), p < j → ((evF k d (l.take p) (U, 0)).1 (tIx k d l[p].hash.toNat)).putB l[p].key l[p].hash.toNat = true)
  | 0, _ => ⟨h, by rw [List.take_zero]; simp [evF], fun i hi q => ⟨fun e => .inl e, fun e => by rcases e with e | ⟨p, hp, h0, -⟩; exact e; omega⟩, fun i hi q _ => rfl, fun p hp h0 => by omega, fun p hp h0 => by omega⟩
  | j + 1, hj => by
    obtain ⟨h1, h2, h3, h4, h5, h6⟩ := evF_inv h hk l hH hnew hdup hroom j (by omega)
    have hjl : j < l.length := by omega
    rw [evF_take hjl]
    generalize hs : evF k d (l.take j) (U, 0) = s at *
    obtain ⟨hh1, hh2⟩ := hH l[j] (List.getElem_mem hjl)
    have hcv : l[j].hash.toNat = H l[j].key := by rw [hh1]; simp
    have hi := tIx_lt (h := H l[j].key) hk
    have hno : (s.1 (tIx k d (H l[j].key))).has l[j].key (H l[j].key) = false := by
      rw [← Bool.not_eq_true, h3 _ hi]
      rintro (e | ⟨p, hp, hpj, hkey, -⟩)
      · rw [hnew _ (List.getElem_mem hjl)] at e; cases e
      · have := hdup p j hp hjl hkey; omega
    obtain ⟨p1, p2, p3, p4⟩ := h1.put hk l[j].key l[j].val hh2 hno (by omega)
    unfold evS
    rw [hcv]
    refine ⟨p2, by rw [p3, h2]; omega, fun i hi' q => ?_, fun i hi' q hq => ?_, fun p hp hpj => ?_, fun p hp hpj => ?_⟩
    · rw [(p4 i hi' q).1]
      simp only [Bool.or_eq_true, Bool.and_eq_true, decide_eq_true_eq]
      rw [h3 i hi' q]
      constructor
      · rintro ((e | ⟨p, hp, hpj, e1, e2⟩) | ⟨e1, e2⟩)
        · exact .inl e
        · exact .inr ⟨p, hp, by omega, e1, e2⟩
        · exact .inr ⟨j, hjl, by omega, e1.symm, by rw [e1]; exact e2⟩
      · rintro (e | ⟨p, hp, hpj, e1, e2⟩)
        · exact .inl (.inl e)
        · by_cases e : p = j
          · subst e; exact .inr ⟨e1.symm, by rw [← e1] at e2; exact e2⟩
          · exact .inl (.inr ⟨p, hp, by omega, e1, e2⟩)
    · rw [(p4 i hi' q).2, if_neg (fun e => hq j hjl (by omega) e.1.symm (by rw [e.1]; exact e.2))]
      exact h4 i hi' q (fun p hp hpj => hq p hp (by omega))
    · by_cases e : p = j
      · subst e
        rw [(p4 _ hi l[p].key).2, if_pos ⟨rfl, rfl⟩, ← hh1]
      · have hi2 := tIx_lt (h := H l[p].key) hk
        rw [(p4 _ hi2 l[p].key).2, if_neg (fun e' => e (hdup p j hp hjl e'.1))]
        exact h5 p hp (by omega)
    · by_cases e : p = j
      · subst e; rw [hs, hcv]; exact p1
      · exact h6 p hp (by omega)
theorem group_ents {T : TabS} {H : Int → Nat} (hT : TFun T H) (hHb : ∀ q, H q < 18446744073709551616) {g : Nat} (hg : g < T.n) :
    (∀ e ∈ entsL (T.M g) (T.S g), e.hash = (H e.key : Int) ∧ H e.key < 18446744073709551616) ∧
    (∀ i j (hi : i < (entsL (T.M g) (T.S g)).length) (hj : j < (entsL (T.M g) (T.S g)).length), (entsL (T.M g) (T.S g))[i].key = (entsL (T.M g) (T.S g))[j].key → i = j) ∧
    (∀ q, (∃ e ∈ entsL (T.M g) (T.S g), e.key = q) ↔ ∃ k, T.At q g k) := by
  have hat : ∀ k, k ∈ lanesL (fullB (T.M g)) → T.At (T.S g k).key g k := fun k hk => by
    unfold lanesL at hk
    simp only [List.mem_filter, List.mem_range] at hk
    exact ⟨hg, hk.1, hk.2, rfl⟩
  refine ⟨fun e he => ?_, fun i j hi hj hij => ?_, fun q => ⟨?_, ?_⟩⟩
  · unfold entsL at he
    obtain ⟨k, hk, rfl⟩ := List.mem_map.1 he
    exact ⟨hT.hash _ _ _ (hat k hk), hHb _⟩
  · have hnd : (lanesL (fullB (T.M g))).Nodup := by unfold lanesL; exact List.nodup_range.filter _
    unfold entsL at hij hi hj
    simp only [List.getElem_map, List.length_map] at hij hi hj
    have h1 := hat _ (List.getElem_mem hi)
    have h2 := hat _ (List.getElem_mem hj)
    rw [hij] at h1
    have h3 := (hT.one _ _ _ _ _ h1 h2).2
    exact (List.getElem_inj hnd).1 h3
  · rintro ⟨e, he, rfl⟩
    unfold entsL at he
    obtain ⟨k, hk, rfl⟩ := List.mem_map.1 he
    exact ⟨k, hat k hk⟩
  · rintro ⟨k, ha⟩
    refine ⟨T.S g k, ?_, ha.key⟩
    unfold entsL
    refine List.mem_map.2 ⟨k, ?_, rfl⟩
    unfold lanesL
    simp only [List.mem_filter, List.mem_range]
    exact ⟨ha.hk, ha.full⟩
structure EI (T : TabS) (U : Nat → TabS) (k d : Nat) (H : Int → Nat) (g gn : Nat) (m : Int) : Prop where
  t : TFun T H
  tn : T.n = g
  u : UI U k d H gn
  apart : ∀ q, T.has q (H q) = true → (U (tIx k d (H q))).has q (H q) = false
  cnt : T.lv + lvSum U k ≤ m
theorem EI.step {T : TabS} {U : Nat → TabS} {k d g gn : Nat} {H : Int → Nat} {m : Int} (h : EI T U k d H g gn m) (hk : k = 1 ∨ (k = 2 ∧ d ≤ 15)) (hHb : ∀ q, H q < 18446744073709551616) (hm : m ≤ 7 * (gn : Int)) {x : Nat} (hx : x < g) :
    EvOk k d (entsL (T.M x) (T.S x)) U ∧ EI (T.takeT x) (evF k d (entsL (T.M x) (T.S x)) (U, 0)).1 k d H g gn m := by
  have hx' : x < T.n := by rw [h.tn]; exact hx
  obtain ⟨g1, g2, g3⟩ := group_ents h.t hHb hx'
  have hT' := h.t.takeT hx'
  have hlv := takeT_lv T x
  have hlv0 := hT'.good.bounds.2.2.1
  have hcnt := h.cnt
  obtain ⟨l, hl⟩ : ∃ l, l = entsL (T.M x) (T.S x) := ⟨_, rfl⟩
  rw [← hl] at g1 g2 g3 hlv ⊢
  have hnew : ∀ e ∈ l, (U (tIx k d (H e.key))).has e.key (H e.key) = false := fun e he => by
    obtain ⟨q, hq⟩ := (g3 e.key).1 ⟨e, he, rfl⟩
    exact h.apart _ (h.t.has_of hq)
  obtain ⟨i1, i2, i3, i4, i5, i6⟩ := evF_inv h.u hk l g1 hnew g2 (by omega) l.length (Nat.le_refl _)
  rw [List.take_length] at i1 i2 i3 i4 i5
  refine ⟨fun j hj => i6 j hj hj, ⟨hT', by rw [takeT_n]; exact h.tn, i1, fun q hq => ?_, by rw [i2, hlv]; omega⟩⟩
  obtain ⟨g', k', ha⟩ := hT'.has_iff.1 hq
  rw [at_takeT hx'] at ha
  rw [← Bool.not_eq_true, i3 _ (tIx_lt hk)]
  rintro (e | ⟨p, hp, -, hkey, -⟩)
  · rw [h.apart q (h.t.has_of ha.2)] at e; cases e
  · obtain ⟨k2, ha2⟩ := (g3 q).1 ⟨l[p], List.getElem_mem hp, hkey⟩
    exact ha.1 (h.t.one _ _ _ _ _ ha.2 ha2).1
theorem EI.putT {T : TabS} {U : Nat → TabS} {k d g gn : Nat} {H : Int → Nat} {m : Int} (h : EI T U k d H g gn m) (hk : k = 1 ∨ (k = 2 ∧ d ≤ 15)) (hU : ∀ i, i < k → ∀ q, (U i).has q (H q) = false) (q v : Int) (hh : H q < 18446744073709551616) : EI (T.putT q v (H q)) U k d H g gn (m + 1) :=
  ⟨h.t.putT q v hh, by rw [putT_n]; exact h.tn, h.u, fun q' _ => hU _ (tIx_lt hk) q', by
    have h1 := h.cnt
    rw [(h.t.put_lv q v).1]; split <;> omega⟩
theorem EI.putU {T : TabS} {U : Nat → TabS} {k d g gn : Nat} {H : Int → Nat} {m : Int} (h : EI T U k d H g gn m) (hk : k = 1 ∨ (k = 2 ∧ d ≤ 15)) (q v : Int) (hh : H q < 18446744073709551616) (hno : T.has q (H q) = false) :
    EI T (upd U (tIx k d (H q)) ((U (tIx k d (H q))).putT q v (H q))) k d H g gn (m + 1) := by
  have hi := tIx_lt (h := H q) hk
  have hk' : k = 1 ∨ k = 2 := by omega
  have hu := h.u
  generalize hix : tIx k d (H q) = x at *
  have hat : ∀ q', ((U x).putT q v (H q)).has q' (H q') = (if q' = q then (U x).ok q (H q) else (U x).has q' (H q')) := fun q' => ((hu.f x hi).put_at q v hh q').1
  refine ⟨h.t, h.tn, ⟨fun i hik => ?_, fun i hik => ?_, fun i hik => ?_, fun i hik q' hq' => ?_⟩, fun q' hq' => ?_, ?_⟩
  · by_cases e : i = x
    · subst e; rw [upd_same]; exact (hu.f i hi).putT q v hh
    · rw [upd_other _ _ e]; exact hu.f i hik
  · by_cases e : i = x
    · subst e; rw [upd_same]; exact put_tb (hu.f i hi).good (hu.tb i hi) q v hh
    · rw [upd_other _ _ e]; exact hu.tb i hik
  · by_cases e : i = x
    · subst e; rw [upd_same, putT_n]; exact hu.n i hi
    · rw [upd_other _ _ e]; exact hu.n i hik
  · by_cases e : i = x
    · subst e
      rw [upd_same, hat] at hq'
      by_cases e2 : q' = q
      · subst e2; exact hix
      · rw [if_neg e2] at hq'; exact hu.side i hi q' hq'
    · rw [upd_other _ _ e] at hq'; exact hu.side i hik q' hq'
  · have hne : q' ≠ q := fun e => by subst e; rw [hno] at hq'; cases hq'
    by_cases e : tIx k d (H q') = x
    · have := h.apart q' hq'
      rw [e] at this ⊢
      rw [upd_same, hat, if_neg hne]; exact this
    · rw [upd_other _ _ e]; exact h.apart q' hq'
  · have h1 := h.cnt
    rw [lvSum_upd hk' hi, ((hu.f x hi).put_lv q v).1]; split <;> omega
theorem new_no {n : Nat} (hr : rightB (n : Int) = true) (H : Int → Nat) (q : Int) : (TabS.new n).has q (H q) = false := by
  cases e : (TabS.new n).has q (H q) with
  | false => rfl
  | true =>
    obtain ⟨a, -⟩ := (TGood.new hr).at_of e
    have h1 := a.full
    rw [show (TabS.new n).M ((TabS.new n).lastG q (H q)) = rep 128 from rfl, full_iff, ln_rep 128 _ (by decide) a.hk] at h1
    omega
theorem EI.new {k d g gn : Nat} {H : Int → Nat} (hk : k = 1 ∨ (k = 2 ∧ d ≤ 15)) (hr : rightB (g : Int) = true) (hrn : rightB (gn : Int) = true) : EI (TabS.new g) (fun _ => TabS.new gn) k d H g gn 0 :=
  ⟨TFun.new hr H, rfl, ⟨fun _ _ => TFun.new hrn H, fun _ _ => rfl, fun _ _ => rfl, fun i _ q hq => by rw [new_no hrn] at hq; cases hq⟩, fun q _ => new_no hrn H q, by
    have : lvSum (fun _ => TabS.new gn) k = 0 := by
      rcases hk with rfl | ⟨rfl, -⟩
      · rw [lvSum_one]; rfl
      · rw [lvSum_two]; rfl
    rw [this]; exact Int.le_refl _⟩
end Go.Proofs.YtolhmibejhldkaaGreatDoor

namespace Go.Proofs.YtolhmibejhldkaaGreatDoor
open Go.RowKit Go.Proofs
def entK (H : Int → Nat) (q : Int) : EntS := ⟨q, q + 5, H q⟩
structure EK (T : TabS) (U : Nat → TabS) (k : Nat) (H : Int → Nat) (n : Nat) : Prop where
  o : ∀ q, T.has q (H q) = true → (∃ x : Nat, x < n ∧ q = x) ∧ T.ent q (H q) = entK H q
  u : ∀ i, i < k → ∀ q, (U i).has q (H q) = true → (∃ x : Nat, x < n ∧ q = x) ∧ (U i).ent q (H q) = entK H q
  co : TCnt T H n
  cu : ∀ i, i < k → TCnt (U i) H n
theorem ek_put {T : TabS} {H : Int → Nat} {n x : Nat} (hT : TFun T H) (h : ∀ q, T.has q (H q) = true → (∃ x : Nat, x < n ∧ q = x) ∧ T.ent q (H q) = entK H q) (hx : x < n) (hh : H x < 18446744073709551616) :
    ∀ q, (T.putT x ((x : Int) + 5) (H x)).has q (H q) = true → (∃ x : Nat, x < n ∧ q = x) ∧ (T.putT x ((x : Int) + 5) (H x)).ent q (H q) = entK H q := fun q hq => by
  obtain ⟨h1, h2⟩ := hT.put_at x ((x : Int) + 5) hh q
  rw [h1] at hq
  rw [h2]
  by_cases e : q = (x : Int)
  · subst e
    rw [if_pos rfl] at hq
    rw [if_pos rfl, if_pos hq]
    exact ⟨⟨x, hx, rfl⟩, rfl⟩
  · rw [if_neg e] at hq ⊢
    exact h q hq
theorem EK.putT {T : TabS} {U : Nat → TabS} {k n x : Nat} {H : Int → Nat} (h : EK T U k H n) (hT : TFun T H) (hx : x < n) (hh : H x < 18446744073709551616) : EK (T.putT x ((x : Int) + 5) (H x)) U k H n :=
  ⟨ek_put hT h.o hx hh, h.u, h.co.put hT hx _ hh, h.cu⟩
theorem EK.putU {T : TabS} {U : Nat → TabS} {k n x y : Nat} {H : Int → Nat} (h : EK T U k H n) (hT : TFun (U y) H) (hy : y < k) (hx : x < n) (hh : H x < 18446744073709551616) : EK T (upd U y ((U y).putT x ((x : Int) + 5) (H x))) k H n := by
  refine ⟨h.o, fun i hi => ?_, h.co, fun i hi => ?_⟩
  · by_cases e : i = y
    · subst e; rw [upd_same]; exact ek_put hT (h.u i hy) hx hh
    · rw [upd_other _ _ e]; exact h.u i hi
  · by_cases e : i = y
    · subst e; rw [upd_same]; exact (h.cu i hy).put hT hx _ hh
    · rw [upd_other _ _ e]; exact h.cu i hi
theorem EK.new {k n g gn : Nat} {H : Int → Nat} (hr : rightB (g : Int) = true) (hrn : rightB (gn : Int) = true) : EK (TabS.new g) (fun _ => TabS.new gn) k H n :=
  ⟨fun q hq => (by rw [new_no hr] at hq; cases hq), fun i _ q hq => (by rw [new_no hrn] at hq; cases hq), TCnt.new H n hr, fun _ _ => TCnt.new H n hrn⟩
structure EJ (T : TabS) (U : Nat → TabS) (k d : Nat) (H : Int → Nat) (g gn : Nat) (m : Int) (n : Nat) : Prop where
  e : EI T U k d H g gn m
  k : EK T U k H n
theorem EI.more {T : TabS} {U : Nat → TabS} {k d g gn : Nat} {H : Int → Nat} {m m' : Int} (h : EI T U k d H g gn m) (hm : m ≤ m') : EI T U k d H g gn m' := ⟨h.t, h.tn, h.u, h.apart, Int.le_trans h.cnt hm⟩
section
variable {T : TabS} {U : Nat → TabS} {k d g gn n : Nat} {H : Int → Nat} {m m' : Int}
theorem EJ.more (h : EJ T U k d H g gn m n) (hm : m ≤ m') : EJ T U k d H g gn m' n := ⟨h.e.more hm, h.k⟩
theorem EJ.new (hk : k = 1 ∨ (k = 2 ∧ d ≤ 15)) (hr : rightB (g : Int) = true) (hrn : rightB (gn : Int) = true) : EJ (TabS.new g) (fun _ => TabS.new gn) k d H g gn 0 n := ⟨EI.new hk hr hrn, EK.new hr hrn⟩
theorem EJ.putT {x : Nat} (h : EJ T U k d H g gn m n) (hk : k = 1 ∨ (k = 2 ∧ d ≤ 15)) (hU : ∀ i, i < k → ∀ q, (U i).has q (H q) = false) (hx : x < n) (hh : H x < 18446744073709551616) : EJ (T.putT x ((x : Int) + 5) (H x)) U k d H g gn (m + 1) n :=
  ⟨h.e.putT hk hU _ _ hh, h.k.putT h.e.t hx hh⟩
theorem EJ.putU {x : Nat} (h : EJ T U k d H g gn m n) (hk : k = 1 ∨ (k = 2 ∧ d ≤ 15)) (hx : x < n) (hh : H x < 18446744073709551616) (hno : T.has x (H x) = false) :
    EJ T (upd U (tIx k d (H x)) ((U (tIx k d (H x))).putT x ((x : Int) + 5) (H x))) k d H g gn (m + 1) n :=
  ⟨h.e.putU hk _ _ hh hno, h.k.putU (h.e.u.f _ (tIx_lt hk)) (tIx_lt hk) hx hh⟩
end
def presB (T : TabS) (U : Nat → TabS) (k d : Nat) (H : Int → Nat) (x : Nat) : Bool := T.has x (H x) || (U (tIx k d (H x))).has x (H x)
structure EL (T : TabS) (U : Nat → TabS) (k d : Nat) (H : Int → Nat) (g gn : Nat) (m : Int) (n nx c : Nat) (P : Nat → Bool) : Prop where
  e : EI T U k d H g gn m
  o : ∀ q, T.has q (H q) = true → (∃ x : Nat, x < n ∧ q = x) ∧ T.ent q (H q) = entK H q
  u : ∀ i, i < k → ∀ q, (U i).has q (H q) = true → (∃ x : Nat, x < n ∧ q = x) ∧ (U i).ent q (H q) = entK H q
  c : T.lv + lvSum U k = (c : Int)
  p : ∀ x, x < n → presB T U k d H x = P x
  z : ∀ q g' k', T.At q g' k' → nx ≤ g'
section
variable {T : TabS} {U : Nat → TabS} {k d g gn n nx c : Nat} {H : Int → Nat} {m : Int} {P : Nat → Bool}
def cntP (P : Nat → Bool) (n : Nat) : Nat := sumN (fun i => if P i = true then 1 else 0) n
theorem EJ.start (h : EJ T U k d H g gn m n) (hk : k = 1 ∨ (k = 2 ∧ d ≤ 15)) : EL T U k d H g gn m n 0 (cntP (presB T U k d H) n) (presB T U k d H) := by
  refine ⟨h.e, h.k.o, h.k.u, ?_, fun _ _ => rfl, fun _ _ _ _ => Nat.zero_le _⟩
  have h0 := h.k.co
  unfold TCnt at h0
  unfold cntP
  rcases hk with rfl | ⟨rfl, hd⟩
  · have h1 := h.k.cu 0 (by decide)
    unfold TCnt at h1
    rw [lvSum_one, h0, h1, ← Int.natCast_add, ← sumN_add]
    refine congrArg _ (sumN_congr fun i hi => ?_)
    have ha := h.e.apart (i : Int)
    have e0 : tIx 1 d (H (i : Int)) = 0 := rfl
    unfold presB
    rw [e0] at ha ⊢
    cases c1 : T.has (i : Int) (H i) with
    | true => rw [ha c1]; rfl
    | false => simp
  · have h1 := h.k.cu 0 (by decide)
    have h2 := h.k.cu 1 (by decide)
    unfold TCnt at h1 h2
    rw [lvSum_two, h0, h1, h2, ← Int.add_assoc, ← Int.natCast_add, ← Int.natCast_add, ← sumN_add, ← sumN_add]
    refine congrArg _ (sumN_congr fun i hi => ?_)
    have ha := h.e.apart (i : Int)
    have hlt := tIx_lt (h := H (i : Int)) (show (2 : Nat) = 1 ∨ (2 = 2 ∧ d ≤ 15) from .inr ⟨rfl, hd⟩)
    have s0 := h.e.u.side 0 (by decide) (i : Int)
    have s1 := h.e.u.side 1 (by decide) (i : Int)
    unfold presB
    have h01 : tIx 2 d (H (i : Int)) = 0 ∨ tIx 2 d (H (i : Int)) = 1 := by omega
    rcases h01 with e | e
    · rw [e] at ha s1 ⊢
      have z1 : (U 1).has (i : Int) (H i) = false := by
        cases c1 : (U 1).has (i : Int) (H i) with
        | false => rfl
        | true => exact absurd (s1 c1) (by decide)
      rw [z1]
      cases c1 : T.has (i : Int) (H i) with
      | true => rw [ha c1]; rfl
      | false => simp
    · rw [e] at ha s0 ⊢
      have z1 : (U 0).has (i : Int) (H i) = false := by
        cases c1 : (U 0).has (i : Int) (H i) with
        | false => rfl
        | true => exact absurd (s0 c1) (by decide)
      rw [z1]
      cases c1 : T.has (i : Int) (H i) with
      | true => rw [ha c1]; rfl
      | false => simp
theorem EL.step (h : EL T U k d H g gn m n nx c P) (hk : k = 1 ∨ (k = 2 ∧ d ≤ 15)) (hHb : ∀ q, H q < 18446744073709551616) (hm : m ≤ 7 * (gn : Int)) (hx : nx < g) :
    EvOk k d (entsL (T.M nx) (T.S nx)) U ∧ EL (T.takeT nx) (evF k d (entsL (T.M nx) (T.S nx)) (U, 0)).1 k d H g gn m n (nx + 1) c P := by
  obtain ⟨hok, he⟩ := h.e.step hk hHb hm hx
  refine ⟨hok, ?_⟩
  have hx' : nx < T.n := by rw [h.e.tn]; exact hx
  obtain ⟨g1, g2, g3⟩ := group_ents h.e.t hHb hx'
  have hT' := h.e.t.takeT hx'
  have hlv := takeT_lv T nx
  have hlv0 := hT'.good.bounds.2.2.1
  have hcnt := h.e.cnt
  have hent : ∀ e ∈ entsL (T.M nx) (T.S nx), T.has e.key (H e.key) = true ∧ e = entK H e.key := fun e he => by
    unfold entsL at he
    obtain ⟨k', hk', rfl⟩ := List.mem_map.1 he
    have ha : T.At (T.S nx k').key nx k' := by
      unfold lanesL at hk'
      simp only [List.mem_filter, List.mem_range] at hk'
      exact ⟨hx', hk'.1, hk'.2, rfl⟩
    have hh := h.e.t.has_of ha
    exact ⟨hh, (h.e.t.ent_of ha).symm.trans (h.o _ hh).2⟩
  obtain ⟨l, hl⟩ : ∃ l, l = entsL (T.M nx) (T.S nx) := ⟨_, rfl⟩
  rw [← hl] at g1 g2 g3 hlv hent he ⊢
  have hnew : ∀ e ∈ l, (U (tIx k d (H e.key))).has e.key (H e.key) = false := fun e he => h.e.apart _ (hent e he).1
  obtain ⟨i1, i2, i3, i4, i5, i6⟩ := evF_inv h.e.u hk l g1 hnew g2 (by omega) l.length (Nat.le_refl _)
  rw [List.take_length] at i1 i2 i3 i4 i5
  have hold : ∀ q, (T.takeT nx).has q (H q) = true ↔ T.has q (H q) = true ∧ ¬ ∃ p, ∃ hp : p < l.length, l[p].key = q := fun q => by
    rw [hT'.has_iff, h.e.t.has_iff]
    constructor
    · rintro ⟨g', k', ha⟩
      rw [at_takeT hx'] at ha
      refine ⟨⟨g', k', ha.2⟩, ?_⟩
      rintro ⟨p, hp, hq⟩
      obtain ⟨k2, ha2⟩ := (g3 q).1 ⟨l[p], List.getElem_mem hp, hq⟩
      exact ha.1 (h.e.t.one _ _ _ _ _ ha.2 ha2).1
    · rintro ⟨⟨g', k', ha⟩, hno⟩
      refine ⟨g', k', (at_takeT hx' q g' k').2 ⟨fun e => ?_, ha⟩⟩
      subst e
      obtain ⟨e, he, hq⟩ := (g3 q).2 ⟨k', ha⟩
      obtain ⟨p, hp, rfl⟩ := List.getElem_of_mem he
      exact hno ⟨p, hp, hq⟩
  refine ⟨he, fun q hq => ?_, fun i hi q hq => ?_, ?_, fun x hxn => ?_, fun q g' k' ha => ?_⟩
  · obtain ⟨g', k', ha⟩ := hT'.has_iff.1 hq
    have hq0 := ((hold q).1 hq).1
    have ha2 := (at_takeT hx' q g' k').1 ha
    refine ⟨(h.o q hq0).1, ?_⟩
    rw [hT'.ent_of ha, (takeT_other T ha2.1).2, ← h.e.t.ent_of ha2.2]
    exact (h.o q hq0).2
  · by_cases e : ∃ p, ∃ hp : p < l.length, l[p].key = q ∧ tIx k d (H q) = i
    · obtain ⟨p, hp, rfl, rfl⟩ := e
      have h5 := i5 p hp hp
      obtain ⟨e1, e2⟩ := hent _ (List.getElem_mem hp)
      exact ⟨(h.o _ e1).1, h5.trans e2⟩
    · rw [i3 i hi q] at hq
      rcases hq with hq | ⟨p, hp, -, h1, h2⟩
      · have h4 := i4 i hi q (fun p hp _ h1 h2 => e ⟨p, hp, h1, h2⟩)
        rw [h4]
        exact h.u i hi q hq
      · exact absurd ⟨p, hp, h1, h2⟩ e
  · rw [i2, hlv]
    have := h.c
    omega
  · rw [← h.p x hxn, Bool.eq_iff_iff]
    unfold presB
    rw [Bool.or_eq_true, Bool.or_eq_true, hold, i3 _ (tIx_lt hk)]
    constructor
    · rintro (⟨e, -⟩ | e | ⟨p, hp, -, hq, -⟩)
      · exact .inl e
      · exact .inr e
      · refine .inl ?_
        have := (hent _ (List.getElem_mem hp)).1
        rw [hq] at this; exact this
    · rintro (e | e)
      · by_cases e2 : ∃ p, ∃ hp : p < l.length, l[p].key = (x : Int)
        · obtain ⟨p, hp, hq⟩ := e2
          exact .inr (.inr ⟨p, hp, hp, hq, rfl⟩)
        · exact .inl ⟨e, e2⟩
      · exact .inr (.inl e)
  · obtain ⟨h1, h2⟩ := (at_takeT hx' q g' k').1 ha
    have := h.z q g' k' h2
    omega
theorem EL.at (h : EL T U k d H g gn m n nx c P) {x : Nat} (hk : k = 1 ∨ (k = 2 ∧ d ≤ 15)) (hx : x < n) (hp : P x = true) :
    (T.has x (H x) = true ∧ T.ent x (H x) = entK H x ∧ (U (tIx k d (H x))).has x (H x) = false) ∨ (T.has x (H x) = false ∧ (U (tIx k d (H x))).has x (H x) = true ∧ (U (tIx k d (H x))).ent x (H x) = entK H x) := by
  have hpx := h.p x hx
  rw [hp] at hpx
  unfold presB at hpx
  cases c1 : T.has (x : Int) (H x) with
  | true => exact .inl ⟨rfl, (h.o _ c1).2, h.e.apart _ c1⟩
  | false =>
    rw [c1, Bool.false_or] at hpx
    exact .inr ⟨rfl, hpx, (h.u _ (tIx_lt hk) _ hpx).2⟩
end
end Go.Proofs.YtolhmibejhldkaaGreatDoor

namespace Go.Proofs.YtolhmibejhldkaaGreatDoor
open Go.RowKit Go.Proofs
set_option maxRecDepth 100000
end Go.Proofs.YtolhmibejhldkaaGreatDoor

namespace Go.Proofs.YtolhmibejhldkaaGreatDoor
open Go.RowKit Go.Proofs
attribute [local go_sem] neq_nilG eql_nilG
theorem row_ptrsG {w : World} {base k : Nat} {v : Value} {F : Nat → Nat} {e : TypeId} (h : w.ownsRow base e 1 v k ((List.range k).map (fun i => Value.pointer (some ⟨F i, 0, none⟩)))) (hk : 1 ≤ k) :
    ∃ g cap cur, v = .slice (some ⟨g, 0, none⟩) k cap ∧ base ≤ g ∧ Blk w g e cur ∧ ∀ i, i < k → w.cell? ⟨g, i, none⟩ = some (.pointer (some ⟨F i, 0, none⟩)) := by
  rcases h.2 with ⟨rfl, rfl⟩ | ⟨g, cap, cur, rfl, hb, hg, h1, h2, h3, h4⟩
  · omega
  · refine ⟨g, cap, cur, rfl, hb, hg, fun i hi => ?_⟩
    have h5 := h.cells (g := g) rfl i
    have h6 : (⟨g, 0, none⟩ : Addr).add i = ⟨g, i, none⟩ := by
      simp only [Addr.add]; split
      · rename_i e; rw [e]
      · simp
    rw [h6] at h5
    exact h5 _ (by simp [hi])
theorem wpList_append_own2' {P : Program} {w : World} {ops : Array Oper} {rest : List Oper} {o : Oper} {a : Act} {Q : Exit → Act → World → Prop} (hgd : o.guard = none) (s x : Operand) (t : TypeId)
    (ho : o.op = .call { callee := .builtin .append, args := #[s, x], argTypes := #[t, t] })
    (base : Nat) (e : TypeId) (i : TypeInfo) (z : Value) (size bytes : Nat) (ht : P.underlying t = some (.slice e)) (hi : P.info? e = some i) (hz : i.zero = some z)
    (hsize : i.size = size) (hby : i.bytes = bytes) (hzs : z.cells.size = size) (hsz : 0 < size)
    (v : Value) (n : Nat) (xs : List Value) (hs : a.eval s = v) (hown : w.ownsRow base e size v n xs)
    (ad : Addr) (m c : Nat) (news : List Value) (hx : a.eval x = .slice (some ad) m c) (hl : news.length = m * size) (hnews : ∀ j u, news[j]? = some u → w.cell? (ad.add j) = some u) (h1 : ∀ u ∈ news, u.oneCell' = true)
    (h63 : n + m ≤ maxLen) (hbytes : (n + m) * bytes ≤ 140737488355328) (hbase : base ≤ w.heap.size) (hm : 0 < m)
    (h : ∀ v' w', w'.ownsRow base e size v' (n + m) (xs ++ news) → w.grownBy w' v.ownBlock → (v'.ownBlock = v.ownBlock ∨ v'.ownBlock = some w.heap.size) → wpList P ops Q rest (a.put o.dst v') w') : wpList P ops Q (o :: rest) a w :=
  wpList_plain hgd fun _ hK => wp_append_own2 s x t ho base e i z size bytes ht hi hz hsize hby hzs hsz v n xs hs hown ad m c news hx hl hnews h1 h63 hbytes hbase hm fun v' w' h2 h3 h4 => hK _ _ (h v' w' h2 h3 h4)
theorem Chg.of_grown {w w' : World} {row : Option Nat} (hg : w.grownBy w' row) : Chg (fun b => row = some b) w w' := ⟨hg.os, hg.tape, hg.output, hg.size, fun k hk hx => hg.block k hk (fun e => hx e.symm)⟩
theorem ownsRow_chgB {X : Nat → Prop} {w w' : World} {base size n : Nat} {e : TypeId} {v : Value} {xs : List Value} (h : w.ownsRow base e size v n xs) (hc : Chg X w w') (hne : ∀ b, v.ownBlock = some b → ¬ X b) : w'.ownsRow base e size v n xs := by
  refine ⟨h.1, ?_⟩
  rcases h.2 with h2 | ⟨g, cap, cur, rfl, hb, hh, hr⟩
  · exact .inl h2
  · exact .inr ⟨g, cap, cur, rfl, hb, (hc.block g (Array.getElem?_eq_some_iff.1 hh).1 (hne g rfl)).trans hh, hr⟩
end Go.Proofs.YtolhmibejhldkaaGreatDoor
