/- Texts joined: TabKeys TabFun TabNone. No condition but those that stand within. -/
import Derived.Test.YtolhmibejhldkaaGreatDoorPkSwar
import Derived.Test.YtolhmibejhldkaaGreatDoorPkMeter
import Derived.Test.YtolhmibejhldkaaGreatDoorPkErrs
import Derived.Test.YtolhmibejhldkaaGreatDoorPkGroup
import Derived.Test.YtolhmibejhldkaaGreatDoorPkTab
set_option linter.unusedVariables false
set_option linter.unusedSimpArgs false
namespace Go.Proofs.YtolhmibejhldkaaGreatDoor
open Go.RowKit Go.Proofs
def keyI (a : Int) (n : Nat) : Nat := (IntKind.u64.wrap a % (n : Int)).toNat
theorem wrap_u64_bd (a : Int) : 0 ≤ IntKind.u64.wrap a ∧ IntKind.u64.wrap a < 18446744073709551616 := by
  rw [IntKind.wrap_u64]; omega
theorem keyI_lt (a : Int) (n : Nat) (hn : 1 ≤ n) : keyI a n < n := by
  unfold keyI
  have h1 := Int.emod_lt_of_pos (IntKind.u64.wrap a) (show (0 : Int) < n by omega)
  have h2 := Int.emod_nonneg (IntKind.u64.wrap a) (show (n : Int) ≠ 0 by omega)
  omega
end Go.Proofs.YtolhmibejhldkaaGreatDoor

namespace Go.Proofs.YtolhmibejhldkaaGreatDoor
open Go.RowKit Go.Proofs
theorem tri_on : ∀ g : Fin 7, ∀ t : Fin 64, t.val < 2 ^ g.val → ∃ j : Fin 64, j.val < 2 ^ g.val ∧ (j.val * (j.val + 1) / 2) % 2 ^ g.val = t.val := by decide +kernel
theorem walkAt_on {h g t : Nat} (hr : rightB (g : Int) = true) (ht : t < g) : ∃ j, j < g ∧ walkAt h g j = t := by
  obtain ⟨p, hp, rfl⟩ := right_pow hr
  have h64 : (2 : Nat) ^ p ≤ 64 := by have := Nat.pow_le_pow_right (show 0 < 2 by decide) hp; simpa using this
  have hpos : 0 < 2 ^ p := Nat.pos_of_ne_zero (by simp)
  have hlt : (t + 2 ^ p - h % 2 ^ p) % 2 ^ p < 2 ^ p := Nat.mod_lt _ hpos
  obtain ⟨j, hj, hjt⟩ := tri_on ⟨p, by omega⟩ ⟨(t + 2 ^ p - h % 2 ^ p) % 2 ^ p, by omega⟩ hlt
  refine ⟨j.val, hj, ?_⟩
  dsimp only at hjt
  unfold walkAt
  have hm : h % 2 ^ p < 2 ^ p := Nat.mod_lt _ hpos
  rw [Nat.add_mod, hjt]
  generalize 2 ^ p = G at *
  generalize h % G = r at *
  by_cases c : r ≤ t
  · have e1 : (t + G - r) % G = t - r := by rw [show t + G - r = (t - r) + G by omega, Nat.add_mod_right, Nat.mod_eq_of_lt (by omega)]
    rw [e1, show r + (t - r) = t by omega, Nat.mod_eq_of_lt ht]
  · have e1 : (t + G - r) % G = t + G - r := Nat.mod_eq_of_lt (by omega)
    rw [e1, show r + (t + G - r) = t + G by omega, Nat.add_mod_right, Nat.mod_eq_of_lt ht]
structure TabS.At (T : TabS) (i : Int) (g k : Nat) : Prop where
  hg : g < T.n
  hk : k < 8
  full : fullB (T.M g) k = true
  key : (T.S g k).key = i
structure TFun (T : TabS) (H : Int → Nat) : Prop where
  good : TGood T
  hash : ∀ i g k, T.At i g k → (T.S g k).hash = (H i : Int)
  one : ∀ i g k g' k', T.At i g k → T.At i g' k' → g = g' ∧ k = k'
  path : ∀ i g k, T.At i g k → ∃ j, j < T.n ∧ T.wk (H i) j = g ∧ ∀ j', j' < j → openB (T.M (T.wk (H i) j')) = false
  load : T.lv + T.tb ≤ 7 * T.n
theorem TFun.hit {T : TabS} {H : Int → Nat} (hT : TFun T H) {i : Int} {g k : Nat} (ha : T.At i g k) : 0 ≤ T.hit i (H i) g := by
  unfold TabS.hit
  rcases find_cases (T.S g) i (equalB (T.M g) (H i % 128)) with ⟨e, h⟩ | ⟨q, e, -⟩
  · refine absurd ha.key (h k ha.hk ?_)
    obtain ⟨hc, q, hq, hq2, hl⟩ := (hT.good.good g ha.hg).2 k ha.hk
    have h1 := hT.hash i g k ha
    have h2 := hl ((full_iff _ _).1 ha.full)
    unfold equalB
    have : q = H i := by omega
    subst this
    simpa using h2
  · omega
theorem TFun.has_of {T : TabS} {H : Int → Nat} (hT : TFun T H) {i : Int} {g k : Nat} (ha : T.At i g k) : T.has i (H i) = true := by
  obtain ⟨j, hj, hg, hb⟩ := hT.path i g k ha
  have hh := hT.hit ha
  rw [← hg] at hh
  obtain ⟨l1, l2, l3, l4, l5⟩ := lookN_spec (fun j => T.stop i (H i) (T.wk (H i) j)) T.n 0
  have hn := hT.good.bounds
  replace l3 := l3 (by omega)
  have hlk : T.looks i (H i) = lookN (fun j => T.stop i (H i) (T.wk (H i) j)) T.n 0 := rfl
  rw [← hlk] at l2 l3 l4 l5
  unfold TabS.has TabS.atZ TabS.lastG
  rw [decide_eq_true_iff]
  rcases Nat.lt_trichotomy (T.looks i (H i) - 1) j with c | c | c
  · have a := l5 (by omega)
    unfold TabS.stop at a
    simp only [Bool.or_eq_true, decide_eq_true_eq] at a
    rcases a with a | a
    · exact a
    · rw [hb _ c] at a; cases a
  · rw [c]; exact hh
  · have a := l4 j (by omega) (by omega)
    unfold TabS.stop at a
    simp only [Bool.or_eq_false_iff, decide_eq_false_iff_not] at a
    exact absurd hh a.1
theorem TGood.at_of {T : TabS} (hT : TGood T) {i : Int} {h : Nat} (hh : T.has i h = true) : T.At i (T.lastG i h) (T.atZ i h).toNat ∧ T.ent i h = T.S (T.lastG i h) (T.atZ i h).toNat := by
  obtain ⟨k, e1, hk, hg, hf, hkey, -⟩ := hT.at' hh
  refine ⟨⟨hg, by rw [e1]; exact hk, by rw [e1]; exact fullE_true hk hf, by rw [e1]; exact hkey⟩, ?_⟩
  unfold TabS.ent
  rw [if_pos (by omega)]
theorem TFun.has_iff {T : TabS} {H : Int → Nat} (hT : TFun T H) {i : Int} : T.has i (H i) = true ↔ ∃ g k, T.At i g k :=
  ⟨fun h => ⟨_, _, (hT.good.at_of h).1⟩, fun ⟨_, _, h⟩ => hT.has_of h⟩
theorem TFun.ent_of {T : TabS} {H : Int → Nat} (hT : TFun T H) {i : Int} {g k : Nat} (ha : T.At i g k) : T.ent i (H i) = T.S g k := by
  obtain ⟨h1, h2⟩ := hT.good.at_of (hT.has_of ha)
  obtain ⟨e1, e2⟩ := hT.one i _ _ _ _ h1 ha
  rw [h2, e1, e2]
theorem TFun.ent_not {T : TabS} {i : Int} {h : Nat} (hh : T.has i h = false) : T.ent i h = EntS.zero := by
  unfold TabS.ent; rw [if_neg]; unfold TabS.has at hh; simpa using hh
theorem TFun.open' {T : TabS} {H : Int → Nat} (hT : TFun T H) : ∃ g, g < T.n ∧ openB (T.M g) = true := by
  apply Classical.byContradiction
  intro hn
  have h8 : ∀ g, g < T.n → countK (T.M g) 3 + countK (T.M g) 2 = 8 := fun g hg => by
    have h1 : countK (T.M g) 1 = 0 := by
      have : openB (T.M g) = false := by
        cases c : openB (T.M g) with
        | false => rfl
        | true => exact (hn ⟨g, hg, c⟩).elim
      rw [open_count] at this; simpa using this
    have := count_sum (T.M g) (hT.good.good g hg)
    omega
  have e : sumN (fun i => countK (T.M i) 3 + countK (T.M i) 2) T.n = sumN (fun _ => 8) T.n := sumN_congr h8
  rw [sumN_add, sumN_const] at e
  have := hT.load
  have := hT.good.lv
  have := hT.good.tb
  have hb := hT.good.bounds
  unfold TabS.cnt at *
  omega
where
  sumN_const : ∀ {c n : Nat}, sumN (fun _ => c) n = c * n
    | c, 0 => rfl
    | c, n + 1 => by unfold sumN; rw [sumN_const, Nat.mul_succ]
  count_sum (m : Nat) {s : Nat → EntS} (hg : GGood m s) : countK m 1 + countK m 2 + countK m 3 = 8 := by
    unfold countK
    have : ∀ l : List Nat, (∀ i ∈ l, i < 8) → (l.filter (fun i => decide (kindN (ln m i) = 1))).length + (l.filter (fun i => decide (kindN (ln m i) = 2))).length + (l.filter (fun i => decide (kindN (ln m i) = 3))).length = l.length := by
      intro l
      induction l with
      | nil => intro _; rfl
      | cons a l ih =>
        intro h
        have ih := ih (fun i hi => h i (List.mem_cons_of_mem _ hi))
        have ha := (hg.2 a (h a (List.mem_cons_self ..))).1
        have hk : kindN (ln m a) = 1 ∨ kindN (ln m a) = 2 ∨ kindN (ln m a) = 3 := by
          have h1 := kindN_le (ln m a)
          have h2 : kindN (ln m a) ≠ 0 := fun e => by rw [kindN_ctrl] at e; rw [e] at ha; cases ha
          omega
        rw [List.filter_cons, List.filter_cons, List.filter_cons]
        rcases hk with e | e | e <;> rw [e] <;> simp <;> omega
    have := this (List.range 8) (fun i hi => by simpa using hi)
    simpa using this
theorem TFun.free {T : TabS} {H : Int → Nat} (hT : TFun T H) {i : Int} {h : Nat} (hh : T.has i h = false) : 0 ≤ T.frZ i h := by
  obtain ⟨g, hg, ho⟩ := hT.open'
  obtain ⟨j, hj, hw⟩ := walkAt_on (h := h / 128) hT.good.right hg
  obtain ⟨l1, l2, l3, l4, l5⟩ := lookN_spec (fun j => T.stop i h (T.wk h j)) T.n 0
  have hn := hT.good.bounds
  replace l3 := l3 (by omega)
  have hlk : T.looks i h = lookN (fun j => T.stop i h (T.wk h j)) T.n 0 := rfl
  rw [← hlk] at l2 l3 l4 l5
  have hat : ¬ 0 ≤ T.hit i h (T.wk h (T.looks i h - 1)) := by unfold TabS.has TabS.atZ TabS.lastG at hh; simpa using hh
  have hlast : openB (T.M (T.wk h (T.looks i h - 1))) = true := by
    by_cases c : T.looks i h < 0 + T.n
    · have a := l5 c
      unfold TabS.stop at a
      simp only [Bool.or_eq_true, decide_eq_true_eq] at a
      rcases a with a | a
      · exact absurd a hat
      · exact a
    · by_cases c2 : j + 1 < T.looks i h
      · have a := l4 j (by omega) c2
        unfold TabS.stop at a
        simp only [Bool.or_eq_false_iff] at a
        have hw' : T.wk h j = g := hw
        rw [hw', ho] at a; cases a.2
      · have : j = T.looks i h - 1 := by omega
        rw [← this]
        have hw' : T.wk h j = g := hw
        rw [hw']; exact ho
  unfold TabS.frZ TabS.freeJ
  cases c : firstJ (fun j => freeZ (T.M (T.wk h j))) (T.looks i h) with
  | some q => exact (firstJ_some c).2.1
  | none =>
    have a : freeZ (T.M (T.wk h (T.looks i h - 1))) < 0 := firstJ_none c (T.looks i h - 1) (by omega)
    obtain ⟨q, hq, h128⟩ := (open_iff _).1 hlast
    rw [free_scan] at a
    rcases scan_cases (fun s => !fullB (T.M (T.wk h (T.looks i h - 1))) s) with ⟨e, h2⟩ | ⟨k, e, -⟩
    · have b : (!fullB (T.M (T.wk h (T.looks i h - 1))) q) = false := h2 q hq
      have : fullB (T.M (T.wk h (T.looks i h - 1))) q = false := (full_not _ _).2 (by omega)
      rw [this] at b; cases b
    · rw [e] at a; omega
theorem at_ins {T : TabS} {g k : Nat} (hg : g < T.n) (hk : k < 8) (e : EntS) (h : Nat) (i : Int) (g' k' : Nat) :
    (T.ins g k e h).At i g' k' ↔ if g' = g ∧ k' = k then e.key = i else T.At i g' k' := by
  have hq : h % 128 < 128 := Nat.mod_lt _ (by decide)
  by_cases eg : g' = g
  · subst eg
    have hM : (T.ins g' k e h).M g' = setL (T.M g') k (h % 128) := upd_same _ _ _
    have hS : (T.ins g' k e h).S g' = putS (T.S g') k e := upd_same _ _ _
    by_cases ek : k' = k
    · subst ek
      rw [if_pos ⟨rfl, rfl⟩]
      constructor
      · intro a; have := a.key; rw [hS] at this; unfold putS at this; rwa [if_pos rfl] at this
      · intro a
        exact ⟨hg, hk, by rw [hM, full_put _ _ _ _ hq hk, if_pos rfl], by rw [hS]; unfold putS; rw [if_pos rfl]; exact a⟩
    · rw [if_neg (fun c => ek c.2)]
      constructor
      · intro a
        refine ⟨hg, a.hk, ?_, ?_⟩
        · have := a.full; rwa [hM, full_put _ _ _ _ hq a.hk, if_neg ek] at this
        · have := a.key; rw [hS] at this; unfold putS at this; rwa [if_neg ek] at this
      · intro a
        exact ⟨hg, a.hk, by rw [hM, full_put _ _ _ _ hq a.hk, if_neg ek]; exact a.full, by rw [hS]; unfold putS; rw [if_neg ek]; exact a.key⟩
  · have hM : (T.ins g k e h).M g' = T.M g' := upd_other _ _ eg
    have hS : (T.ins g k e h).S g' = T.S g' := upd_other _ _ eg
    rw [if_neg (fun c => eg c.1)]
    constructor
    · intro a; exact ⟨a.hg, a.hk, by have := a.full; rwa [hM] at this, by have := a.key; rwa [hS] at this⟩
    · intro a; exact ⟨a.hg, a.hk, by rw [hM]; exact a.full, by rw [hS]; exact a.key⟩
theorem at_era {T : TabS} {g k : Nat} (hg : g < T.n) (hk : k < 8) (i : Int) (g' k' : Nat) :
    (T.era g k).At i g' k' ↔ ¬ (g' = g ∧ k' = k) ∧ T.At i g' k' := by
  by_cases eg : g' = g
  · subst eg
    have hM : (T.era g' k).M g' = setL (T.M g') k (goneN (T.M g')) := upd_same _ _ _
    have hS : (T.era g' k).S g' = putS (T.S g') k EntS.zero := upd_same _ _ _
    by_cases ek : k' = k
    · subst ek
      constructor
      · intro a; have := a.full; rw [hM, full_gone _ _ _ hk, if_pos rfl] at this; cases this
      · rintro ⟨a, -⟩; exact (a ⟨rfl, rfl⟩).elim
    · constructor
      · intro a
        refine ⟨fun c => ek c.2, hg, a.hk, ?_, ?_⟩
        · have := a.full; rwa [hM, full_gone _ _ _ a.hk, if_neg ek] at this
        · have := a.key; rw [hS] at this; unfold putS at this; rwa [if_neg ek] at this
      · rintro ⟨-, a⟩
        exact ⟨hg, a.hk, by rw [hM, full_gone _ _ _ a.hk, if_neg ek]; exact a.full, by rw [hS]; unfold putS; rw [if_neg ek]; exact a.key⟩
  · have hM : (T.era g k).M g' = T.M g' := upd_other _ _ eg
    have hS : (T.era g k).S g' = T.S g' := upd_other _ _ eg
    constructor
    · intro a; exact ⟨fun c => eg c.1, a.hg, a.hk, by have := a.full; rwa [hM] at this, by have := a.key; rwa [hS] at this⟩
    · rintro ⟨-, a⟩; exact ⟨a.hg, a.hk, by rw [hM]; exact a.full, by rw [hS]; exact a.key⟩
theorem setV_S (T : TabS) (g k : Nat) (v : Int) (g' k' : Nat) : (T.setV g k v).S g' k' = if g' = g ∧ k' = k then { T.S g k with val := v } else T.S g' k' := by
  show upd T.S g _ g' k' = _
  unfold upd putS
  by_cases eg : g' = g
  · subst eg
    by_cases ek : k' = k
    · subst ek; simp
    · simp [ek]
  · simp [eg]
theorem at_setV (T : TabS) (g k : Nat) (v : Int) (i : Int) (g' k' : Nat) : (T.setV g k v).At i g' k' ↔ T.At i g' k' := by
  have h : ((T.setV g k v).S g' k').key = (T.S g' k').key := by
    rw [setV_S]; split
    · rename_i c; rw [c.1, c.2]
    · rfl
  constructor
  · intro a; exact ⟨a.hg, a.hk, a.full, by rw [← h]; exact a.key⟩
  · intro a; exact ⟨a.hg, a.hk, a.full, by rw [h]; exact a.key⟩
theorem ins_S (T : TabS) (g k : Nat) (e : EntS) (h g' k' : Nat) : (T.ins g k e h).S g' k' = if g' = g ∧ k' = k then e else T.S g' k' := by
  show upd T.S g _ g' k' = _
  unfold upd putS
  by_cases eg : g' = g
  · subst eg
    by_cases ek : k' = k
    · subst ek; simp
    · simp [ek]
  · simp [eg]
theorem era_S (T : TabS) (g k g' k' : Nat) (hne : ¬ (g' = g ∧ k' = k)) : (T.era g k).S g' k' = T.S g' k' := by
  show upd T.S g _ g' k' = _
  unfold upd putS
  by_cases eg : g' = g
  · subst eg
    by_cases ek : k' = k
    · subst ek; exact (hne ⟨rfl, rfl⟩).elim
    · simp [ek]
  · simp [eg]
theorem ins_open {T : TabS} (g k : Nat) (e : EntS) (h : Nat) {x : Nat} (ho : openB (T.M x) = false) : openB ((T.ins g k e h).M x) = false := by
  by_cases c : x = g
  · subst c; rw [show (T.ins x k e h).M x = setL (T.M x) k (h % 128) from upd_same _ _ _]; exact open_put _ (Nat.mod_lt _ (by decide)) ho
  · rw [show (T.ins g k e h).M x = T.M x from upd_other _ _ c]; exact ho
theorem era_open {T : TabS} (g k : Nat) {x : Nat} (ho : openB (T.M x) = false) : openB ((T.era g k).M x) = false := by
  by_cases c : x = g
  · subst c; rw [show (T.era x k).M x = setL (T.M x) k (goneN (T.M x)) from upd_same _ _ _]; exact open_gone ho
  · rw [show (T.era g k).M x = T.M x from upd_other _ _ c]; exact ho
theorem TFun.setV {T : TabS} {H : Int → Nat} (hT : TFun T H) {g k : Nat} (hg : g < T.n) (v : Int) : TFun (T.setV g k v) H :=
  ⟨hT.good.setV hg v, fun i g' k' a => by
    rw [setV_S]; split
    · rename_i c; rw [← c.1, ← c.2]; exact hT.hash i g' k' ((at_setV ..).1 a)
    · exact hT.hash i g' k' ((at_setV ..).1 a), fun i g1 k1 g2 k2 a b => hT.one i _ _ _ _ ((at_setV ..).1 a) ((at_setV ..).1 b), fun i g' k' a => hT.path i g' k' ((at_setV ..).1 a), hT.load⟩
theorem TFun.era {T : TabS} {H : Int → Nat} (hT : TFun T H) {g k : Nat} (hg : g < T.n) (hk : k < 8) (hf : fullE (T.M g) (k : Int) true = 0) : TFun (T.era g k) H :=
  ⟨hT.good.era hg hk hf, fun i g' k' a => by
    obtain ⟨h1, h2⟩ := (at_era hg hk i g' k').1 a
    rw [era_S T g k g' k' h1]; exact hT.hash i g' k' h2, fun i g1 k1 g2 k2 a b => hT.one i _ _ _ _ ((at_era hg hk ..).1 a).2 ((at_era hg hk ..).1 b).2, fun i g' k' a => by
    obtain ⟨j, h1, h2, h3⟩ := hT.path i g' k' ((at_era hg hk ..).1 a).2
    exact ⟨j, h1, h2, fun j' hj' => era_open g k (h3 j' hj')⟩, by
    show (T.lv - 1) + (if openB (T.M g) = true then T.tb else T.tb + 1) ≤ 7 * T.n
    have := hT.load
    split <;> omega⟩
theorem TFun.ins {T : TabS} {H : Int → Nat} (hT : TFun T H) {i : Int} (v : Int) (hh : H i < 18446744073709551616) (hno : T.has i (H i) = false) {k : Nat} (hz : T.frZ i (H i) = (k : Int)) (hl : 1 ≤ T.left) : TFun (T.ins (T.freeG i (H i)) k ⟨i, v, H i⟩ (H i)) H := by
  obtain ⟨k', e1, hk, hg, hf⟩ := hT.good.free' (key := i) (h := H i) (by omega)
  obtain rfl : k = k' := by omega
  have hnone : ∀ g' k', ¬ T.At i g' k' := fun g' k' a => by rw [hT.has_of a] at hno; cases hno
  refine ⟨hT.good.ins hg hk hf _ _ hh, fun i' g' k' a => ?_, fun i' g1 k1 g2 k2 a b => ?_, fun i' g' k' a => ?_, ?_⟩
  · have := (at_ins hg hk _ _ i' g' k').1 a
    rw [ins_S]
    split at this
    · rename_i c; rw [if_pos c]; dsimp only at this ⊢; rw [this]
    · rename_i c; rw [if_neg c]; exact hT.hash i' g' k' this
  · have h1 := (at_ins hg hk _ _ i' g1 k1).1 a
    have h2 := (at_ins hg hk _ _ i' g2 k2).1 b
    by_cases c1 : g1 = T.freeG i (H i) ∧ k1 = k
    · rw [if_pos c1] at h1
      by_cases c2 : g2 = T.freeG i (H i) ∧ k2 = k
      · exact ⟨c1.1.trans c2.1.symm, c1.2.trans c2.2.symm⟩
      · rw [if_neg c2] at h2; dsimp only at h1; subst h1; exact (hnone _ _ h2).elim
    · rw [if_neg c1] at h1
      by_cases c2 : g2 = T.freeG i (H i) ∧ k2 = k
      · rw [if_pos c2] at h2; dsimp only at h2; subst h2; exact (hnone _ _ h1).elim
      · rw [if_neg c2] at h2; exact hT.one i' _ _ _ _ h1 h2
  · have h1 := (at_ins hg hk _ _ i' g' k').1 a
    by_cases c1 : g' = T.freeG i (H i) ∧ k' = k
    · rw [if_pos c1] at h1; dsimp only at h1; subst h1
      obtain ⟨l1, l2, l3, l4, l5⟩ := lookN_spec (fun j => T.stop i (H i) (T.wk (H i) j)) T.n 0
      have hlk : T.looks i (H i) = lookN (fun j => T.stop i (H i) (T.wk (H i) j)) T.n 0 := rfl
      rw [← hlk] at l2 l4
      rw [c1.1]
      unfold TabS.frZ at hz
      unfold TabS.freeG
      cases c : T.freeJ i (H i) with
      | none => rw [c] at hz; dsimp only at hz; omega
      | some j =>
        obtain ⟨f1, f2, f3⟩ := firstJ_some c
        refine ⟨j, show j < T.n by omega, rfl, fun j' hj' => ins_open _ _ _ _ ?_⟩
        have b := l4 j' (by omega) (by omega)
        unfold TabS.stop at b
        simp only [Bool.or_eq_false_iff] at b
        exact b.2
    · rw [if_neg c1] at h1
      obtain ⟨j, p1, p2, p3⟩ := hT.path i' g' k' h1
      exact ⟨j, p1, p2, fun j' hj' => ins_open _ _ _ _ (p3 j' hj')⟩
  · show (T.lv + 1) + (if ln (T.M (T.freeG i (H i))) k = 254 then T.tb - 1 else T.tb) ≤ 7 * T.n
    unfold TabS.left at hl
    split <;> omega
theorem TFun.new {n : Nat} (hr : rightB (n : Int) = true) (H : Int → Nat) : TFun (TabS.new n) H := by
  have hno : ∀ i g k, ¬ (TabS.new n).At i g k := fun i g k a => by
    have h1 := a.full
    rw [show (TabS.new n).M g = rep 128 from rfl, full_iff, ln_rep 128 k (by decide) a.hk] at h1
    omega
  exact ⟨TGood.new hr, fun i g k a => (hno i g k a).elim, fun i g k _ _ a _ => (hno i g k a).elim, fun i g k a => (hno i g k a).elim, by show (0 : Int) + 0 ≤ _; omega⟩
def TabS.ok (T : TabS) (i : Int) (h : Nat) : Bool := T.has i h || decide (1 ≤ T.left)
theorem TFun.room {T : TabS} {H : Int → Nat} (hT : TFun T H) {i : Int} (hno : T.has i (H i) = false) : T.room i (H i) = decide (1 ≤ T.left) := by
  unfold TabS.room; rw [show decide (0 ≤ T.frZ i (H i)) = true by simpa using hT.free hno, Bool.and_true]
theorem TFun.putB {T : TabS} {H : Int → Nat} (hT : TFun T H) (i : Int) : T.putB i (H i) = (!T.has i (H i) && decide (1 ≤ T.left)) := by
  unfold TabS.putB
  cases c : T.has i (H i) with
  | true => rfl
  | false => rw [hT.room c]
theorem TFun.putN {T : TabS} {H : Int → Nat} (hT : TFun T H) (i : Int) : T.putN i (H i) = if T.ok i (H i) = true then 0 else 2 := by
  unfold TabS.putN TabS.ok
  cases c : T.has i (H i) with
  | true => simp
  | false => rw [hT.room c]; simp
theorem TFun.putT {T : TabS} {H : Int → Nat} (hT : TFun T H) (i v : Int) (hh : H i < 18446744073709551616) : TFun (T.putT i v (H i)) H := by
  unfold TabS.putT
  split
  · rename_i c; exact hT.setV ((hT.good.at_of c).1.hg) v
  · rename_i c
    have c' : T.has i (H i) = false := by simpa using c
    split
    · rename_i d
      rw [hT.room c'] at d
      have hz := hT.free c'
      exact hT.ins v hh c' (k := (T.frZ i (H i)).toNat) (by omega) (by simpa using d)
    · exact hT
theorem TFun.delT {T : TabS} {H : Int → Nat} (hT : TFun T H) (i : Int) (h : Nat) : TFun (T.delT i h) H := by
  unfold TabS.delT
  split
  · rename_i c
    obtain ⟨k, h1, h2, h3, h4, -⟩ := hT.good.at' c
    rw [h1, Int.toNat_natCast]
    exact hT.era h3 h2 h4
  · exact hT
theorem TFun.put_at {T : TabS} {H : Int → Nat} (hT : TFun T H) (i v : Int) (hh : H i < 18446744073709551616) (j : Int) :
    (T.putT i v (H i)).has j (H j) = (if j = i then T.ok i (H i) else T.has j (H j)) ∧ (T.putT i v (H i)).ent j (H j) = (if j = i then (if T.ok i (H i) = true then ⟨i, v, H i⟩ else EntS.zero) else T.ent j (H j)) := by
  have hT' := hT.putT i v hh
  have key : ∀ g k, (T.putT i v (H i)).At j g k → (j ≠ i → T.At j g k ∧ (T.putT i v (H i)).S g k = T.S g k) ∧ (j = i → (T.putT i v (H i)).S g k = ⟨i, v, H i⟩) := by
    intro g k a
    unfold TabS.putT at a ⊢
    split at a
    · rename_i c
      rw [if_pos c]
      have a' := (at_setV ..).1 a
      refine ⟨fun hne => ⟨a', ?_⟩, fun he => ?_⟩
      · rw [setV_S, if_neg]
        rintro ⟨rfl, rfl⟩
        exact hne (a'.key.symm.trans (hT.good.at_of c).1.key)
      · subst he
        obtain ⟨e1, e2⟩ := hT.one j _ _ _ _ a' (hT.good.at_of c).1
        rw [setV_S, if_pos ⟨e1, e2⟩]
        have h1 := (hT.good.at_of c).1.key
        have h2 := hT.hash j _ _ (hT.good.at_of c).1
        generalize T.S (T.lastG j (H j)) (T.atZ j (H j)).toNat = e at *
        obtain ⟨x, y, z⟩ := e
        dsimp only at h1 h2 ⊢
        rw [h1, h2]
    · rename_i c
      rw [if_neg c]
      have c' : T.has i (H i) = false := by simpa using c
      split at a
      · rename_i d
        rw [if_pos d]
        have hz := hT.free c'
        obtain ⟨k0, f1, f2, f3, f4⟩ := hT.good.free' hz
        rw [f1, Int.toNat_natCast] at a ⊢
        have a' := (at_ins f3 f2 _ _ j g k).1 a
        by_cases e : g = T.freeG i (H i) ∧ k = k0
        · rw [if_pos e] at a'; dsimp only at a'; subst a'
          exact ⟨fun h => (h rfl).elim, fun _ => by rw [ins_S, if_pos e]⟩
        · rw [if_neg e] at a'
          refine ⟨fun _ => ⟨a', by rw [ins_S, if_neg e]⟩, fun he => ?_⟩
          subst he; rw [hT.has_of a'] at c'; cases c'
      · rename_i d
        rw [if_neg d]
        exact ⟨fun _ => ⟨a, rfl⟩, fun he => by subst he; rw [hT.has_of a] at c'; cases c'⟩
  have back : ∀ g k, j ≠ i → T.At j g k → (T.putT i v (H i)).At j g k := by
    intro g k hne a
    unfold TabS.putT
    split
    · exact (at_setV ..).2 a
    · rename_i c
      have c' : T.has i (H i) = false := by simpa using c
      split
      · have hz := hT.free c'
        obtain ⟨k0, f1, f2, f3, f4⟩ := hT.good.free' hz
        rw [f1, Int.toNat_natCast]
        refine (at_ins f3 f2 _ _ j g k).2 ?_
        rw [if_neg]
        · exact a
        · rintro ⟨rfl, rfl⟩
          have := a.full
          rw [fullE_false f2 f4] at this; cases this
      · exact a
  have self : T.ok i (H i) = true → ∃ g k, (T.putT i v (H i)).At i g k := by
    intro hok
    unfold TabS.putT
    split
    · rename_i c; exact ⟨_, _, (at_setV ..).2 (hT.good.at_of c).1⟩
    · rename_i c
      have c' : T.has i (H i) = false := by simpa using c
      have d : T.room i (H i) = true := by rw [hT.room c']; unfold TabS.ok at hok; rw [c'] at hok; simpa using hok
      rw [if_pos d]
      obtain ⟨k0, f1, f2, f3, f4⟩ := hT.good.free' (hT.free c')
      rw [f1, Int.toNat_natCast]
      exact ⟨_, _, (at_ins f3 f2 _ _ i _ _).2 (by rw [if_pos ⟨rfl, rfl⟩])⟩
  have notok : T.ok i (H i) = false → T.putT i v (H i) = T ∧ T.has i (H i) = false := by
    intro hok
    unfold TabS.ok at hok
    simp only [Bool.or_eq_false_iff] at hok
    unfold TabS.putT
    rw [hok.1, if_neg Bool.false_ne_true, hT.room hok.1, hok.2, if_neg Bool.false_ne_true]
    exact ⟨rfl, rfl⟩
  by_cases hji : j = i
  · subst hji
    rw [if_pos rfl, if_pos rfl]
    cases hok : T.ok j (H j) with
    | true =>
      obtain ⟨g, k, a⟩ := self hok
      exact ⟨hT'.has_of a, by rw [hT'.ent_of a, (key g k a).2 rfl, if_pos rfl]⟩
    | false =>
      obtain ⟨e1, e2⟩ := notok hok
      rw [e1]
      exact ⟨e2, by rw [if_neg Bool.false_ne_true]; exact TFun.ent_not e2⟩
  · rw [if_neg hji, if_neg hji]
    cases hb : T.has j (H j) with
    | true =>
      obtain ⟨g, k, a⟩ := hT.has_iff.1 hb
      have a' := back g k hji a
      exact ⟨hT'.has_of a', by rw [hT'.ent_of a', hT.ent_of a, ((key g k a').1 hji).2]⟩
    | false =>
      have : (T.putT i v (H i)).has j (H j) = false := by
        cases hc : (T.putT i v (H i)).has j (H j) with
        | false => rfl
        | true =>
          obtain ⟨g, k, a⟩ := hT'.has_iff.1 hc
          rw [hT.has_of ((key g k a).1 hji).1] at hb; cases hb
      exact ⟨this, by rw [TFun.ent_not this, TFun.ent_not hb]⟩
theorem TFun.del_at {T : TabS} {H : Int → Nat} (hT : TFun T H) (i j : Int) :
    (T.delT i (H i)).has j (H j) = (if j = i then false else T.has j (H j)) ∧ (T.delT i (H i)).ent j (H j) = (if j = i then EntS.zero else T.ent j (H j)) := by
  have hT' := hT.delT i (H i)
  cases c : T.has i (H i) with
  | false =>
    have e : T.delT i (H i) = T := by unfold TabS.delT; rw [c, if_neg Bool.false_ne_true]
    rw [e]
    by_cases hji : j = i
    · subst hji; rw [if_pos rfl, if_pos rfl]; exact ⟨c, TFun.ent_not c⟩
    · rw [if_neg hji, if_neg hji]; exact ⟨rfl, rfl⟩
  | true =>
    obtain ⟨k0, h1, h2, h3, h4, h5, -⟩ := hT.good.at' c
    have e : T.delT i (H i) = T.era (T.lastG i (H i)) k0 := by unfold TabS.delT; rw [c, if_pos rfl, h1, Int.toNat_natCast]
    have hAt : T.At i (T.lastG i (H i)) k0 := ⟨h3, h2, fullE_true h2 h4, h5⟩
    rw [e] at hT' ⊢
    by_cases hji : j = i
    · subst hji
      rw [if_pos rfl, if_pos rfl]
      have : (T.era (T.lastG j (H j)) k0).has j (H j) = false := by
        cases hc : (T.era (T.lastG j (H j)) k0).has j (H j) with
        | false => rfl
        | true =>
          obtain ⟨g, k, a⟩ := hT'.has_iff.1 hc
          obtain ⟨a1, a2⟩ := (at_era h3 h2 j g k).1 a
          exact (a1 (hT.one j _ _ _ _ a2 hAt)).elim
      exact ⟨this, TFun.ent_not this⟩
    · rw [if_neg hji, if_neg hji]
      cases hb : T.has j (H j) with
      | true =>
        obtain ⟨g, k, a⟩ := hT.has_iff.1 hb
        have hne : ¬ (g = T.lastG i (H i) ∧ k = k0) := by
          rintro ⟨rfl, rfl⟩; exact hji (a.key.symm.trans h5)
        have a' := (at_era h3 h2 j g k).2 ⟨hne, a⟩
        exact ⟨hT'.has_of a', by rw [hT'.ent_of a', hT.ent_of a, era_S _ _ _ _ _ hne]⟩
      | false =>
        have : (T.era (T.lastG i (H i)) k0).has j (H j) = false := by
          cases hc : (T.era (T.lastG i (H i)) k0).has j (H j) with
          | false => rfl
          | true =>
            obtain ⟨g, k, a⟩ := hT'.has_iff.1 hc
            rw [hT.has_of ((at_era h3 h2 j g k).1 a).2] at hb; cases hb
        exact ⟨this, by rw [TFun.ent_not this, TFun.ent_not hb]⟩
theorem TFun.put_lv {T : TabS} {H : Int → Nat} (hT : TFun T H) (i v : Int) : (T.putT i v (H i)).lv = T.lv + (if T.putB i (H i) = true then 1 else 0) ∧ (T.putT i v (H i)).left ≤ T.left + 1 := by
  unfold TabS.putT TabS.putB
  cases c : T.has i (H i) with
  | true => rw [if_pos rfl]; exact ⟨by show T.lv = _; simp, by show T.left ≤ _; omega⟩
  | false =>
    rw [if_neg Bool.false_ne_true]
    cases d : T.room i (H i) with
    | true =>
      rw [if_pos rfl]
      refine ⟨by show T.lv + 1 = _; simp, ?_⟩
      show 7 * (T.n : Int) - (T.lv + 1) - (if ln _ _ = 254 then T.tb - 1 else T.tb) ≤ 7 * (T.n : Int) - T.lv - T.tb + 1
      split <;> omega
    | false => rw [if_neg Bool.false_ne_true]; exact ⟨by simp, by omega⟩
theorem del_lv (T : TabS) (i : Int) (h : Nat) : (T.delT i h).lv = T.lv - (if T.has i h = true then 1 else 0) := by
  unfold TabS.delT
  split
  · rfl
  · simp
end Go.Proofs.YtolhmibejhldkaaGreatDoor

namespace Go.Proofs.YtolhmibejhldkaaGreatDoor
open Go.RowKit Go.Proofs
abbrev TN (w : World) (B Q : Nat) (T : TabS) (E : Nat → Addr) (w0 : World) : Prop := TMW w B Q none T MeterS.zero E w0
section
variable {w w' w0 : World} {B Q C R : Nat} {T T' : TabS} {E : Nat → Addr}
theorem TN.other (h : TN w C R T E w0) (hc : Chg (fun b => b = B ∨ b = Q) w w') (hB : w0.heap.size ≤ B) (hQ : w0.heap.size ≤ Q) (h1 : C ≠ B) (h2 : C ≠ Q) (h3 : R ≠ B) (h4 : R ≠ Q) : TN w' C R T E w0 :=
  TMW.chg h hc (by rintro b (rfl | rfl) <;> assumption) (by rintro (e | e) <;> omega) (by rintro (e | e) <;> omega) (fun b e => by cases e)
theorem TN.find (hS : TN w B Q T E w0) (key : Int) (h : Nat) (hh : h < 18446744073709551616) :
    Calls Tryz.prog 58 #[.pointer (some ⟨B, 0, none⟩), .agg #[.pointer none, .int .i64 0, .int .i64 0, .int .i64 0], .int .u64 key, .int .u64 (h : Int)] w fun e w' =>
      e = .returned (.tuple #[.agg #[.int .u64 (T.ent key h).key, .int .u64 (T.ent key h).val, .int .u64 (T.ent key h).hash], .bool (T.has key h)]) ∧ Below w.heap.size w w' := by
  refine (TMW.find hS key h hh none LensAt.n 0 0 0).mono ?_
  rintro e w' ⟨rfl, -, h2⟩
  exact ⟨rfl, Below.of_chg (h2.mono (fun i _ e => by cases e))⟩
theorem TN.put (hS : TN w B Q T E w0) (key v : Int) (h : Nat) (hh : h < 18446744073709551616) :
    Calls Tryz.prog 154 #[.pointer (some ⟨B, 0, none⟩), .agg #[.pointer none, .int .i64 0, .int .i64 0, .int .i64 0], .agg #[.int .u64 key, .int .u64 v, .int .u64 (h : Int)]] w fun e w' =>
      e = .returned (.tuple #[.bool (T.putB key h), errN E (T.putN key h)]) ∧ TN w' B Q (T.putT key v h) E w0 ∧ Chg (fun b => b = B ∨ b = Q) w w' := by
  refine (TMW.put hS key v h hh none LensAt.n 0 0 0).mono ?_
  rintro e w' ⟨rfl, h1, h2⟩
  exact ⟨rfl, h1.unmeter, h2.mono (fun i _ e => by
    rcases e with e | e
    · cases e
    · exact e)⟩
theorem TN.del (hS : TN w B Q T E w0) (key : Int) (h : Nat) (hh : h < 18446744073709551616) :
    Calls Tryz.prog 41 #[.pointer (some ⟨B, 0, none⟩), .agg #[.pointer none, .int .i64 0, .int .i64 0, .int .i64 0], .int .u64 key, .int .u64 (h : Int)] w fun e w' =>
      e = .returned (.tuple #[.agg #[.int .u64 (T.ent key h).key, .int .u64 (T.ent key h).val, .int .u64 (T.ent key h).hash], .bool (T.has key h)]) ∧ TN w' B Q (T.delT key h) E w0 ∧ Chg (fun b => b = B ∨ b = Q) w w' := by
  refine (TMW.del hS key h hh none LensAt.n 0 0 0).mono ?_
  rintro e w' ⟨rfl, h1, h2⟩
  exact ⟨rfl, h1.unmeter, h2.mono (fun i _ e => by
    rcases e with e | e
    · cases e
    · exact e)⟩
end
def hashH (n : Nat) (G : Nat → Nat) (i : Int) : Nat := if 0 ≤ i ∧ i < n then G i.toNat else G 0
theorem hashH_in {n : Nat} {G : Nat → Nat} {x : Nat} (hx : x < n) : hashH n G (x : Int) = G x := by unfold hashH; rw [if_pos ⟨by omega, by omega⟩, Int.toNat_natCast]
theorem hashH_lt {n : Nat} {G : Nat → Nat} (h1 : 1 ≤ n) (hG : ∀ i, i < n → G i < 18446744073709551616) (i : Int) : hashH n G i < 18446744073709551616 := by
  unfold hashH; split
  · exact hG _ (by omega)
  · exact hG _ (by omega)
def TOnly (T : TabS) (H : Int → Nat) (n : Nat) : Prop := ∀ j : Int, ¬ (0 ≤ j ∧ j < n) → T.has j (H j) = false
theorem TOnly.put {T : TabS} {H : Int → Nat} {n x : Nat} (h : TOnly T H n) (hT : TFun T H) (hx : x < n) (v : Int) (hh : H x < 18446744073709551616) : TOnly (T.putT x v (H x)) H n := fun j hj => by
  rw [(hT.put_at x v hh j).1, if_neg (by omega)]; exact h j hj
theorem TOnly.del {T : TabS} {H : Int → Nat} {n x : Nat} (h : TOnly T H n) (hT : TFun T H) (hx : x < n) : TOnly (T.delT x (H x)) H n := fun j hj => by
  rw [(hT.del_at x j).1, if_neg (by omega)]; exact h j hj
theorem TOnly.new (g : Nat) (H : Int → Nat) (n : Nat) (hr : rightB (g : Int) = true) : TOnly (TabS.new g) H n := fun j _ => by
  cases c : (TabS.new g).has j (H j) with
  | false => rfl
  | true =>
    obtain ⟨a, -⟩ := (TGood.new hr).at_of c
    have h1 := a.full
    rw [show (TabS.new g).M ((TabS.new g).lastG j (H j)) = rep 128 from rfl, full_iff, ln_rep 128 _ (by decide) a.hk] at h1
    omega
theorem hashes_of {w0 : World} {v : Value} {n : Nat} {f : Nat → Nat → Int} (h : RowsAt w0 v n 1 .u64 f) (hn : 1 ≤ n) : ∃ (b off cap : Nat) (G : Nat → Nat), v = .slice (some ⟨b, off, none⟩) n cap ∧ b < w0.heap.size ∧ (∀ i, i < n → G i < 18446744073709551616) ∧
    ∀ w', Below w0.heap.size w0 w' → ∀ i, i < n → w'.cell? ⟨b, off + i, none⟩ = some (.int .u64 (G i : Int)) := by
  obtain ⟨a, cap, rfl, hx⟩ := h.cellAt (by decide)
  obtain ⟨b, off, rfl, hb, hc⟩ := hx (by omega)
  refine ⟨b, off, cap, fun i => (f i 0).toNat, rfl, hb, fun i hi => ?_, fun w' hw i hi => ?_⟩
  · obtain ⟨m, hm, e⟩ := u64_of (h.2.1 i hi 0 (by decide)); dsimp only; rw [e, Int.toNat_natCast]; exact hm
  · obtain ⟨m, hm, e⟩ := u64_of (h.2.1 i hi 0 (by decide))
    have := hc w' hw i hi 0 (by decide)
    simp only [Nat.mul_one, Nat.add_zero] at this
    dsimp only
    rw [this, e, Int.toNat_natCast]
end Go.Proofs.YtolhmibejhldkaaGreatDoor
