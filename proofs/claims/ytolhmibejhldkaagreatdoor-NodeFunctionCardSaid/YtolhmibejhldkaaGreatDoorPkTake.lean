/- Texts joined: TabTakeP TabTake. No condition but those that stand within. -/
import Derived.Test.YtolhmibejhldkaaGreatDoorPkSwar
import Derived.Test.YtolhmibejhldkaaGreatDoorPkMeter
import Derived.Test.YtolhmibejhldkaaGreatDoorPkErrs
import Derived.Test.YtolhmibejhldkaaGreatDoorPkGroup
import Derived.Test.YtolhmibejhldkaaGreatDoorPkTab
import Derived.Test.YtolhmibejhldkaaGreatDoorPkTab2
import Derived.Test.YtolhmibejhldkaaGreatDoorPkTab3
import Derived.Test.YtolhmibejhldkaaGreatDoorPkTab4
set_option linter.unusedVariables false
set_option linter.unusedSimpArgs false
namespace Go.Proofs.YtolhmibejhldkaaGreatDoor
open Go.RowKit Go.Proofs
def TabS.eraN (T : TabS) (g : Nat) : Nat → TabS
  | 0 => T
  | k + 1 => if fullB (T.M g) k = true then (T.eraN g k).era g k else T.eraN g k
def TabS.takeT (T : TabS) (g : Nat) : TabS := T.eraN g 8
theorem eraN_n (T : TabS) (g : Nat) : ∀ k, (T.eraN g k).n = T.n
  | 0 => rfl
  | k + 1 => by unfold TabS.eraN; split; exact eraN_n T g k; exact eraN_n T g k
theorem eraN_fullB (T : TabS) (g : Nat) : ∀ k i, i < 8 → fullB ((T.eraN g k).M g) i = if i < k then false else fullB (T.M g) i
  | 0, i, _ => by rw [if_neg (by omega)]; rfl
  | k + 1, i, hi => by
    have ih := eraN_fullB T g k i hi
    unfold TabS.eraN
    split
    · rename_i c
      rw [show ((T.eraN g k).era g k).M g = setL ((T.eraN g k).M g) k (goneN ((T.eraN g k).M g)) from upd_same _ _ _, full_gone _ _ _ hi, ih]
      by_cases e : i = k
      · subst e; rw [if_pos rfl, if_pos (by omega)]
      · rw [if_neg e]
        by_cases e2 : i < k
        · rw [if_pos e2, if_pos (by omega)]
        · rw [if_neg e2, if_neg (by omega)]
    · rename_i c
      rw [ih]
      by_cases e : i = k
      · subst e; rw [if_neg (by omega), if_pos (by omega)]; simpa using c
      · by_cases e2 : i < k
        · rw [if_pos e2, if_pos (by omega)]
        · rw [if_neg e2, if_neg (by omega)]
theorem eraN_other (T : TabS) {g g' : Nat} (h : g' ≠ g) : ∀ k, (T.eraN g k).M g' = T.M g' ∧ (T.eraN g k).S g' = T.S g'
  | 0 => ⟨rfl, rfl⟩
  | k + 1 => by
    obtain ⟨h1, h2⟩ := eraN_other T h k
    unfold TabS.eraN
    split
    · exact ⟨(upd_other _ _ h).trans h1, (upd_other _ _ h).trans h2⟩
    · exact ⟨h1, h2⟩
theorem fullE_of {m k : Nat} (hk : k < 8) (h : fullB m k = true) : fullE m (k : Int) true = 0 := by
  rw [fullE_in _ k true hk, if_pos]
  have := (full_iff _ _).1 h
  simp; omega
theorem eraN_fullE {T : TabS} {g k : Nat} (hk : k < 8) (h : fullB (T.M g) k = true) : fullE ((T.eraN g k).M g) (k : Int) true = 0 :=
  fullE_of hk (by rw [eraN_fullB T g k k hk, if_neg (by omega)]; exact h)
theorem TGood.eraN {T : TabS} (hT : TGood T) {g : Nat} (hg : g < T.n) : ∀ k, k ≤ 8 → TGood (T.eraN g k)
  | 0, _ => hT
  | k + 1, h => by
    have ih := hT.eraN hg k (by omega)
    unfold TabS.eraN
    split
    · rename_i c; exact ih.era (by rw [eraN_n]; exact hg) (by omega) (eraN_fullE (by omega) c)
    · exact ih
theorem TFun.eraN {T : TabS} {H : Int → Nat} (hT : TFun T H) {g : Nat} (hg : g < T.n) : ∀ k, k ≤ 8 → TFun (T.eraN g k) H
  | 0, _ => hT
  | k + 1, h => by
    have ih := hT.eraN hg k (by omega)
    unfold TabS.eraN
    split
    · rename_i c; exact ih.era (by rw [eraN_n]; exact hg) (by omega) (eraN_fullE (by omega) c)
    · exact ih
theorem at_eraN {T : TabS} {g : Nat} (hg : g < T.n) (i : Int) (g' k' : Nat) : ∀ k, k ≤ 8 → ((T.eraN g k).At i g' k' ↔ ¬ (g' = g ∧ k' < k) ∧ T.At i g' k')
  | 0, _ => ⟨fun a => ⟨by omega, a⟩, fun a => a.2⟩
  | k + 1, h => by
    have ih := at_eraN hg i g' k' k (by omega)
    unfold TabS.eraN
    split
    · rename_i c
      rw [at_era (by rw [eraN_n]; exact hg) (by omega), ih]
      constructor
      · rintro ⟨h1, h2, h3⟩; exact ⟨by omega, h3⟩
      · rintro ⟨h1, h2⟩; exact ⟨by omega, by omega, h2⟩
    · rename_i c
      rw [ih]
      constructor
      · rintro ⟨h1, h2⟩
        refine ⟨fun e => ?_, h2⟩
        have e2 : k' = k := by omega
        have := h2.full
        rw [e.1, e2] at this; exact c this
      · rintro ⟨h1, h2⟩; exact ⟨by omega, h2⟩
theorem takeT_n (T : TabS) (g : Nat) : (T.takeT g).n = T.n := eraN_n T g 8
theorem TGood.takeT {T : TabS} (hT : TGood T) {g : Nat} (hg : g < T.n) : TGood (T.takeT g) := hT.eraN hg 8 (Nat.le_refl _)
theorem TFun.takeT {T : TabS} {H : Int → Nat} (hT : TFun T H) {g : Nat} (hg : g < T.n) : TFun (T.takeT g) H := hT.eraN hg 8 (Nat.le_refl _)
theorem at_takeT {T : TabS} {g : Nat} (hg : g < T.n) (i : Int) (g' k' : Nat) : (T.takeT g).At i g' k' ↔ g' ≠ g ∧ T.At i g' k' := by
  unfold TabS.takeT
  rw [at_eraN hg i g' k' 8 (Nat.le_refl _)]
  constructor
  · rintro ⟨h1, h2⟩; exact ⟨fun e => h1 ⟨e, h2.hk⟩, h2⟩
  · rintro ⟨h1, h2⟩; exact ⟨fun e => h1 e.1, h2⟩
theorem takeT_other (T : TabS) {g g' : Nat} (h : g' ≠ g) : (T.takeT g).M g' = T.M g' ∧ (T.takeT g).S g' = T.S g' := eraN_other T h 8
theorem eraN_lv (T : TabS) (g : Nat) : ∀ k, (T.eraN g k).lv = T.lv - (((List.range k).filter (fullB (T.M g))).length : Int)
  | 0 => by simp [TabS.eraN]
  | k + 1 => by
    have ih := eraN_lv T g k
    unfold TabS.eraN
    rw [List.range_succ, List.filter_append, List.length_append]
    split
    · rename_i c
      rw [show ((T.eraN g k).era g k).lv = (T.eraN g k).lv - 1 from rfl, ih]
      simp [c]; omega
    · rename_i c
      rw [ih]
      simp [c]
theorem takeT_lv (T : TabS) (g : Nat) : (T.takeT g).lv = T.lv - ((entsL (T.M g) (T.S g)).length : Int) := by
  unfold TabS.takeT entsL
  rw [eraN_lv, List.length_map]; rfl
end Go.Proofs.YtolhmibejhldkaaGreatDoor

namespace Go.Proofs.YtolhmibejhldkaaGreatDoor
open Go.RowKit Go.Proofs
theorem ownsRow_later {w w' : World} {base size n : Nat} {e : TypeId} {v : Value} {xs : List Value} (h : w.ownsRow base e size v n xs) (hg : Below w.heap.size w w') : w'.ownsRow base e size v n xs := by
  refine ⟨h.1, ?_⟩
  rcases h.2 with h' | ⟨g, cap, cur, rfl, hb, hh, hr⟩
  · exact .inl h'
  · exact .inr ⟨g, cap, cur, rfl, hb, (hg.block g (Array.getElem?_eq_some_iff.1 hh).1).trans hh, hr⟩
section
variable {w w' w0 : World} {B Q : Nat} {lp : Option Nat} {T : TabS} {mt : MeterS} {E : Nat → Addr}
theorem TMW.era (hS : TMW w B Q lp T mt E w0) {g k : Nat} (hg : g < T.n) (hk : k < 8) (hf : fullE (T.M g) (k : Int) true = 0) :
    Calls Tryz.prog 138 #[.pointer (some ⟨B, 0, none⟩), .agg #[.pointer (some ⟨Q, g * 25, none⟩), .int .i64 (k : Int)]] w fun e w' =>
      e = .returned .nilIface ∧ TMW w' B Q lp (T.era g k) mt E w0 ∧ Chg (fun b => b = B ∨ b = Q) w w' := by
  refine (terase_ok B Q T hS.good g k hg hk hf E w hS.t (hS.low.sub (by decide)).e).mono ?_
  rintro e w' ⟨rfl, h1, h2⟩
  refine ⟨rfl, hS.full h1 (hS.good.era hg hk hf) (hS.m.chg h2 (fun b e e2 => ?_)) (h2.mono (fun _ _ e => .inr e)), h2⟩
  have := hS.hlp b e
  rcases e2 with e2 | e2
  · exact this.1 e2
  · exact this.2.1 e2
theorem TMW.nl (hS : TMW w B Q lp T mt E w0) : ∀ b, w.heap.size ≤ b → ¬ lp = some b := fun b hb e => by have := (hS.m b e).lt; omega
theorem TMW.look (hS : TMW w B Q lp T mt E w0) (i : Nat) (hi : i < T.n) (q : Option Addr) (hq : LensAt q lp) (x1 y1 z1 : Int) :
    Calls Tryz.prog 181 #[.pointer (some ⟨B, 0, none⟩), .agg #[.pointer q, .int .i64 x1, .int .i64 y1, .int .i64 z1], .int .i64 (i : Int)] w fun e w' =>
      e = .returned (.tuple #[.agg #[.pointer (some ⟨Q, i * 25, none⟩)], .bool true]) ∧ TMW w' B Q lp T (mt.add x1 y1 z1) E w0 ∧ Chg (fun b => lp = some b) w w' := by
  refine (tlook_ok B Q T (by have := hS.good.bounds; omega) i hi q lp hq mt x1 y1 z1 w hS.t hS.m (fun b e => ⟨(hS.m b e).lt, (hS.hlp b e).1⟩)).mono ?_
  rintro e w' ⟨rfl, h1, h2⟩
  exact ⟨rfl, hS.turn h1 h2, h2⟩
theorem TMW.entries (hS : TMW w B Q lp T mt E w0) (i : Nat) (hi : i < T.n) :
    Calls Tryz.prog 129 #[.agg #[.pointer (some ⟨Q, i * 25, none⟩)]] w fun e w' => ∃ v, e = .returned v ∧ w'.ownsRow w.heap.size 46 3 v (entsL (T.M i) (T.S i)).length (entV (entsL (T.M i) (T.S i))) ∧ Below w.heap.size w w' :=
  gentries_any Q (i * 25) (T.M i) (T.S i) (hS.good.m_lt i hi) w (hS.t.at' i hi) hS.low.t
theorem TMW.gat (hS : TMW w B Q lp T mt E w0) (i : Nat) (hi : i < T.n) (k : Int) :
    Calls Tryz.prog 98 #[.agg #[.pointer (some ⟨Q, i * 25, none⟩)], .int .i64 k] w fun e w' => e = .returned (.tuple #[(atS (T.M i) (T.S i) k).val3, .bool (fullE (T.M i) k true == 0)]) ∧ Below w.heap.size w w' :=
  gat_any Q (i * 25) (T.M i) (T.S i) (hS.good.m_lt i hi) k E w (hS.t.at' i hi) (hS.low.sub (by decide)).e
set_option maxRecDepth 100000 in
set_option maxHeartbeats 4000000 in
theorem TMW.take (hS : TMW w B Q lp T mt E w0) (i : Nat) (hi : i < T.n) (q : Option Addr) (hq : LensAt q lp) (x1 y1 z1 : Int) :
    Calls Tryz.prog 152 #[.pointer (some ⟨B, 0, none⟩), .agg #[.pointer q, .int .i64 x1, .int .i64 y1, .int .i64 z1], .int .i64 (i : Int)] w fun e w' =>
      ∃ v, e = .returned (.tuple #[v, .nilIface]) ∧ w'.ownsRow w.heap.size 46 3 v (entsL (T.M i) (T.S i)).length (entV (entsL (T.M i) (T.S i))) ∧ TMW w' B Q lp (T.takeT i) (mt.add x1 y1 z1) E w0 ∧ Chg (fun b => lp = some b ∨ b = B ∨ b = Q) w w' := by
  have HS := Lib.hid hS
  have LK := Lib.hid (fun (w' : World) (h : TMW w' B Q lp T mt E w0) => h.look i hi q hq x1 y1 z1)
  have EN := Lib.hid (fun (w' : World) (mt' : MeterS) (h : TMW w' B Q lp T mt' E w0) => h.entries i hi)
  have NL := Lib.hid hS.nl
  have hlB := hS.ltB
  have hlQ := hS.ltQ
  obtain ⟨l, hl⟩ : ∃ l, l = entsL (T.M i) (T.S i) := ⟨_, rfl⟩
  rw [← hl] at EN ⊢
  clear hS hl
  go_enter Tryz.func152, Tryz.ntmps152
  go_wp2_with (first
    | (go_at_call 181; (with_reducible refine (LK.out _ (HS.out.alloc _)).mono ?_); rintro e w1 ⟨rfl, hs1, hc1⟩; have S1 := Lib.hid (hs1.alloc (.cells #[.pointer (some ⟨Q, i * 25, none⟩)] 96)); have V1 := Blk.new w1 96 #[.pointer (some ⟨Q, i * 25, none⟩)]; have C1 := Lib.hid ((Chg.of_below (show Below w.heap.size w _ by go_grown)).trans hc1); have hz1 := C1.out.size; clear hs1)
    | (go_at_call 129; (with_reducible refine (EN.out _ _ S1.out).mono ?_); rintro e w2 ⟨v, rfl, hr2, hb2⟩; have S2 := Lib.hid (S1.out.later hb2); have R2 := Lib.hid (ownsRow_base hr2 (show w.heap.size ≤ _ from Nat.le_trans hz1 (by simp))); have V2 := Lib.hid (V1.below hb2 V1.lt); have C2 := Lib.hid ((C1.out.alloc (.cells #[.pointer (some ⟨Q, i * 25, none⟩)] 96)).thenBelow hb2); clear hr2 V1))
  obtain ⟨V, hV⟩ : ∃ V, V = w1.heap.size := ⟨_, rfl⟩
  have hwV : w.heap.size ≤ V := by omega
  rw [← hV] at V2
  simp only [← hV]
  clear hV S1 C1 hz1 hb2
  go_loopw [26] (fun v26 wr => ∃ k : Nat, k ≤ 8 ∧ v26 = .int .i64 (k : Int) ∧ TMW wr B Q lp (T.eraN i k) (mt.add x1 y1 z1) E w0 ∧ wr.ownsRow w.heap.size 46 3 v l.length (entV l) ∧ Blk wr V 96 #[.pointer (some ⟨Q, i * 25, none⟩)] ∧ Chg (fun b => lp = some b ∨ b = B ∨ b = Q) w wr) (fun v26 _ => 8 - (intOf v26).toNat)
  case atStart => exact ⟨0, Nat.zero_le _, rfl, S2.out, R2.out, V2.out, C2.out.mono (fun _ _ e => .inl e)⟩
  case round =>
    clear S2 R2 V2 C2
    obtain ⟨k, hk, rfl, hs, hr, hv, hc⟩ := hrel
    have KS := Lib.hid hs
    have KR := Lib.hid hr
    have KC := Lib.hid hc
    have KV := Lib.hid hv
    have v0 := hv.cell 0
    have zV := hv.lt
    clear hs hr hc hv
    by_cases hlt : k < 8
    · have hkI : (k : Int) < 8 := by omega
      have hn : i < (T.eraN i k).n := by rw [eraN_n]; exact hi
      have AT := Lib.hid (fun (w' : World) (h : TMW w' B Q lp (T.eraN i k) (mt.add x1 y1 z1) E w0) => h.gat i hn (k : Int))
      have hfb := eraN_fullB T i k k hlt
      rw [if_neg (by omega)] at hfb
      obtain ⟨at3, hat⟩ : ∃ at3, at3 = (atS ((T.eraN i k).M i) ((T.eraN i k).S i) k) := ⟨_, rfl⟩
      simp only [← hat, EntS.val3] at AT
      clear hat
      cases hf : fullB (T.M i) k with
      | true =>
        have hfe : fullE ((T.eraN i k).M i) (k : Int) true = 0 := fullE_of hlt (hfb.trans hf)
        have hT2 : T.eraN i (k + 1) = (T.eraN i k).era i k := by show (if fullB (T.M i) k = true then _ else _) = _; rw [if_pos hf]
        have ER := Lib.hid (fun (w' : World) (h : TMW w' B Q lp (T.eraN i k) (mt.add x1 y1 z1) E w0) => h.era hn hlt hfe)
        rw [← hT2] at ER
        have e0 : (fullE ((T.eraN i k).M i) (k : Int) true == 0) = true := by simp [hfe]
        rw [e0] at AT
        clear e0 hfe hT2 hf hfb
        go_wp2_with (first
          | (go_at_call 98; (with_reducible refine (AT.out _ KS.out).mono ?_); rintro e w3 ⟨rfl, hb3⟩; have S3 := Lib.hid ((KS.out.later hb3).alloc (.cells #[.int .u64 at3.key, .int .u64 at3.val, .int .u64 at3.hash] 46)); have hV3 := KV.out.below hb3 KV.out.lt; have V3 := Lib.hid (hV3.alloc (.cells #[.int .u64 at3.key, .int .u64 at3.val, .int .u64 at3.hash] 46)); have v30 := hV3.cell 0; have zV3 := hV3.lt; clear hV3)
          | (go_at_call 138; (with_reducible refine (ER.out _ S3.out).mono ?_); rintro e w4 ⟨rfl, hs4, hc4⟩; have S4 := Lib.hid hs4; have C4 := Lib.hid (((KC.out.thenBelow hb3).alloc (.cells #[.int .u64 at3.key, .int .u64 at3.val, .int .u64 at3.hash] 46)).trans (hc4.mono (fun _ _ e => .inr e))); have V4 := Lib.hid (V3.out.chg hc4 (by rintro (e | e) <;> omega)); clear hs4))
        go_roundw
        case rel =>
          refine ⟨k + 1, by omega, by go_num, S4.out, ?_, V4.out, C4.out⟩
          exact ownsRow_chg (ownsRow_later (ownsRow_later KR.out hb3) ((Below.refl _ _).alloc (Nat.le_refl _) _)) hc4 (by rintro b hb (e | e) <;> omega)
        case measure => simp [intOf]; omega
      | false =>
        have hT2 : T.eraN i (k + 1) = T.eraN i k := by show (if fullB (T.M i) k = true then _ else _) = _; rw [if_neg (by rw [hf]; simp)]
        have e0 : (fullE ((T.eraN i k).M i) (k : Int) true == 0) = false := by
          rw [hf] at hfb
          have h2 := (full_not _ _).1 hfb
          rw [fullE_in _ k true hlt]; simp; omega
        rw [e0] at AT
        have HT2 := Lib.hid hT2
        clear e0 hT2 hf hfb
        go_wp2_with (go_at_call 98; (with_reducible refine (AT.out _ KS.out).mono ?_); rintro e w3 ⟨rfl, hb3⟩; have S3 := Lib.hid ((KS.out.later hb3).alloc (.cells #[.int .u64 at3.key, .int .u64 at3.val, .int .u64 at3.hash] 46)); have V3 := Lib.hid ((KV.out.below hb3 KV.out.lt).alloc (.cells #[.int .u64 at3.key, .int .u64 at3.val, .int .u64 at3.hash] 46)))
        go_roundw
        case rel => exact ⟨k + 1, by omega, by go_num, by rw [HT2.out]; exact S3.out, ownsRow_later (ownsRow_later KR.out hb3) ((Below.refl _ _).alloc (Nat.le_refl _) _), V3.out, (KC.out.thenBelow hb3).alloc _⟩
        case measure => simp [intOf]; omega
    · obtain rfl : k = 8 := by omega
      go_wp2
      go_ret2
      exact ⟨v, rfl, KR.out, KS.out, KC.out⟩
end
end Go.Proofs.YtolhmibejhldkaaGreatDoor
