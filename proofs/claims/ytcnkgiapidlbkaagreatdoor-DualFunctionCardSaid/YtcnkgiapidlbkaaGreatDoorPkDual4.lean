/- Texts joined: TV DualFunQ. No condition but those that stand within. -/
import Derived.Test.YtcnkgiapidlbkaaGreatDoorPkSwar
import Derived.Test.YtcnkgiapidlbkaaGreatDoorPkMeter
import Derived.Test.YtcnkgiapidlbkaaGreatDoorPkErrs
import Derived.Test.YtcnkgiapidlbkaaGreatDoorPkGroup
import Derived.Test.YtcnkgiapidlbkaaGreatDoorPkTab
import Derived.Test.YtcnkgiapidlbkaaGreatDoorPkTab2
import Derived.Test.YtcnkgiapidlbkaaGreatDoorPkTab3
import Derived.Test.YtcnkgiapidlbkaaGreatDoorPkTab4
import Derived.Test.YtcnkgiapidlbkaaGreatDoorPkTake
import Derived.Test.YtcnkgiapidlbkaaGreatDoorPkTabM
import Derived.Test.YtcnkgiapidlbkaaGreatDoorPkBuild
import Derived.Test.YtcnkgiapidlbkaaGreatDoorPkEvac
import Derived.Test.YtcnkgiapidlbkaaGreatDoorPkSound
import Derived.Test.YtcnkgiapidlbkaaGreatDoorPkRef09
import Derived.Test.YtcnkgiapidlbkaaGreatDoorPkEvac2
import Derived.Test.YtcnkgiapidlbkaaGreatDoorPkSound2
import Derived.Test.YtcnkgiapidlbkaaGreatDoorPkActs
import Derived.Test.YtcnkgiapidlbkaaGreatDoorPkDual1
import Derived.Test.YtcnkgiapidlbkaaGreatDoorPkDual2
import Derived.Test.YtcnkgiapidlbkaaGreatDoorPkDual3
set_option linter.unusedVariables false
set_option linter.unusedSimpArgs false
namespace Go.Proofs.YtcnkgiapidlbkaaGreatDoor
open Go.RowKit Go.Proofs
structure TV (w : World) (VB VU n : Nat) (th : Nat → Bool) (va : Nat → Int) : Prop where
  b : Blk w VB 4 (arrV n (fun i => .bool (th i)))
  u : Blk w VU 39 (arrV n (fun i => .int .u64 (va i)))
  ne : VB ≠ VU
theorem TV.later {w w' : World} {VB VU n : Nat} {th : Nat → Bool} {va : Nat → Int} (h : TV w VB VU n th va) (hb : Below w.heap.size w w') : TV w' VB VU n th va := ⟨h.b.below hb h.b.lt, h.u.below hb h.u.lt, h.ne⟩
theorem TV.chg {X : Nat → Prop} {w w' : World} {VB VU n : Nat} {th : Nat → Bool} {va : Nat → Int} (h : TV w VB VU n th va) (hc : Chg X w w') (h1 : ¬ X VB) (h2 : ¬ X VU) : TV w' VB VU n th va := ⟨h.b.chg hc h1, h.u.chg hc h2, h.ne⟩
theorem TV.setB {w : World} {VB VU n : Nat} {th : Nat → Bool} {va : Nat → Int} (h : TV w VB VU n th va) {x : Nat} (hx : x < n) (t : Bool) : TV (w.setCell ⟨VB, x, none⟩ (.bool t)) VB VU n (upd th x t) va := by
  refine ⟨?_, h.u.other (fun e => h.ne e.symm) _ _, h.ne⟩
  have := h.b.set x (.bool t)
  rw [arrV_set _ _ _ _ hx] at this
  rw [arrV_congr (F' := fun j => if j = x then .bool t else .bool (th j)) (fun j _ => by unfold upd; split <;> rfl)]
  exact this
theorem TV.setU {w : World} {VB VU n : Nat} {th : Nat → Bool} {va : Nat → Int} (h : TV w VB VU n th va) {x : Nat} (hx : x < n) (v : Int) : TV (w.setCell ⟨VU, x, none⟩ (.int .u64 v)) VB VU n th (upd va x v) := by
  refine ⟨h.b.other h.ne _ _, ?_, h.ne⟩
  have := h.u.set x (.int .u64 v)
  rw [arrV_set _ _ _ _ hx] at this
  rw [arrV_congr (F' := fun j => if j = x then .int .u64 v else .int .u64 (va j)) (fun j _ => by unfold upd; split <;> rfl)]
  exact this
theorem TV.cells {w : World} {VB VU n : Nat} {th : Nat → Bool} {va : Nat → Int} (h : TV w VB VU n th va) {x : Nat} (hx : x < n) : w.cell? ⟨VB, x, none⟩ = some (.bool (th x)) ∧ w.cell? ⟨VU, x, none⟩ = some (.int .u64 (va x)) :=
  ⟨(h.b.cell x).trans (arrV_get _ _ _ hx), (h.u.cell x).trans (arrV_get _ _ _ hx)⟩
def TSay (T : TabS) (H : Int → Nat) (n : Nat) (th : Nat → Bool) (va : Nat → Int) : Prop := ∀ x, x < n → th x = T.has (x : Int) (H x) ∧ (th x = true → va x = (T.ent (x : Int) (H x)).val)
theorem TSay.put {T : TabS} {H : Int → Nat} {n x : Nat} {th : Nat → Bool} {va : Nat → Int} (h : TSay T H n th va) (hT : TFun T H) (hx : x < n) (v : Int) (hh : H x < 18446744073709551616) (hok : T.ok x (H x) = true) :
    TSay (T.putT x v (H x)) H n (upd th x true) (upd va x v) := fun y hy => by
  obtain ⟨h1, h2⟩ := hT.put_at x v hh y
  by_cases e : y = x
  · subst e
    rw [if_pos rfl] at h1 h2
    rw [hok] at h1 h2
    rw [h1, h2, upd_same, upd_same, if_pos rfl]; exact ⟨rfl, fun _ => rfl⟩
  · rw [if_neg (by omega)] at h1 h2
    rw [h1, h2, upd_other _ _ e, upd_other _ _ e]; exact h y hy
theorem TSay.putNo {T : TabS} {H : Int → Nat} {n x : Nat} {th : Nat → Bool} {va : Nat → Int} (h : TSay T H n th va) (hT : TFun T H) (v : Int) (hh : H x < 18446744073709551616) (hok : T.ok x (H x) = false) : T.putT x v (H x) = T := by
  unfold TabS.ok at hok
  simp only [Bool.or_eq_false_iff] at hok
  unfold TabS.putT
  rw [hok.1, if_neg Bool.false_ne_true, hT.room hok.1, hok.2, if_neg Bool.false_ne_true]
theorem TSay.del {T : TabS} {H : Int → Nat} {n x : Nat} {th : Nat → Bool} {va : Nat → Int} (h : TSay T H n th va) (hT : TFun T H) : TSay (T.delT x (H x)) H n (upd th x false) va := fun y hy => by
  obtain ⟨h1, h2⟩ := hT.del_at x y
  by_cases e : y = x
  · subst e
    rw [if_pos rfl] at h1 h2
    rw [h1, upd_same]; exact ⟨rfl, fun c => by cases c⟩
  · rw [if_neg (by omega)] at h1 h2
    rw [h1, h2, upd_other _ _ e]; exact h y hy
theorem TSay.new {g n : Nat} {H : Int → Nat} : TSay (TabS.new g) H n (fun _ => false) (fun _ => 0) := fun y hy => by
  refine ⟨?_, fun c => by cases c⟩
  unfold TabS.has TabS.atZ TabS.hit TabS.new
  dsimp only
  rcases find_cases (fun _ => EntS.zero) (y : Int) (equalB (rep 128) (H y % 128)) with ⟨e, -⟩ | ⟨k, -, hk, hf, -⟩
  · rw [e]; decide
  · unfold equalB at hf
    rw [ln_rep 128 k (by decide) hk] at hf
    have : H y % 128 < 128 := Nat.mod_lt _ (by decide)
    simp at hf; omega
end Go.Proofs.YtcnkgiapidlbkaaGreatDoor

namespace Go.Proofs.YtcnkgiapidlbkaaGreatDoor
open Go.RowKit Go.Proofs
structure DuY (s : DuS) (H : Int → Nat) (n g gn : Nat) (m c : Int) (P : Int → Bool) (V : Int → EntS) (th : Nat → Bool) (va : Nat → Int) : Prop where
  k : DuK s H g gn m c P V
  b : ∀ q, P q = true → ∃ x : Nat, x < n ∧ q = x
  t : ∀ x, x < n → th x = P (x : Int) ∧ (th x = true → va x = (V (x : Int)).val)
section
variable {s : DuS} {H : Int → Nat} {n g gn : Nat} {m c : Int} {P : Int → Bool} {V : Int → EntS} {th : Nat → Bool} {va : Nat → Int}
theorem DuY.more {m' : Int} (h : DuY s H n g gn m c P V th va) (hm : m ≤ m') : DuY s H n g gn m' c P V th va := ⟨h.k.more hm, h.b, h.t⟩
theorem DuY.put {x : Nat} (h : DuY s H n g gn m c P V th va) (hx : x < n) (v : Int) (hh : H x < 18446744073709551616) (hok : s.ok x (H x) = true) :
    ∃ c' P' V', DuY (s.put x v (H x) true) H n g gn (m + 1) c' P' V' (upd th x true) (upd va x v) := by
  have h1 := h.k.l.put (x : Int) v hh
  rw [hok, if_pos rfl] at h1
  obtain ⟨e1, e2, -⟩ := put_gn s x v (H x) true
  refine ⟨_, _, _, ⟨h1, by rw [e1, e2]; exact h.k.n⟩, fun q hq => ?_, fun y hy => ?_⟩
  · unfold putP at hq
    split at hq
    · rename_i e; exact ⟨x, hx, e⟩
    · exact h.b q hq
  · unfold putP putV
    by_cases e : y = x
    · subst e; rw [upd_same, upd_same, if_pos rfl, if_pos rfl]; exact ⟨rfl, fun _ => rfl⟩
    · rw [upd_other _ _ e, upd_other _ _ e, if_neg (by omega), if_neg (by omega)]; exact h.t y hy
theorem DuY.putNo {x : Nat} (h : DuY s H n g gn m c P V th va) (v : Int) (hh : H x < 18446744073709551616) (hok : s.ok x (H x) = false) : DuY (s.put x v (H x) true) H n g gn (m + 1) c P V th va := by
  have h1 := h.k.l.put (x : Int) v hh
  rw [hok, Bool.and_false, if_neg Bool.false_ne_true, if_neg Bool.false_ne_true, Int.add_zero] at h1
  have hs : s.has x (H x) = false := by
    unfold DuS.ok at hok
    simp only [Bool.or_eq_false_iff] at hok
    exact hok.1
  have hP : P (x : Int) = false := by rw [← h.k.l.p]; exact hs
  have hV : V (x : Int) = EntS.zero := by
    rw [← h.k.l.e]
    have hs' := hs
    unfold DuS.has at hs'
    simp only [Bool.or_eq_false_iff] at hs'
    unfold DuS.ent
    rw [hs'.1, if_neg Bool.false_ne_true, TFun.ent_not hs'.2]
  have e3 : putP P (x : Int) false = P := by
    funext q; unfold putP; split
    · rename_i e; rw [e, hP]
    · rfl
  have e4 : putV V (x : Int) EntS.zero = V := by
    funext q; unfold putV; split
    · rename_i e; rw [e, hV]
    · rfl
  rw [e3, e4] at h1
  obtain ⟨e1, e2, -⟩ := put_gn s x v (H x) true
  exact ⟨⟨h1, by rw [e1, e2]; exact h.k.n⟩, h.b, h.t⟩
theorem DuY.del {x : Nat} (h : DuY s H n g gn m c P V th va) (hx : x < n) : ∃ c' P' V', DuY (s.del x (H x)) H n g gn m c' P' V' (upd th x false) va := by
  refine ⟨_, _, _, h.k.del (x : Int), fun q hq => ?_, fun y hy => ?_⟩
  · unfold putP at hq
    split at hq
    · cases hq
    · exact h.b q hq
  · unfold putP putV
    by_cases e : y = x
    · subst e; rw [upd_same, if_pos rfl]; exact ⟨rfl, fun c => by cases c⟩
    · rw [upd_other _ _ e, if_neg (by omega), if_neg (by omega)]; exact h.t y hy
theorem DuY.stp (h : DuY s H n g gn m c P V th va) (hHb : ∀ q, H q < 18446744073709551616) (hm : m ≤ 7 * (gn : Int)) : s.evOk ∧ DuY s.stp H n g gn m c P V th va ∧ s.stp.left = s.left - 1 := by
  obtain ⟨h1, h2, h3⟩ := h.k.stp hHb hm
  exact ⟨h1, ⟨h2, h.b, h.t⟩, h3⟩
theorem DuY.new {k d : Nat} {T : TabS} (hk : k = 1 ∨ (k = 2 ∧ d ≤ 15)) (hrn : rightB (gn : Int) = true) (hT : TFun T H) (hn : T.n = g) (hm : T.lv + T.tb ≤ m) (hb : ∀ q, T.has q (H q) = true → ∃ x : Nat, x < n ∧ q = x) (hy : TSay T H n th va) :
    ∃ c P V, DuY (DuS.newS k d gn T) H n g gn m c P V th va := ⟨_, _, _, ⟨DuL.new hk hrn hT hm, rfl, hn⟩, hb, hy⟩
theorem only_put {T : TabS} {x : Nat} (hT : TFun T H) (hb : ∀ q, T.has q (H q) = true → ∃ x : Nat, x < n ∧ q = x) (hx : x < n) (v : Int) (hh : H x < 18446744073709551616) : ∀ q, (T.putT x v (H x)).has q (H q) = true → ∃ x : Nat, x < n ∧ q = x := fun q hq => by
  rw [(hT.put_at x v hh q).1] at hq
  split at hq
  · rename_i e; exact ⟨x, hx, e⟩
  · exact hb q hq
theorem DuY.room (h : DuY s H n g gn m c P V th va) (hm : m < 7 * (gn : Int)) (hb : s.bare = 0) (q : Int) : s.ok q (H q) = true := h.k.l.okm (by rw [h.k.n.1]; exact hm) (fun h0 => by omega) q
theorem DuY.kb (h : DuY s H n g gn m c P V th va) (hn : n ≤ 1000) (hb : s.bare = 0) {i : Nat} (hi : i < s.k) : TFun (s.U i) H ∧ KB (s.U i) := by
  have hF := h.k.l.f.u.f i hi
  refine ⟨hF, fun q g' k' ha => ?_⟩
  have hh := hF.has_of ha
  have hs := h.k.l.f.u.side i hi q hh
  have hP : P q = true := by
    rw [← h.k.l.p, h.k.l.f.has_eq]
    rw [show s.y (H q) = i from hs, hh]; rfl
  obtain ⟨x, hx, rfl⟩ := h.b q hP
  omega
end
end Go.Proofs.YtcnkgiapidlbkaaGreatDoor
