/- Texts joined: TV. No condition but those that stand within. -/
import Derived.Test.YtolhmibejhldkaaGreatDoorPkSwar
import Derived.Test.YtolhmibejhldkaaGreatDoorPkMeter
import Derived.Test.YtolhmibejhldkaaGreatDoorPkErrs
import Derived.Test.YtolhmibejhldkaaGreatDoorPkGroup
import Derived.Test.YtolhmibejhldkaaGreatDoorPkTab
import Derived.Test.YtolhmibejhldkaaGreatDoorPkTab2
import Derived.Test.YtolhmibejhldkaaGreatDoorPkTab3
import Derived.Test.YtolhmibejhldkaaGreatDoorPkTab4
import Derived.Test.YtolhmibejhldkaaGreatDoorPkTake
import Derived.Test.YtolhmibejhldkaaGreatDoorPkTabM
import Derived.Test.YtolhmibejhldkaaGreatDoorPkBuild
import Derived.Test.YtolhmibejhldkaaGreatDoorPkEvac
import Derived.Test.YtolhmibejhldkaaGreatDoorPkRef09
import Derived.Test.YtolhmibejhldkaaGreatDoorPkEvac2
import Derived.Test.YtolhmibejhldkaaGreatDoorPkActs
import Derived.Test.YtolhmibejhldkaaGreatDoorPkDual1
import Derived.Test.YtolhmibejhldkaaGreatDoorPkDual2
import Derived.Test.YtolhmibejhldkaaGreatDoorPkDual3
set_option linter.unusedVariables false
set_option linter.unusedSimpArgs false
namespace Go.Proofs.YtolhmibejhldkaaGreatDoor
open Go.RowKit Go.Proofs
structure TV (w : World) (VB VU n : Nat) (th : Nat → Bool) (va : Nat → Int) : Prop where
  b : Blk w VB 4 (arrV n (fun i => .bool (th i)))
  u : Blk w VU 38 (arrV n (fun i => .int .u64 (va i)))
  ne : VB ≠ VU
theorem TV.later {w w' : World} {VB VU n : Nat} {th : Nat → Bool} {va : Nat → Int} (h : TV w VB VU n th va) (hb : Below w.heap.size w w') : TV w' VB VU n th va := ⟨h.b.below hb h.b.lt, h.u.below hb h.u.lt, h.ne⟩
theorem TV.chg {X : Nat → Prop} {w w' : World} {VB VU n : Nat} {th : Nat → Bool} {va : Nat → Int} (h : TV w VB VU n th va) (hc : Chg X w w') (h1 : ¬ X VB) (h2 : ¬ X VU) : TV w' VB VU n th va := ⟨h.b.chg hc h1, h.u.chg hc h2, h.ne⟩
theorem TV.setB {w : World} {VB VU n : Nat} {th : Nat → Bool} {va : Nat → Int} (h : TV w VB VU n th va) {x : Nat} (hx : x < n) (t : Bool) : TV (w.setCell ⟨VB, x, none⟩ (.bool t)) VB VU n (upd th x t) va := by
  refine ⟨?_, h.u.other (fun e => h.ne e.symm) _ _, h.ne⟩
  have := h.b.set x (.bool t)
  rw [arrV_set _ _ _ _ hx] at this
  rw [arrV_congr (F' := fun j => if j = x then .bool t else .bool (th j)) (fun j _ => by unfold upd; split <;> rfl)]
  exact this
theorem TV.setU {w : World} {VB VU n : Nat} {th : Nat → Bool} {va : Nat → Int} (h : TV w VB VU n th va) {x : Nat} (hx : x < n) (v : Int) : TV (w.setCell ⟨VU, x, none⟩ (.int .u64 v)) VB VU n th (upd va x v) := by
  refine ⟨h.b.other h.ne _ _, ?_, h.ne⟩
  have := h.u.set x (.int .u64 v)
  rw [arrV_set _ _ _ _ hx] at this
  rw [arrV_congr (F' := fun j => if j = x then .int .u64 v else .int .u64 (va j)) (fun j _ => by unfold upd; split <;> rfl)]
  exact this
theorem TV.cells {w : World} {VB VU n : Nat} {th : Nat → Bool} {va : Nat → Int} (h : TV w VB VU n th va) {x : Nat} (hx : x < n) : w.cell? ⟨VB, x, none⟩ = some (.bool (th x)) ∧ w.cell? ⟨VU, x, none⟩ = some (.int .u64 (va x)) :=
  ⟨(h.b.cell x).trans (arrV_get _ _ _ hx), (h.u.cell x).trans (arrV_get _ _ _ hx)⟩
def TSay (T : TabS) (H : Int → Nat) (n : Nat) (th : Nat → Bool) (va : Nat → Int) : Prop := ∀ x, x < n → th x = T.has (x : Int) (H x) ∧ (th x = true → va x = (T.ent (x : Int) (H x)).val)
theorem TSay.put {T : TabS} {H : Int → Nat} {n x : Nat} {th : Nat → Bool} {va : Nat → Int} (h : TSay T H n th va) (hT : TFun T H) (hx : x < n) (v : Int) (hh : H x < 18446744073709551616) (hok : T.ok x (H x) = true) :
    TSay (T.putT x v (H x)) H n (upd th x true) (upd va x v) := fun y hy => by
  obtain ⟨h1, h2⟩ := hT.put_at x v hh y
  by_cases e : y = x
  · subst e
    rw [if_pos rfl] at h1 h2
    rw [hok] at h1 h2
    rw [h1, h2, upd_same, upd_same, if_pos rfl]; exact ⟨rfl, fun _ => rfl⟩
  · rw [if_neg (by omega)] at h1 h2
    rw [h1, h2, upd_other _ _ e, upd_other _ _ e]; exact h y hy
theorem TSay.del {T : TabS} {H : Int → Nat} {n x : Nat} {th : Nat → Bool} {va : Nat → Int} (h : TSay T H n th va) (hT : TFun T H) : TSay (T.delT x (H x)) H n (upd th x false) va := fun y hy => by
  obtain ⟨h1, h2⟩ := hT.del_at x y
  by_cases e : y = x
  · subst e
    rw [if_pos rfl] at h1 h2
    rw [h1, upd_same]; exact ⟨rfl, fun c => by cases c⟩
  · rw [if_neg (by omega)] at h1 h2
    rw [h1, h2, upd_other _ _ e]; exact h y hy
theorem TSay.new {g n : Nat} {H : Int → Nat} : TSay (TabS.new g) H n (fun _ => false) (fun _ => 0) := fun y hy => by
  refine ⟨?_, fun c => by cases c⟩
  unfold TabS.has TabS.atZ TabS.hit TabS.new
  dsimp only
  rcases find_cases (fun _ => EntS.zero) (y : Int) (equalB (rep 128) (H y % 128)) with ⟨e, -⟩ | ⟨k, -, hk, hf, -⟩
  · rw [e]; decide
  · unfold equalB at hf
    rw [ln_rep 128 k (by decide) hk] at hf
    have : H y % 128 < 128 := Nat.mod_lt _ (by decide)
    simp at hf; omega
end Go.Proofs.YtolhmibejhldkaaGreatDoor
