/- Texts joined: CtrlPlain LaidErrs Errs ErrNum ErrsLaid ErrCells Ctrl CtrlText Num Own LaidTail Card LaidInts SwarTab U64 Rows2 RowsK RowsZ. No condition but those that stand within. -/
import Derived.Test.YtolhmibejhldkaaGreatDoorProg
import Derived.LaidEql
import Derived.LaidLaws
import Derived.Below
import Derived.RowKitTokens
import Derived.Stop.Asserts
import Derived.Handy
import Derived.Lib.Hide
import Derived.WalkSmall
import Derived.Lib.SlBytesRow
import Derived.Laws.IdiomStrings
import Derived.OwnWalk
import Derived.LoopTactic
import Derived.IntWalk
import Derived.Maps.AppendAt
import Derived.Test.YtolhmibejhldkaaGreatDoorRows
import Derived.WalkKit
import Derived.ProofKit
import Derived.OpenShut
import Derived.Deep.DeepHandedRow
import Derived.Deep.DeepWitnessRowRef
import Derived.Lib.LaidTab
import Derived.Deep.Slices
import Derived.Deep.Fields
import Derived.ChangeSame
import Derived.ChangeSlices
import Derived.Test.YtolhmibejhldkaaGreatDoorPkSwar
import Derived.Test.YtolhmibejhldkaaGreatDoorPkMeter
set_option linter.unusedVariables false
set_option linter.unusedSimpArgs false
namespace Go.Proofs.YtolhmibejhldkaaGreatDoor
def ctrlB (b : Nat) : Bool := decide (b ≤ 128 ∨ b = 254)
def fullB (m : Nat) (i : Nat) : Bool := !highB m i
theorem fulls_eq (m : Nat) (hm : m < 18446744073709551616) : maskB (highB (18446744073709551615 - m)) = maskB (fullB m) := by
  refine maskB_congr fun i hi => ?_
  unfold fullB highB
  rw [ln_not m i hm hi]
  have := ln_lt m i
  rw [Bool.eq_iff_iff]; simp; omega
theorem maskB_inj {f g : Nat → Bool} (h : maskB f = maskB g) : ∀ i, i < 8 → f i = g i := by
  intro i hi
  have h1 := ln_maskB f i hi
  rw [h, ln_maskB g i hi] at h1
  cases hf : f i <;> cases hg : g i <;> simp_all
def kindN (b : Nat) : Nat := if b = 128 then 1 else if b = 254 then 2 else if b < 128 then 3 else 0
theorem kindN_le (b : Nat) : kindN b ≤ 3 := by unfold kindN; repeat' split
                                               all_goals omega
theorem kindN_ctrl (b : Nat) : kindN b = 0 ↔ ctrlB b = false := by
  unfold kindN ctrlB
  repeat' split
  all_goals simp
  all_goals omega
theorem kind_empty (m i : Nat) : decide (kindN (ln m i) = 1) = equalB m 128 i := by
  unfold kindN equalB
  repeat' split
  all_goals simp_all
theorem kind_deleted (m i : Nat) : decide (kindN (ln m i) = 2) = equalB m 254 i := by
  unfold kindN equalB
  repeat' split
  all_goals simp_all
theorem kind_full (m i : Nat) : decide (kindN (ln m i) = 3) = fullB m i := by
  unfold kindN fullB highB
  repeat' split
  all_goals simp
  all_goals omega
end Go.Proofs.YtolhmibejhldkaaGreatDoor

namespace Go.Proofs.YtolhmibejhldkaaGreatDoor
open Go.RowKit Go.Proofs Go.ChangeShapes Go.WideShapes
theorem cell_spot {W : World} {a : Addr} {v : Value} (h : W.cell? a = some v) : a.spot = none := by
  unfold World.cell? at h
  split at h
  · cases hs : a.spot with
    | none => rfl
    | some x => simp [hs] at h
  · cases h
inductive Pair2 {α β : Type} (R : α → β → Prop) : List α → List β → Prop
  | nil : Pair2 R [] []
  | cons {a : α} {b : β} {l : List α} {m : List β} (h : R a b) (r : Pair2 R l m) : Pair2 R (a :: l) (b :: m)
def IsErrRow (P : Program) (tErr : TypeId) (x : String × DataW Unit) (g : Nat) : Prop :=
  P.globalNamed x.1 = some g ∧ (P.globals[g]?).map (·.type) = some tErr ∧ ∃ text, x.2 = .iface "*errors.errorString" (.ptr (.agg [.lit (.string text)]))
theorem laid_errs {P : Program} {w : World} {tErr tPtr tRec tStr : TypeId} {ms : Array (String × TypeId)} {f : Field}
    (hi : P.underlying tErr = some (.interface ms)) (hrow : ∀ u, P.typeName? 3 u = some "*errors.errorString" → u = tPtr)
    (hp : P.underlying tPtr = some (.pointer tRec)) (he : P.underlying tRec = some (.struct #[f])) (hft : f.type = tStr) (hfo : f.offset = 0) (hs : P.underlying tStr = some .string)
    (hc : P.cellsOf tRec = 1) (hcs : P.cellsOf tStr = 1) :
    ∀ (l : List (String × DataW Unit)) (gs : List Nat) (ps : List MemPlace), DataW.LaidVars P w l ps → Pair2 (IsErrRow P tErr) l gs →
      (∀ b off, MemPlace.cell b off ∈ ps → (∃ c t, w.heap[b]? = some (.cells c t (0, 0))) ∧ ∀ u v, w.cell? ⟨b, off, none⟩ = some (.iface u v) → Value.okWide P w .any 0 u v) →
      ∃ E : List Addr, Pair2 (fun g a => w.cell? ⟨g, 0, none⟩ = some (.iface tPtr (.pointer (some a))) ∧ a.spot = none ∧ ∃ c t, w.heap[a.block]? = some (.cells c t (0, 0))) gs E ∧
        (E.map fun a => MemPlace.cell a.block a.off).Sublist ps := by
  intro l
  induction l with
  | nil =>
    intro gs ps hl hf _
    cases hf
    exact ⟨[], .nil, by simp⟩
  | cons x l ih =>
    intro gs ps hl hf hr
    cases hf with
    | cons hx hf =>
      rename_i g gs
      obtain ⟨n, d⟩ := x
      obtain ⟨g', t, cs, fuel, p, q, hg, ht, hv, hd, hq, rfl⟩ := hl
      obtain ⟨hxg, hxt, text, hxd⟩ := hx
      simp only at hxg hxt hxd
      subst hxd
      obtain rfl := Option.some.inj (hg.symm.trans hxg)
      obtain rfl := Option.some.inj (ht.symm.trans hxt)
      obtain ⟨E, hE, hsub⟩ := ih gs q hq hf (fun b off hm => hr b off (by simp [hm]))
      obtain ⟨lc⟩ := cs
      have hvc := World.var?_cell hg hv 0
      have ok : ∀ u v, lc = [.iface u v] → Value.okWide P w .any 0 u v := fun u v e => by
        subst e
        exact (hr g' 0 (by simp [MemPlace.row])).2 u v (by simpa using hvc)
      obtain ⟨a, s, rfl, hca, hsa, hza, rfl⟩ := errorString_of_trod hi hrow hp he hft hfo hs hc hcs hd ok
      refine ⟨a :: E, .cons ⟨by simpa using hvc, cell_spot hca, ?_⟩ hE, ?_⟩
      · exact (hr a.block a.off (by simp [MemPlace.row])).1
      · have e1 : MemPlace.row a 1 = [MemPlace.cell a.block a.off] := by simp [MemPlace.row]
        rw [e1]
        simp only [List.map_cons, List.append_assoc, List.singleton_append]
        exact (hsub.cons_cons _).trans (List.sublist_append_right _ _)
theorem laid_take {P : Program} {w : World} : ∀ {l : List (String × DataW Unit)} {ps : List MemPlace}, DataW.LaidVars P w l ps → ∀ n : Nat, ∃ ps', DataW.LaidVars P w (l.take n) ps' ∧ ps'.Sublist ps := by
  intro l
  induction l with
  | nil => intro ps h n; exact ⟨[], by simp [DataW.LaidVars], by simp⟩
  | cons x l ih =>
    intro ps h n
    obtain ⟨m, d⟩ := x
    obtain ⟨g, t, cs, fuel, p, q, hg, ht, hv, hd, hq, rfl⟩ := h
    cases n with
    | zero => exact ⟨[], by simp [DataW.LaidVars], by simp⟩
    | succ n =>
      obtain ⟨q', hq', hs⟩ := ih hq n
      exact ⟨MemPlace.row ⟨g, 0, none⟩ cs.size ++ p ++ q', ⟨g, t, cs, fuel, p, q', hg, ht, hv, hd, hq', rfl⟩, hs.append_left _⟩
theorem starErr : "*" ++ "errors.errorString" = "*errors.errorString" := by decide
theorem ptrRow (u : TypeId) (h : Tryz.prog.typeName? 3 u = some "*errors.errorString") : u = 259 :=
  typeName_ptr_named (nm := "errors.errorString") (by rw [starErr]; kernel_rfl) (by kernel_rfl) (by decide) u (by rw [starErr]; exact h)
theorem errs_of {w : World} {l : List (String × DataW Unit)} {gs : List Nat} (n : Nat) (h : laidMet Tryz.prog l w) (hf : Pair2 (IsErrRow Tryz.prog 27) (l.take n) gs) :
    ∃ E : List Addr, Pair2 (fun g a => w.cell? ⟨g, 0, none⟩ = some (.iface 259 (.pointer (some a))) ∧ a.spot = none ∧ ∃ c t, w.heap[a.block]? = some (.cells c t (0, 0))) gs E ∧ E.Nodup := by
  obtain ⟨ps, hl, hnd, hr⟩ := h
  obtain ⟨ps', hl', hs⟩ := laid_take hl n
  obtain ⟨E, hE, hsub⟩ := laid_errs Tryz.underlying27 ptrRow Tryz.underlying259 Tryz.underlying284 rfl rfl Tryz.underlying9 (by kernel_rfl) (by kernel_rfl) _ _ _ hl' hf (fun b off hm => hr b off (hs.subset hm))
  refine ⟨E, hE, ?_⟩
  exact List.Pairwise.of_map (fun a : Addr => MemPlace.cell a.block a.off) (fun a b hab h => hab (by rw [h])) ((hsub.trans hs).nodup hnd)
theorem err_row (P : Program) (tErr : TypeId) (n : String) (text : List UInt8) (g : Nat) (h1 : P.globalNamed n = some g) (h2 : (P.globals[g]?).map (·.type) = some tErr) :
    IsErrRow P tErr (n, .iface "*errors.errorString" (.ptr (.agg [.lit (.string text)]))) g := ⟨h1, h2, text, rfl⟩
end Go.Proofs.YtolhmibejhldkaaGreatDoor

namespace Go.Proofs.YtolhmibejhldkaaGreatDoor
open Go.RowKit Go.Proofs Go.ChangeShapes Go.WideShapes Go.Stop Go.Extern
end Go.Proofs.YtolhmibejhldkaaGreatDoor

namespace Go.Proofs.YtolhmibejhldkaaGreatDoor
open Go.RowKit Go.Proofs
def errAt (E : Nat → Addr) (n : Nat) : Value := .iface 259 (.pointer (some (E n)))
structure ErrsAre (w : World) (E : Nat → Addr) : Prop where
  c1 : w.cell? ⟨0, 0, none⟩ = some (errAt E 1)
  c2 : w.cell? ⟨1, 0, none⟩ = some (errAt E 2)
  c3 : w.cell? ⟨8, 0, none⟩ = some (errAt E 3)
  c4 : w.cell? ⟨5, 0, none⟩ = some (errAt E 4)
  c5 : w.cell? ⟨2, 0, none⟩ = some (errAt E 5)
  c6 : w.cell? ⟨9, 0, none⟩ = some (errAt E 6)
  c7 : w.cell? ⟨10, 0, none⟩ = some (errAt E 7)
  c8 : w.cell? ⟨11, 0, none⟩ = some (errAt E 8)
  c9 : w.cell? ⟨12, 0, none⟩ = some (errAt E 9)
  c10 : w.cell? ⟨4, 0, none⟩ = some (errAt E 10)
  c11 : w.cell? ⟨13, 0, none⟩ = some (errAt E 11)
  c12 : w.cell? ⟨3, 0, none⟩ = some (errAt E 12)
  c13 : w.cell? ⟨14, 0, none⟩ = some (errAt E 13)
  c14 : w.cell? ⟨7, 0, none⟩ = some (errAt E 14)
  c15 : w.cell? ⟨15, 0, none⟩ = some (errAt E 15)
  c16 : w.cell? ⟨6, 0, none⟩ = some (errAt E 16)
  blk : ∀ n, 1 ≤ n → n ≤ 16 → ∃ c t, w.heap[(E n).block]? = some (.cells c t (0, 0))
  apart : ∀ m n, 1 ≤ m → m ≤ 16 → 1 ≤ n → n ≤ 16 → E m = E n → m = n
theorem ErrsAre.below {w w' : World} {E : Nat → Addr} (h : ErrsAre w E) (hb : Below w.heap.size w w') : ErrsAre w' E := by
  have k : ∀ {a : Addr} {v : Value}, w.cell? a = some v → w'.cell? a = some v := fun c => (hb.cell (World.block_lt_of_cell? _ _ c)).trans c
  refine ⟨k h.c1, k h.c2, k h.c3, k h.c4, k h.c5, k h.c6, k h.c7, k h.c8, k h.c9, k h.c10, k h.c11, k h.c12, k h.c13, k h.c14, k h.c15, k h.c16, ?_, h.apart⟩
  intro n h1 h2
  obtain ⟨c, t, hc⟩ := h.blk n h1 h2
  exact ⟨c, t, (hb.block _ (Array.getElem?_eq_some_iff.1 hc).1).trans hc⟩
section laws
variable {P : Program} {ops : Array Oper} {rest : List Oper} {o : Oper} {a : Act} {Q : Exit → Act → World → Prop} {w w' : World} {v : Value}
end laws
end Go.Proofs.YtolhmibejhldkaaGreatDoor

namespace Go.Proofs.YtolhmibejhldkaaGreatDoor
open Go.RowKit Go.Proofs Go.ChangeShapes Go.WideShapes
theorem Pair2.len {α β : Type} {R : α → β → Prop} {l : List α} {m : List β} (h : Pair2 R l m) : l.length = m.length := by
  induction h with
  | nil => rfl
  | cons _ _ ih => simp [ih]
theorem Pair2.get {α β : Type} {R : α → β → Prop} {l : List α} {m : List β} (h : Pair2 R l m) : ∀ (i : Nat) (a : α) (b : β), l[i]? = some a → m[i]? = some b → R a b := by
  induction h with
  | nil => intro i a b h; simp at h
  | cons hh _ ih =>
    intro i a b h1 h2
    cases i with
    | zero => simp at h1 h2; subst h1 h2; exact hh
    | succ i => exact ih i a b (by simpa using h1) (by simpa using h2)
end Go.Proofs.YtolhmibejhldkaaGreatDoor

namespace Go.Proofs.YtolhmibejhldkaaGreatDoor
open Go.RowKit Go.Proofs Go.ChangeShapes Go.WideShapes
def errG (k : Nat) : Nat := match k with
  | 1 => 0 | 2 => 1 | 3 => 8 | 4 => 5 | 5 => 2 | 6 => 9 | 7 => 10 | 8 => 11 | 9 => 12 | 10 => 4 | 11 => 13 | 12 => 3 | 13 => 14 | 14 => 7 | 15 => 15 | _ => 6
def EC (w : World) (E : Nat → Addr) (l : List Nat) : Prop := ∀ k ∈ l, w.cell? ⟨errG k, 0, none⟩ = some (errAt E k)
theorem EC.below {w w' : World} {E : Nat → Addr} {l : List Nat} (h : EC w E l) (hb : Below w.heap.size w w') : EC w' E l := fun k hk => (hb.cell (World.block_lt_of_cell? _ _ (h k hk))).trans (h k hk)
theorem EC.sub {w : World} {E : Nat → Addr} {l l' : List Nat} (h : EC w E l) (hs : ∀ k ∈ l', k ∈ l) : EC w E l' := fun k hk => h k (hs k hk)
theorem ErrsAre.ec {w : World} {E : Nat → Addr} (h : ErrsAre w E) : EC w E [1, 2, 3, 4, 5, 6, 7, 8, 9, 10, 11, 12, 13, 14, 15, 16] := by
  intro k hk
  have hk' : 1 ≤ k ∧ k ≤ 16 := by simp at hk; omega
  obtain ⟨h1, h2⟩ := hk'
  match k, h1, h2 with
  | 1, _, _ => exact h.c1
  | 2, _, _ => exact h.c2
  | 3, _, _ => exact h.c3
  | 4, _, _ => exact h.c4
  | 5, _, _ => exact h.c5
  | 6, _, _ => exact h.c6
  | 7, _, _ => exact h.c7
  | 8, _, _ => exact h.c8
  | 9, _, _ => exact h.c9
  | 10, _, _ => exact h.c10
  | 11, _, _ => exact h.c11
  | 12, _, _ => exact h.c12
  | 13, _, _ => exact h.c13
  | 14, _, _ => exact h.c14
  | 15, _, _ => exact h.c15
  | 16, _, _ => exact h.c16
  | n + 17, _, h => exact absurd h (by omega)
  | 0, h, _ => exact absurd h (by omega)
theorem Pair2.right {α β : Type} {R : α → β → Prop} {l : List α} {m : List β} (h : Pair2 R l m) : l.length = m.length := h.len
theorem getD_idx {α : Type} (d : α) : ∀ (nums : List Nat) (l : List α) (i k : Nat), nums.Nodup → nums[i]? = some k → l.getD (nums.idxOf k) d = l.getD i d := by
  intro nums l i k hn hi
  congr 1
  obtain ⟨hlt, rfl⟩ := List.getElem?_eq_some_iff.1 hi
  exact hn.idxOf_getElem i hlt
theorem ec_of {w : World} {l : List (String × DataW Unit)} (nums : List Nat) (n : Nat) (hn : nums.Nodup) (h : laidMet Tryz.prog l w) (hf : Pair2 (IsErrRow Tryz.prog 27) (l.take n) (nums.map errG)) : ∃ E, EC w E nums := by
  obtain ⟨Es, hE, -⟩ := errs_of n h hf
  refine ⟨fun k => Es.getD (nums.idxOf k) ⟨0, 0, none⟩, fun k hk => ?_⟩
  obtain ⟨i, hi⟩ := List.getElem?_of_mem hk
  have hlt : i < nums.length := (List.getElem?_eq_some_iff.1 hi).1
  have hl : nums.length = Es.length := by have := hE.len; simpa using this
  have h1 := hE.get i (errG k) (Es.getD i ⟨0, 0, none⟩) (by rw [List.getElem?_map, hi]; rfl) (by rw [List.getD_eq_getElem?_getD, List.getElem?_eq_getElem (by omega)]; rfl)
  show w.cell? _ = some (.iface _ (.pointer (some (Es.getD (nums.idxOf k) _))))
  rw [getD_idx _ nums Es i k hn hi]
  exact h1.1
def errN (E : Nat → Addr) (k : Nat) : Value := if k = 0 then .nilIface else errAt E k
end Go.Proofs.YtolhmibejhldkaaGreatDoor

namespace Go.Proofs.YtolhmibejhldkaaGreatDoor
open Go.RowKit Go.Proofs
theorem control_any (b : Nat) (hb : b < 256) (w : World) :
    Calls Tryz.prog 189 #[.int .u8 (b : Int)] w fun e w' => e = .returned (.bool (ctrlB b)) ∧ w = w' := by
  by_cases h1 : b ≤ 128
  · have e1 : decide ((b : Int) ≤ 128) = true := by simp; omega
    have : ctrlB b = true := by unfold ctrlB; simp; omega
    rw [this]
    go_enter Tryz.func189, Tryz.ntmps189
    go_wp2
    go_ret
    exact ⟨rfl, rfl⟩
  · have e1 : decide ((b : Int) ≤ 128) = false := by simp; omega
    have : ctrlB b = ((b : Int) == 254) := by unfold ctrlB; rw [Bool.eq_iff_iff]; simp; omega
    rw [this]
    go_enter Tryz.func189, Tryz.ntmps189
    go_wp2
    go_ret
    exact ⟨rfl, rfl⟩
theorem cnew_any (w : World) : Calls Tryz.prog 170 #[] w fun e w' => e = .returned (.int .u64 ((rep 128 : Nat) : Int)) ∧ w = w' := by
  go_enter Tryz.func170, Tryz.ntmps170
  go_wp2_with (go_at_call 187; refine (repeat_any 128 (by decide) _).mono ?_; rintro e w' ⟨rfl, rfl⟩)
  go_ret
  exact ⟨rfl, rfl⟩
theorem cget_in (m i : Nat) (hm : m < 18446744073709551616) (hi : i < 8) (w : World) :
    Calls Tryz.prog 148 #[.int .u64 (m : Int), .int .i64 (i : Int)] w fun e w' => e = .returned (.int .u8 ((ln m i : Nat) : Int)) ∧ w = w' := by
  go_enter Tryz.func148, Tryz.ntmps148
  go_wp2_with (go_at_call 178; refine (lane_in m i hm hi _).mono ?_; rintro e w' ⟨rfl, rfl⟩)
  go_ret
  exact ⟨rfl, rfl⟩
theorem cset_ok (m i b : Nat) (hm : m < 18446744073709551616) (hi : i < 8) (hb : b < 256) (hc : ctrlB b = true) (w : World) :
    Calls Tryz.prog 179 #[.int .u64 (m : Int), .int .i64 (i : Int), .int .u8 (b : Int)] w fun e w' => e = .returned (.tuple #[.int .u64 ((setL m i b : Nat) : Int), .nilIface]) ∧ Below w.heap.size w w' := by
  have HC := control_any b hb
  rw [hc] at HC
  replace HC := Lib.hid HC
  have e1 : decide ((i : Int) < 0) = false := by simp
  have e2 : decide ((i : Int) ≥ 8) = false := by simp; omega
  clear hc
  go_enter Tryz.func179, Tryz.ntmps179
  go_wp2_with (first
    | (go_at_call 189; refine (HC.out _).mono ?_; rintro e w' ⟨rfl, rfl⟩)
    | (go_at_call 190; refine (with_in m i b hm hi hb _).mono ?_; rintro e w' ⟨rfl, rfl⟩))
  go_ret2
  exact ⟨rfl, below_drewN (Below.refl _ _) 1⟩
def matchN (m h : Nat) : Nat := if h < 128 then maskB (equalB m h) else 0
theorem cmatch_any (m h : Nat) (hm : m < 18446744073709551616) (hh : h < 256) (w : World) :
    Calls Tryz.prog 144 #[.int .u64 (m : Int), .int .u8 (h : Int)] w fun e w' => e = .returned (.int .u64 ((matchN m h : Nat) : Int)) ∧ w = w' := by
  unfold matchN
  by_cases h1 : h < 128
  · have e1 : decide ((h : Int) ≥ 128) = false := by simp; omega
    rw [if_pos h1]
    go_enter Tryz.func144, Tryz.ntmps144
    go_wp2_with (go_at_call 177; refine (equal_any m h hm hh _).mono ?_; rintro e w' ⟨rfl, rfl⟩)
    go_ret
    exact ⟨rfl, rfl⟩
  · have e1 : decide ((h : Int) ≥ 128) = true := by simp; omega
    rw [if_neg h1]
    go_enter Tryz.func144, Tryz.ntmps144
    go_wp2
    go_ret
    exact ⟨rfl, rfl⟩
theorem cempties_any (m : Nat) (hm : m < 18446744073709551616) (w : World) :
    Calls Tryz.prog 146 #[.int .u64 (m : Int)] w fun e w' => e = .returned (.int .u64 ((maskB (equalB m 128) : Nat) : Int)) ∧ w = w' := by
  go_enter Tryz.func146, Tryz.ntmps146
  go_wp2_with (go_at_call 177; refine (equal_any m 128 hm (by decide) _).mono ?_; rintro e w' ⟨rfl, rfl⟩)
  go_ret
  exact ⟨rfl, rfl⟩
theorem cfrees_any (m : Nat) (hm : m < 18446744073709551616) (w : World) :
    Calls Tryz.prog 142 #[.int .u64 (m : Int)] w fun e w' => e = .returned (.int .u64 ((maskB (highB m) : Nat) : Int)) ∧ w = w' := by
  go_enter Tryz.func142, Tryz.ntmps142
  go_wp2_with (go_at_call 174; refine (high_any m hm _).mono ?_; rintro e w' ⟨rfl, rfl⟩)
  go_ret
  exact ⟨rfl, rfl⟩
theorem cfulls_any (m : Nat) (hm : m < 18446744073709551616) (w : World) :
    Calls Tryz.prog 167 #[.int .u64 (m : Int)] w fun e w' => e = .returned (.int .u64 ((maskB (fullB m) : Nat) : Int)) ∧ w = w' := by
  have H := high_any (18446744073709551615 - m) (by omega)
  rw [fulls_eq m hm] at H
  have hn := bits_not_u64_nat m hm
  generalize 18446744073709551615 - m = q at *
  replace H := Lib.hid H
  go_enter Tryz.func167, Tryz.ntmps167
  go_wp2_with fail
  clear hn
  refine (H.out _).mono ?_
  rintro e w' ⟨rfl, rfl⟩
  go_wp2
  go_ret
  exact ⟨rfl, rfl⟩
end Go.Proofs.YtolhmibejhldkaaGreatDoor

namespace Go.Proofs.YtolhmibejhldkaaGreatDoor
open Go.RowKit Go.Proofs
end Go.Proofs.YtolhmibejhldkaaGreatDoor

namespace Go.Proofs.YtolhmibejhldkaaGreatDoor
open Go.RowKit Go.Proofs
end Go.Proofs.YtolhmibejhldkaaGreatDoor

namespace Go.Proofs.YtolhmibejhldkaaGreatDoor
open Go.RowKit Go.Proofs
theorem ownsRow_slice {W : World} {base : Nat} {e : TypeId} {size : Nat} {v : Value} {k : Nat} {xs : List Value} (h : W.ownsRow base e size v k xs) : ∃ a cap, v = .slice a k cap := by
  rcases h.2 with ⟨rfl, rfl⟩ | ⟨g, cap, _, rfl, _⟩
  · exact ⟨_, _, rfl⟩
  · exact ⟨_, _, rfl⟩
theorem ReadsInts.cellsOf {w : World} {v : Value} {xs : List Int} (h : ReadsInts w v xs) : ∃ a cap, v = .slice a xs.length cap ∧ ∀ k (hk : k < xs.length), ∃ b off, a = some ⟨b, off, none⟩ ∧ ∀ w', Below w.heap.size w w' → w'.cell? ⟨b, off + k, none⟩ = some (.int .i64 xs[k]) := by
  obtain ⟨a, cap, rfl, hx⟩ := h
  refine ⟨a, cap, rfl, fun k hk => ?_⟩
  obtain ⟨b, off, rfl, hc⟩ := hx (fun e => by rw [e] at hk; simp at hk)
  exact ⟨b, off, rfl, fun w' hb => (hb.cell (World.block_lt_of_cell? _ _ (hc k hk))).trans (hc k hk)⟩
theorem ownsRow_chg {X : Nat → Prop} {w w' : World} {base : Nat} {e : TypeId} {size n : Nat} {v : Value} {xs : List Value} (h : w.ownsRow base e size v n xs) (hc : Chg X w w') (hX : ∀ b, base ≤ b → ¬ X b) : w'.ownsRow base e size v n xs := by
  refine ⟨h.1, ?_⟩
  rcases h.2 with h' | ⟨g, cap, cur, rfl, hb, hg, hr⟩
  · exact .inl h'
  · exact .inr ⟨g, cap, cur, rfl, hb, (hc.block g (Array.getElem?_eq_some_iff.1 hg).1 (hX g hb)).trans hg, hr⟩
theorem ownsRow_base {w : World} {base base' : Nat} {e : TypeId} {size n : Nat} {v : Value} {xs : List Value} (h : w.ownsRow base e size v n xs) (hb : base' ≤ base) : w.ownsRow base' e size v n xs := by
  refine ⟨h.1, ?_⟩
  rcases h.2 with h' | ⟨g, cap, cur, rfl, hb', hg, hr⟩
  · exact .inl h'
  · exact .inr ⟨g, cap, cur, rfl, Nat.le_trans hb hb', hg, hr⟩
theorem ownsRow_empty {w : World} {g : Nat} {e : TypeId} (h : Blk w g e #[]) : w.ownsRow g e 1 (.slice (some ⟨g, 0, none⟩) 0 0) 0 [] :=
  ⟨by simp, .inr ⟨g, 0, #[], rfl, Nat.le_refl _, h, by simp, by decide, rfl, by simp⟩⟩
end Go.Proofs.YtolhmibejhldkaaGreatDoor

namespace Go.Proofs.YtolhmibejhldkaaGreatDoor
open Go.RowKit
theorem laid_tail {P : Program} {w : World} {x : String × DataW Unit} {l : List (String × DataW Unit)} (h : laidMet P (x :: l) w) : laidMet P l w := by
  obtain ⟨m, d⟩ := x
  obtain ⟨ps, ⟨g, t, cs, fuel, p, q, hg, ht, hv, hd, hq, rfl⟩, hnd, hr⟩ := h
  exact ⟨q, hq, (List.sublist_append_right _ _).nodup hnd, fun b off hm => hr b off (List.mem_append_right _ hm)⟩
end Go.Proofs.YtolhmibejhldkaaGreatDoor

namespace Go.Proofs.YtolhmibejhldkaaGreatDoor
open Go.ChangeShapes Go.WideShapes Go.ChangeAt Go.RowKit
theorem args_again {H : Type} {enc : TypeId × Value → H} {P : Program} (hl : laidOutB P = true) {W W' : World} (hb : Below W.heap.size W W') :
    ∀ (ts : List TypeId) (vs : List Value) (ds : List (DataW H)) (ps : List MemPlace), (∀ t ∈ ts, P.readableRec t = true ∧ t < P.types.size) →
      DataW.TrodAll enc P W 0 (fun _ => true) true ts vs ds ps → (∀ x ∈ ps, x.block < W.heap.size) → DataW.TrodAll enc P W' 0 (fun b => decide (b < W.heap.size)) true ts vs ds ps := by
  intro ts
  induction ts with
  | nil =>
    intro vs ds ps _ h _
    obtain ⟨rfl, rfl, rfl⟩ := trodAll_nil h
    exact trodAll_mk0
  | cons t ts ih =>
    intro vs ds ps hr h hp
    obtain ⟨v, vs', d, ds', p, q, rfl, rfl, rfl, h0, hs⟩ := trodAll_cons h
    have k0 := Below.trod hl (hr t (by simp)).1 (hr t (by simp)).2 h0 hb (fun x hx => hp x (by simp [hx]))
    have ks := ih vs' ds' q (fun t' ht' => hr t' (by simp [ht'])) hs (fun x hx => hp x (by simp [hx]))
    exact trodAll_cons_mk k0 ks
theorem law_post {H : Type} {enc : TypeId × Value → H} {P : Program} {f : Func} {s : ChangeSpec} {apart fresh handsOn : Bool} {W W' : World} {args : Array Value} {ds gs : List (DataW H)} {before : List MemPlace} {tb : TypeId}
    (hW : DataW.Whole enc P f.params.toList s.vars apart W args.toList ds gs before) (hl : laidOutB P = true) (hr : ∀ t ∈ f.params.toList, P.readableRec t = true ∧ t < P.types.size)
    (hv : s.vars = []) (hres : f.resultTypes = #[tb]) (hb : P.underlying tb = some .bool)
    (hs : s.fn H (ds ++ gs) = { results := [.lit (.bool true)], args := ds }) (hB : Below W.heap.size W W') : s.post enc P f apart fresh handsOn false W args (.bool true) W' := by
  have hlt : ∀ p ∈ before, p.block < W.heap.size := fun p hp => hW.lt p hp
  have hW' := hW
  obtain ⟨p, q, hA, hV, rfl, _, _⟩ := hW
  rw [hv] at hV
  obtain ⟨rfl, rfl⟩ := trodVars_none hV
  simp only [List.append_nil] at hlt hW' hs
  refine ⟨ds, [], p, [], p, [], hW', ?_, ?_, ?_, World.keptBut_mono (fun x hx => ⟨hx, Or.inr (Or.inl hx)⟩) (hB.frame (fun x => x ∈ p)), fun h => by cases h⟩
  · simp only [List.append_nil, hs, hres]
    exact trodAll_cons_mk (shut_bool hb true) trodAll_mk0
  · simp only [List.append_nil, hs]
    exact args_again hl hB _ _ _ _ hr hA hlt
  · simp only [List.append_nil, hs, hv]
    rfl
theorem laid_mem {P : Program} {w : World} {n : String} {d : DataW Unit} : ∀ {l : List (String × DataW Unit)} {ps : List MemPlace}, DataW.LaidVars P w l ps → (n, d) ∈ l →
    ∃ g t cs fuel p, P.globalNamed n = some g ∧ (P.globals[g]?).map (·.type) = some t ∧ w.var? P n = some cs ∧ DataW.trod (fun _ => ()) P w 0 (fun _ => true) false fuel t cs.toList = some (d, p) := by
  intro l
  induction l with
  | nil => intro ps _ h; simp at h
  | cons x l ih =>
    intro ps hl hm
    obtain ⟨m, e⟩ := x
    obtain ⟨g, t, cs, fuel, p, q, hg, ht, hv, hd, hq, rfl⟩ := hl
    rcases List.mem_cons.1 hm with h | h
    · cases h
      exact ⟨g, t, cs, fuel, p, hg, ht, hv, hd⟩
    · exact ih hq h
end Go.Proofs.YtolhmibejhldkaaGreatDoor

namespace Go.Proofs.YtolhmibejhldkaaGreatDoor
open Go.ChangeShapes Go.WideShapes Go.ChangeAt Go.RowKit
theorem cells_of_ints {H : Type} {enc : TypeId × Value → H} {P : Program} {w : World} {base : Nat} {sp : Nat → Bool} {held : Bool} {fuel : Nat} {t e : TypeId} {n : Nat} {k : IntKind} {cs : List Value} {ss : List Int} {p : List MemPlace}
    (ht : P.underlying t = some (.array n e)) (he : P.underlying e = some (.int k)) (hce : P.cellsOf e = 1) (hct : P.cellsOf t = n)
    (h : DataW.trod enc P w base sp held fuel t cs = some (.agg (ss.map fun s => .lit (.int k s)), p)) : cs = ss.map fun s => Value.int k s := by
  cases fuel with
  | zero => simp [DataW.trod] at h
  | succ fuel =>
    simp only [DataW.trod, ht, hce, hct, Nat.mul_one] at h
    split at h
    · rename_i hl
      obtain ⟨xs, hm, hx⟩ := Option.map_eq_some_iff.1 h
      have hxs : xs.map (·.1) = ss.map fun s => (DataW.lit (.int k s) : DataW H) := by
        have := congrArg Prod.fst hx
        simpa using this
      have hxl : xs.length = n := by simpa using Lib.mapM_length hm
      have hzl : ss.length = n := by
        have := congrArg List.length hxs
        simp at this
        omega
      apply List.ext_getElem?
      intro i
      by_cases hi : i < n
      · obtain ⟨b, hb, hf⟩ := Lib.mapM_at hm i i (by simp [hi])
        obtain ⟨z, hc, rfl, _⟩ := DataW.trod_int he hf
        have h1 : cs[i]? = some (.int k z) := by
          have := congrArg (·[0]?) hc
          simpa [List.getElem?_take, List.getElem?_drop] using this
        have h2 : (xs.map (·.1))[i]? = some (DataW.lit (.int k z) : DataW H) := by simp [hb]
        rw [hxs] at h2
        simp only [List.getElem?_map, Option.map_eq_some_iff, DataW.lit.injEq, Lit.int.injEq] at h2
        obtain ⟨z', hz', _, rfl⟩ := h2
        simp [h1, hz']
      · rw [List.getElem?_eq_none (by omega), List.getElem?_eq_none (by simp; omega)]
    · cases h
theorem laid_ints {P : Program} {w : World} {l : List (String × DataW Unit)} {n : String} {ss : List Int} {g : Nat} {t e : TypeId} {k : Nat} {kd : IntKind}
    (h : laidMet P l w) (hm : (n, (.agg (ss.map fun s => .lit (.int kd s)) : DataW Unit)) ∈ l) (hg : P.globalNamed n = some g) (hty : (P.globals[g]?).map (·.type) = some t)
    (ht : P.underlying t = some (.array k e)) (he : P.underlying e = some (.int kd)) (hce : P.cellsOf e = 1) (hct : P.cellsOf t = k) (i : Nat) (hi : i < ss.length) :
    w.cell? ⟨g, i, none⟩ = some (.int kd (ss.getD i 0)) := by
  obtain ⟨ps, hl, _⟩ := h
  obtain ⟨g', t', cs, fuel, p, hg', ht', hv, hd⟩ := laid_mem hl hm
  obtain rfl := Option.some.inj (hg.symm.trans hg')
  obtain rfl := Option.some.inj (hty.symm.trans ht')
  have hc := cells_of_ints ht he hce hct hd
  have hvc := World.var?_cell hg hv i
  rw [hvc, ← Array.getElem?_toList, hc]
  simp [hi]
end Go.Proofs.YtolhmibejhldkaaGreatDoor

namespace Go.Proofs.YtolhmibejhldkaaGreatDoor
open Go.ChangeShapes Go.WideShapes Go.ChangeAt Go.RowKit
theorem tab64_of {w : World} {l : List (String × DataW Unit)} (h : laidMet Tryz.prog l w) (hm : ("math/bits.deBruijn64tab", (Rows.laid_math_bits_deBruijn64tab : DataW Unit)) ∈ l) : Tab64 w := by
  intro j hj
  have hd : (Rows.laid_math_bits_deBruijn64tab : DataW Unit) = .agg ((Lib.deBruijn64tab.map (fun n : Nat => (n : Int))).map fun s => .lit (.int .u8 s)) := rfl
  rw [hd] at hm
  have hc := laid_ints (g := 16) (t := 254) (e := 5) (k := 64) (kd := .u8) h hm (by kernel_rfl) (by kernel_rfl) Tryz.underlying254 Tryz.underlying5 (by kernel_rfl) (by kernel_rfl) j (by simpa [Lib.deBruijn64tab] using hj)
  rw [hc]
  congr 2
  have hl : j < Lib.deBruijn64tab.length := by simpa [Lib.deBruijn64tab] using hj
  simp [List.getElem?_eq_getElem hl]
end Go.Proofs.YtolhmibejhldkaaGreatDoor

namespace Go.Proofs.YtolhmibejhldkaaGreatDoor
open Go.RowKit
theorem u64_of {a : Int} (h : (Lit.int .u64 a).wf = true) : ∃ n : Nat, n < 18446744073709551616 ∧ a = (n : Int) := by
  have h' : 0 ≤ a ∧ a ≤ 18446744073709551615 := by simpa [Lit.wf, IntKind.has, IntKind.min, IntKind.max, IntKind.signed, IntKind.bits] using h
  exact ⟨a.toNat, by omega, by omega⟩
end Go.Proofs.YtolhmibejhldkaaGreatDoor

namespace Go.Proofs.YtolhmibejhldkaaGreatDoor
open Go.RowKit Go.ChangeShapes Go.WideShapes Go.Deep
def RowsAt (w : World) (v : Value) (n nf : Nat) (kd : IntKind) (f : Nat → Nat → Int) : Prop :=
  (∃ a cap, v = .slice a n cap ∧ (n ≠ 0 → ∃ b off, a = some ⟨b, off, none⟩ ∧ ∀ i, i < n → ∀ j, j < nf → w.cell? ⟨b, off + (i * nf + j), none⟩ = some (.int kd (f i j)))) ∧
  (∀ i, i < n → ∀ j, j < nf → (Lit.int kd (f i j)).wf = true) ∧ n ≤ maxLen
theorem RowsAt.later {w w' : World} {v : Value} {n nf : Nat} {kd : IntKind} {f : Nat → Nat → Int} (h : RowsAt w v n nf kd f) (hb : Below w.heap.size w w') : RowsAt w' v n nf kd f := by
  obtain ⟨⟨a, cap, rfl, hx⟩, hwf, hm⟩ := h
  refine ⟨⟨a, cap, rfl, fun hn => ?_⟩, hwf, hm⟩
  obtain ⟨b, off, rfl, hc⟩ := hx hn
  exact ⟨b, off, rfl, fun i hi j hj => (hb.cell (World.block_lt_of_cell? _ _ (hc i hi j hj))).trans (hc i hi j hj)⟩
theorem RowsAt.cellAt {w : World} {v : Value} {n nf : Nat} {kd : IntKind} {f : Nat → Nat → Int} (h0 : 0 < nf) (h : RowsAt w v n nf kd f) : ∃ a cap, v = .slice a n cap ∧ (n ≠ 0 → ∃ b off, a = some ⟨b, off, none⟩ ∧ b < w.heap.size ∧ ∀ w', Below w.heap.size w w' → ∀ i, i < n → ∀ j, j < nf → w'.cell? ⟨b, off + (i * nf + j), none⟩ = some (.int kd (f i j))) := by
  obtain ⟨⟨a, cap, rfl, hx⟩, hwf, hm⟩ := h
  refine ⟨a, cap, rfl, fun hn => ?_⟩
  obtain ⟨b, off, rfl, hc⟩ := hx hn
  exact ⟨b, off, rfl, World.block_lt_of_cell? _ _ (hc 0 (by omega) 0 (by omega)), fun w' hb i hi j hj => (hb.cell (World.block_lt_of_cell? _ _ (hc i hi j hj))).trans (hc i hi j hj)⟩
theorem cell_spot0 {W : World} {a : Addr} {v : Value} (h : W.cell? a = some v) : a.spot = none := by
  unfold World.cell? at h
  split at h
  · cases hs : a.spot with
    | none => rfl
    | some x => simp [hs] at h
  · cases h
theorem add_zero_spot {a : Addr} (h : (a.add 0).spot = none) : a = ⟨a.block, a.off, none⟩ ∧ ∀ j, a.add j = ⟨a.block, a.off + j, none⟩ := by
  obtain ⟨b, o, s⟩ := a
  have hs : s = none := by simpa [Addr.add] using h
  subst hs
  refine ⟨rfl, fun j => ?_⟩
  unfold Addr.add; split
  · rename_i hj; simp [hj]
  · rfl
theorem choice2 {p : Nat → Nat → Prop} {q : Nat → Nat → Int → Prop} (h : ∀ i j, p i j → ∃ z, q i j z) : ∃ f : Nat → Nat → Int, ∀ i j, p i j → q i j (f i j) := by
  have h' : ∀ i, ∃ g : Nat → Int, ∀ j, p i j → q i j (g j) := fun i => by
    have : ∀ j, ∃ z, p i j → q i j z := fun j => by
      by_cases hp : p i j
      · obtain ⟨z, hz⟩ := h i j hp; exact ⟨z, fun _ => hz⟩
      · exact ⟨0, fun h => absurd h hp⟩
    exact ⟨fun j => Classical.choose (this j), fun j => Classical.choose_spec (this j)⟩
  exact ⟨fun i => Classical.choose (h' i), fun i => Classical.choose_spec (h' i)⟩
section
variable {H : Type} {enc : TypeId × Value → H} {P : Program} {w : World} {base : Nat} {spare : Nat → Bool} {held : Bool}
theorem rowsAt_of {t e : TypeId} {fs : Array Field} {kd : IntKind} {a : Option Addr} {len cap : Nat} {d : DataW H} {p : List MemPlace} (ht : P.underlying t = some (.slice e)) (he : P.underlying e = some (.struct fs))
    (hone : oneCellFields P fs = true) (hC : P.cellsOf e = fs.size) (h0 : 0 < fs.size) (hk : ∀ (j : Nat) (f : Field), fs[j]? = some f → P.underlying f.type = some (.int kd))
    (h : DataW.Trod enc P w base spare held t (.slice a len cap) d p) : ∃ f, RowsAt w (.slice a len cap) len fs.size kd f := by
  obtain ⟨fuel, hf⟩ := h
  have hf' : DataW.trod enc P w base spare held fuel t [.slice a len cap] = some (d, p) := hf
  rcases open_slice ht hf' with ⟨h1, h2⟩ | ⟨a', len', cap', m, n, D, Pl, hcs, hb, hl, hm, hmm, hx, hi⟩
  · simp only [List.cons.injEq, Value.slice.injEq, and_true] at h1
    obtain ⟨rfl, rfl, rfl⟩ := h1
    exact ⟨fun _ _ => 0, ⟨none, 0, rfl, fun h => absurd rfl h⟩, fun i hi => by omega, by unfold maxLen; omega⟩
  · simp only [List.cons.injEq, Value.slice.injEq, and_true] at hcs
    obtain ⟨rfl, rfl, rfl⟩ := hcs
    have hml : len ≤ m := by rw [hmm]; split <;> omega
    have key : ∀ i, i < len → ∀ j, j < fs.size → ∃ z, w.cell? (a'.add (i * fs.size + j)) = some (.int kd z) ∧ (Lit.int kd z).wf = true := by
      intro i hil j hj
      obtain ⟨cs', hc, ht'⟩ := hi i (by omega)
      rw [hC] at hc
      obtain ⟨ys, n', hn', hy, hlen, hyl, hff⟩ := DataW.trod_struct he ht'
      obtain ⟨_, hcl, hat⟩ := World.cells?_some hc
      have hfj : fs[j]? = some fs[j] := Array.getElem?_eq_getElem hj
      obtain ⟨ho, hk1⟩ := hone_of hone j _ hfj
      have hcell := hat j hj
      have h1 := hff j _ hfj
      rw [ho, hk1] at h1
      have hone' : (cs'.drop j).take 1 = [cs'[j]'(by omega)] := by
        rw [List.drop_eq_getElem_cons (by omega)]
        rfl
      rw [hone'] at h1
      have hys : ys[j]? = some (ys[j]'(by omega)) := List.getElem?_eq_getElem (by omega)
      rw [hys] at h1
      obtain ⟨z, hz, _, hwf⟩ := DataW.trod_int (hk j _ hfj) h1
      simp only [List.cons.injEq, and_true] at hz
      refine ⟨z, ?_, hwf⟩
      rw [← Go.Deep.add_add, hcell]
      have hv : cs'[j]? = some (cs'[j]'(by omega)) := List.getElem?_eq_getElem (by omega)
      rw [hv, hz]
    obtain ⟨f, hf⟩ := choice2 (p := fun i j => i < len ∧ j < fs.size) (q := fun i j z => w.cell? (a'.add (i * fs.size + j)) = some (.int kd z) ∧ (Lit.int kd z).wf = true) (fun i j hp => key i hp.1 j hp.2)
    refine ⟨f, ⟨some a', cap, rfl, fun hn => ?_⟩, fun i hi j hj => (hf i j ⟨hi, hj⟩).2, by omega⟩
    have hz1 := (hf 0 0 ⟨by omega, h0⟩).1
    rw [Nat.zero_mul] at hz1
    obtain ⟨e1, e2⟩ := add_zero_spot (cell_spot0 hz1)
    refine ⟨a'.block, a'.off, by rw [← e1], fun i hi j hj => ?_⟩
    rw [← e2]
    exact (hf i j ⟨hi, hj⟩).1
def intK (P : Program) (t : TypeId) : Option IntKind := match P.underlying t with | some (.int k) => some k | _ => none
theorem intK_some {t : TypeId} {k : IntKind} (h : intK P t = some k) : P.underlying t = some (.int k) := by
  unfold intK at h; split at h
  · rename_i heq; rw [heq]; cases h; rfl
  · cases h
theorem rowsAt_of' {t e : TypeId} {fs : Array Field} {kd : IntKind} {a : Option Addr} {len cap : Nat} {d : DataW H} {p : List MemPlace} (ht : P.underlying t = some (.slice e)) (he : P.underlying e = some (.struct fs))
    (hone : oneCellFields P fs = true) (hC : P.cellsOf e = fs.size) (h0 : 0 < fs.size) (hk : (fs.toList.map fun f => intK P f.type) = List.replicate fs.size (some kd))
    (h : DataW.Trod enc P w base spare held t (.slice a len cap) d p) : ∃ f, RowsAt w (.slice a len cap) len fs.size kd f :=
  rowsAt_of ht he hone hC h0 (fun j f hf => intK_some (by
    have h1 : (fs.toList.map fun f => intK P f.type)[j]? = some (intK P f.type) := by rw [List.getElem?_map, Array.getElem?_toList, hf]; rfl
    rw [hk, List.getElem?_replicate] at h1
    split at h1
    · exact (Option.some.inj h1).symm
    · cases h1)) h
theorem intsAt_of {t e : TypeId} {kd : IntKind} {a : Option Addr} {len cap : Nat} {d : DataW H} {p : List MemPlace} (ht : P.underlying t = some (.slice e)) (he : P.underlying e = some (.int kd)) (hC : P.cellsOf e = 1)
    (h : DataW.Trod enc P w base spare held t (.slice a len cap) d p) : ∃ f : Nat → Int, RowsAt w (.slice a len cap) len 1 kd (fun i _ => f i) := by
  obtain ⟨fuel, hf⟩ := h
  have hf' : DataW.trod enc P w base spare held fuel t [.slice a len cap] = some (d, p) := hf
  rcases open_ints ht he hC hf' with ⟨h1, h2⟩ | ⟨a', len', cap', zs, hcs, hb, hl, hm, hz, hx, hi, hw⟩
  · simp only [List.cons.injEq, Value.slice.injEq, and_true] at h1
    obtain ⟨rfl, rfl, rfl⟩ := h1
    exact ⟨fun _ => 0, ⟨none, 0, rfl, fun h => absurd rfl h⟩, fun i hi => by omega, by unfold maxLen; omega⟩
  · simp only [List.cons.injEq, Value.slice.injEq, and_true] at hcs
    obtain ⟨rfl, rfl, rfl⟩ := hcs
    have hml : len ≤ zs.length := by rw [hz]; split <;> omega
    refine ⟨fun i => zs.getD i 0, ⟨some a', cap, rfl, fun hn => ?_⟩, fun i hi' j hj => hw _ ?_, by omega⟩
    · obtain ⟨e1, e2⟩ := add_zero_spot (cell_spot0 (hi 0 (by omega)))
      refine ⟨a'.block, a'.off, by rw [← e1], fun i hil j hj => ?_⟩
      obtain rfl : j = 0 := by omega
      have := hi i (by omega)
      rw [e2] at this
      simpa using this
    · have : i < zs.length := by omega
      simp [List.getD, this]
end
end Go.Proofs.YtolhmibejhldkaaGreatDoor

namespace Go.Proofs.YtolhmibejhldkaaGreatDoor
open Go.RowKit Go.ChangeShapes Go.WideShapes Go.Deep
def RowsK (w : World) (v : Value) (n nf : Nat) (kd : Nat → IntKind) (f : Nat → Nat → Int) : Prop :=
  (∃ a cap, v = .slice a n cap ∧ (n ≠ 0 → ∃ b off, a = some ⟨b, off, none⟩ ∧ ∀ i, i < n → ∀ j, j < nf → w.cell? ⟨b, off + (i * nf + j), none⟩ = some (.int (kd j) (f i j)))) ∧
  (∀ i, i < n → ∀ j, j < nf → (Lit.int (kd j) (f i j)).wf = true) ∧ n ≤ maxLen
theorem RowsK.cellAt {w : World} {v : Value} {n nf : Nat} {kd : Nat → IntKind} {f : Nat → Nat → Int} (h0 : 0 < nf) (h : RowsK w v n nf kd f) : ∃ a cap, v = .slice a n cap ∧ (n ≠ 0 → ∃ b off, a = some ⟨b, off, none⟩ ∧ b < w.heap.size ∧ ∀ w', Below w.heap.size w w' → ∀ i, i < n → ∀ j, j < nf → w'.cell? ⟨b, off + (i * nf + j), none⟩ = some (.int (kd j) (f i j))) := by
  obtain ⟨⟨a, cap, rfl, hx⟩, hwf, hm⟩ := h
  refine ⟨a, cap, rfl, fun hn => ?_⟩
  obtain ⟨b, off, rfl, hc⟩ := hx hn
  exact ⟨b, off, rfl, World.block_lt_of_cell? _ _ (hc 0 (by omega) 0 (by omega)), fun w' hb i hi j hj => (hb.cell (World.block_lt_of_cell? _ _ (hc i hi j hj))).trans (hc i hi j hj)⟩
section
variable {H : Type} {enc : TypeId × Value → H} {P : Program} {w : World} {base : Nat} {spare : Nat → Bool} {held : Bool}
end
end Go.Proofs.YtolhmibejhldkaaGreatDoor

namespace Go.Proofs.YtolhmibejhldkaaGreatDoor
open Go.RowKit Go.ChangeShapes Go.WideShapes Go.Deep
section
variable {H : Type} {enc : TypeId × Value → H} {P : Program} {w : World} {base : Nat} {spare : Nat → Bool} {held : Bool}
end
end Go.Proofs.YtolhmibejhldkaaGreatDoor
