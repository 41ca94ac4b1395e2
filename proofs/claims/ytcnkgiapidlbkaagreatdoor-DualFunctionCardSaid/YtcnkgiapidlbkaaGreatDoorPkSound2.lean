/- Texts joined: SoundP Sound SoundCk. No condition but those that stand within. -/
import Derived.Maps.OwnSet
import Derived.Maps.OwnOps
import Derived.Test.YtcnkgiapidlbkaaGreatDoorPkSwar
import Derived.Test.YtcnkgiapidlbkaaGreatDoorPkMeter
import Derived.Test.YtcnkgiapidlbkaaGreatDoorPkErrs
import Derived.Test.YtcnkgiapidlbkaaGreatDoorPkGroup
import Derived.Test.YtcnkgiapidlbkaaGreatDoorPkTab
import Derived.Test.YtcnkgiapidlbkaaGreatDoorPkTab2
import Derived.Test.YtcnkgiapidlbkaaGreatDoorPkTab3
import Derived.Test.YtcnkgiapidlbkaaGreatDoorPkTab4
import Derived.Test.YtcnkgiapidlbkaaGreatDoorPkTake
import Derived.Test.YtcnkgiapidlbkaaGreatDoorPkTabM
import Derived.Test.YtcnkgiapidlbkaaGreatDoorPkBuild
import Derived.Test.YtcnkgiapidlbkaaGreatDoorPkEvac
import Derived.Test.YtcnkgiapidlbkaaGreatDoorPkSound
import Derived.Test.YtcnkgiapidlbkaaGreatDoorPkRef09
import Derived.Test.YtcnkgiapidlbkaaGreatDoorPkEvac2
set_option linter.unusedVariables false
set_option linter.unusedSimpArgs false
namespace Go.Proofs.YtcnkgiapidlbkaaGreatDoor
open Go.RowKit Go.Proofs
theorem sign_iff (a j : Nat) (ha : a ≤ 3) (hj : 1 ≤ j ∧ j ≤ 3) : (signK a == signK j) = decide (a = j) := by
  obtain rfl | rfl | rfl | rfl : a = 0 ∨ a = 1 ∨ a = 2 ∨ a = 3 := by omega
  all_goals (obtain rfl | rfl | rfl : j = 1 ∨ j = 2 ∨ j = 3 := by omega) <;> decide
theorem count_sign (m j : Nat) (hj : 1 ≤ j ∧ j ≤ 3) : Lib.countByte (textW m).data.toList (signK j) = countK m j := by
  unfold Lib.countByte textW textTo countK
  rw [show (⟨((List.range 8).map fun i => signK (kindN (ln m i))).toArray⟩ : ByteArray).data.toList = (List.range 8).map fun i => signK (kindN (ln m i)) by simp]
  rw [List.count, List.countP_map, List.countP_eq_length_filter]
  congr 1
  apply List.filter_congr
  intro i _
  exact sign_iff _ _ (kindN_le _) hj
theorem entsTo_len (T : TabS) : ∀ k, (entsTo' T k).length ≤ 8 * k
  | 0 => by simp [entsTo']
  | k + 1 => by rw [entsTo_snoc, List.length_append]; have := entsTo_len T k; have := entsL_len (T.M k) (T.S k); omega
def TabS.lk (T : TabS) (e : EntS) : Nat := T.looks e.key e.hash.toNat
def maxN (f : EntS → Nat) (l : List EntS) : Nat := l.foldl (fun m e => max m (f e)) 0
def addL (f : EntS → Nat) (l : List EntS) : Nat := l.foldl (fun m e => m + f e) 0
theorem maxN_snoc (f : EntS → Nat) (l : List EntS) (e : EntS) : maxN f (l ++ [e]) = max (maxN f l) (f e) := by unfold maxN; rw [List.foldl_append]; rfl
theorem addL_snoc (f : EntS → Nat) (l : List EntS) (e : EntS) : addL f (l ++ [e]) = addL f l + f e := by unfold addL; rw [List.foldl_append]; rfl
theorem maxN_take {f : EntS → Nat} {l : List EntS} {j : Nat} (h : j < l.length) : maxN f (l.take (j + 1)) = max (maxN f (l.take j)) (f l[j]) := by rw [← maxN_snoc, List.take_append_getElem h]
theorem addL_take {f : EntS → Nat} {l : List EntS} {j : Nat} (h : j < l.length) : addL f (l.take (j + 1)) = addL f (l.take j) + f l[j] := by rw [← addL_snoc, List.take_append_getElem h]
def TabS.opens (T : TabS) : Nat := sumN (fun i => if openB (T.M i) = true then 1 else 0) T.n
theorem looks_bd {T : TabS} (hT : TGood T) (key : Int) (h : Nat) : 1 ≤ T.looks key h ∧ T.looks key h ≤ T.n := by
  have hn := hT.bounds
  have h1 := (lookN_spec (fun j => T.stop key h (T.wk h j)) T.n 0)
  unfold TabS.looks
  have h2 := h1.2.1
  have h3 := h1.2.2.1 (by omega)
  omega
end Go.Proofs.YtcnkgiapidlbkaaGreatDoor

namespace Go.Proofs.YtcnkgiapidlbkaaGreatDoor
open Go.RowKit Go.Proofs
attribute [local go_sem] neq_nilG eql_nilG
attribute [local go_sem high] run_maxZ
theorem mxZ_nat (a b : Nat) : mxZ (a : Int) (b : Int) = ((max a b : Nat) : Int) := by unfold mxZ; split <;> omega
theorem entV_one (l : List EntS) : ∀ u ∈ entV l, u.oneCell' = true := by
  intro u hu
  unfold entV at hu
  simp only [List.mem_flatMap, e3, List.mem_cons, List.not_mem_nil, or_false] at hu
  obtain ⟨e, -, rfl | rfl | rfl⟩ := hu <;> rfl
theorem wpList_append_ents {w : World} {ops : Array Oper} {rest : List Oper} {o : Oper} {a : Act} {Q : Exit → Act → World → Prop} (hgd : o.guard = none) (s x : Operand)
    (ho : o.op = .call { callee := .builtin .append, args := #[s, x], argTypes := #[63, 63] })
    (base : Nat) (v : Value) (l1 : List EntS) (hs : a.eval s = v) (hown : w.ownsRow base 41 3 v l1.length (entV l1))
    (y : Value) (base2 : Nat) (l2 : List EntS) (hx : a.eval x = y) (hy : w.ownsRow base2 41 3 y l2.length (entV l2)) (hlen : l1.length + l2.length ≤ 1000000) (hbase : base ≤ w.heap.size)
    (h : ∀ v' w', w'.ownsRow base 41 3 v' (l1 ++ l2).length (entV (l1 ++ l2)) → Below base w w' → w.grownBy w' v.ownBlock → wpList Tryz.prog ops Q rest (a.put o.dst v') w') : wpList Tryz.prog ops Q (o :: rest) a w := by
  obtain ⟨i0, hi, hz0, hz1, hz2⟩ := info_parts infoET
  rcases hy.2 with ⟨e, h0⟩ | ⟨g, cap, cur, e, hb, hh, hr⟩
  · have hl2 : l2 = [] := List.eq_nil_of_length_eq_zero h0
    subst hl2
    subst e
    refine wpList_append_own_none hgd _ _ 63 ho base 41 i0 3 Tryz.underlying63 hi _ _ _ hs hown hx ?_
    have := h v w (by simpa using hown) (Below.refl _ _) ⟨rfl, rfl, rfl, Nat.le_refl _, fun _ _ _ => rfl⟩
    exact this
  · subst e
    refine wpList_append_own w hgd _ _ 63 ho base 41 i0 (.agg #[.int .u64 0, .int .u64 0, .int .u64 0]) 3 24 Tryz.underlying63 hi hz0 hz1 hz2 rfl (by decide) _ _ _ hs hown ⟨g, 0, none⟩ l2.length cap (entV l2) hx (entV_length _) (fun j u hu => hy.cells (g := g) rfl j u hu) (entV_one _) (by unfold maxLen; omega) (by omega) hbase ?_
    intro v' w' h1 h2 _
    exact h v' w' (by rw [List.length_append, entV_append]; exact h1) ((Below.refl base w).grown h2 hbase (fun q eq => (hown.lt q eq).1)) h2
section
variable {w w' w0 : World} {B Q : Nat} {T : TabS} {E : Nat → Addr}
set_option maxRecDepth 100000 in
set_option maxHeartbeats 2000000 in
theorem sentries_any (h : TN w B Q T E w0) :
    Calls Tryz.prog 86 #[.pointer (some ⟨B, 0, none⟩)] w fun e w' => ∃ v, e = .returned v ∧ w'.ownsRow w.heap.size 41 3 v T.ents.length (entV T.ents) ∧ Below w.heap.size w w' := by
  have GR := Lib.hid (fun (w' : World) (h : TN w' B Q T E w0) => TMW.groups h)
  have SC := Lib.hid (fun (k : Nat) (hk : k < T.n) (w' : World) (h : TN w' B Q T E w0) => TMW.scan h k hk none LensAt.n 0 0 0)
  have hbd := h.good.bounds
  have hn : T.n ≤ 64 := hbd.1
  have HL := Lib.hid (entsTo_len T)
  have HL8 := Lib.hid (fun k => entsL_len (T.M k) (T.S k))
  have HH := Lib.hid h
  rw [show T.ents = entsTo' T T.n from rfl]
  generalize hnn : T.n = n at *
  clear h hbd
  go_enter Tryz.func86, Tryz.ntmps86
  go_wp2_with (go_at_call 77; (with_reducible refine (GR.out _ HH.out).mono ?_); rintro e w' ⟨rfl, rfl⟩)
  go_loopw [9, 3] (fun v9 v3 wr => ∃ k : Nat, k ≤ n ∧ v9 = .int .i64 (k : Int) ∧ wr.ownsRow w.heap.size 41 3 v3 (entsTo' T k).length (entV (entsTo' T k)) ∧ Below w.heap.size w wr) (fun v9 _ _ => n - (intOf v9).toNat)
  case atStart => exact ⟨0, Nat.zero_le _, rfl, ⟨rfl, .inl ⟨rfl, rfl⟩⟩, Below.refl _ _⟩
  case round =>
    obtain ⟨k, hk, rfl, hrow, hB⟩ := hrel
    have KR := Lib.hid hrow
    have KB := Lib.hid hB
    clear hrow hB
    by_cases hlt : k < n
    · have hltI : (k : Int) < (n : Int) := by omega
      have SK := Lib.hid (SC.out k hlt)
      have hl1 := HL.out k
      have hl2 := HL8.out k
      have HE := Lib.hid (entsTo_snoc T k)
      generalize entsTo' T k = l1 at *
      generalize entsL (T.M k) (T.S k) = l2 at *
      have hwz : w.heap.size ≤ wr.heap.size := KB.out.size
      go_wp2_with (first
        | (go_at_call 128; (with_reducible refine (SK.out _ (HH.out.later KB.out)).mono ?_); rintro e w3 ⟨v, rfl, hr3, hs3, hc3⟩; have C3 := Lib.hid (Below.of_chg (hc3.mono (fun _ _ e => by cases e))); have R3 := Lib.hid hr3; clear hr3 hs3 hc3)
        | (at_builtin; refine wpList_append_ents rfl _ _ rfl w.heap.size _ l1 rfl (ownsRow_later KR.out C3.out) _ wr.heap.size l2 rfl R3.out (by omega) (by have := C3.out.size; omega) ?_; intro v' w4 hown4 hb4 _; have R4 := Lib.hid hown4; have B4 := Lib.hid hb4; clear hown4 hb4))
      go_roundw
      case rel => exact ⟨k + 1, by omega, by go_num, by rw [HE.out]; exact R4.out, (KB.out.trans (C3.out.mono hwz)).trans B4.out⟩
      case measure => simp [intOf]; omega
    · obtain rfl : k = n := by omega
      go_wp2
      go_ret
      exact ⟨_, rfl, KR.out, KB.out⟩
theorem addN_probes {mt : MeterS} {p : Int} (h0 : mt.a0 = p) (hp : 0 ≤ p) : ∀ n : Nat, p + n ≤ 1000000 → (addN mt 1 0 0 n).a0 = p + n
  | 0, _ => by rw [show (addN mt 1 0 0 0).a0 = mt.a0 from rfl, h0]; simp
  | n + 1, h => by
    have e1 := addN_probes h0 hp n (by omega)
    show sumZ (addN mt 1 0 0 n).a0 1 = _
    rw [e1, sumZ_add (by omega) (by decide) (by omega)]; omega
structure SR (wx : World) (M O B Q : Nat) (T : TabS) (mt : MeterS) (E : Nat → Addr) (w0 w : World) : Prop where
  t : TMW wx B Q (some M) T mt E w0
  o : Blk wx O 41 #[.int .u64 0, .int .u64 0, .int .u64 0]
  b : Below w.heap.size w wx
theorem SR.later {wx w' w w0 : World} {M O B Q : Nat} {T : TabS} {mt : MeterS} {E : Nat → Addr} (h : SR wx M O B Q T mt E w0 w) (hb : Below wx.heap.size wx w') : SR w' M O B Q T mt E w0 w := ⟨h.t.later hb, h.o.below hb h.o.lt, h.b.trans (hb.mono h.b.size)⟩
theorem SR.alloc {wx w w0 : World} {M O B Q : Nat} {T : TabS} {mt : MeterS} {E : Nat → Addr} (h : SR wx M O B Q T mt E w0 w) (o : Obj) : SR (wx.alloc o) M O B Q T mt E w0 w := h.later ((Below.refl _ _).alloc (Nat.le_refl _) o)
theorem SR.drew {wx w w0 : World} {M O B Q : Nat} {T : TabS} {mt : MeterS} {E : Nat → Addr} (h : SR wx M O B Q T mt E w0 w) : SR wx.drew M O B Q T mt E w0 w := h.later (Below.refl _ _).drew
theorem SR.find {wx w' w w0 : World} {M O B Q : Nat} {T : TabS} {mt mt' : MeterS} {E : Nat → Addr} (h : SR wx M O B Q T mt E w0 w) (ht : TMW w' B Q (some M) T mt' E w0) (hc : Chg (fun b => some M = some b) wx w') (hM : w.heap.size ≤ M) (hO : O ≠ M) : SR w' M O B Q T mt' E w0 w :=
  ⟨ht, h.o.chg hc (fun e => hO (Option.some.inj e).symm), h.b.trans (hc.below (n := w.heap.size) h.b.size (fun b hb e => by have := Option.some.inj e; omega))⟩
theorem SR.m {wx w w0 : World} {M O B Q : Nat} {T : TabS} {mt : MeterS} {E : Nat → Addr} (h : SR wx M O B Q T mt E w0 w) : Blk wx M 36 mt.cells := h.t.m M rfl
theorem SR.new {wx w' w w0 : World} {M O B Q P : Nat} {T : TabS} {mt : MeterS} {E : Nat → Addr} (h : SR wx M O B Q T mt E w0 w) (hc : Chg (fun b => b = P) wx w') (h0 : w0.heap.size ≤ P ∧ w.heap.size ≤ P) (h1 : P ≠ B ∧ P ≠ Q ∧ P ≠ M ∧ P ≠ O) : SR w' M O B Q T mt E w0 w :=
  ⟨h.t.chg hc (by rintro b rfl; exact h0.1) (fun e => h1.1 e.symm) (fun e => h1.2.1 e.symm) (fun b e e2 => h1.2.2.1 (by rw [← e2]; exact (Option.some.inj e).symm)), h.o.chg hc (fun e => h1.2.2.2 e.symm), h.b.trans (hc.below (n := w.heap.size) h.b.size (fun b hb e => by subst e; omega))⟩
set_option maxRecDepth 100000 in
set_option maxHeartbeats 4000000 in
theorem search_any (h : TN w B Q T E w0) (ky vv : Int) (hs : Nat) (hh : hs < 18446744073709551616) :
    Calls Tryz.prog 87 #[.pointer (some ⟨B, 0, none⟩), .agg #[.int .u64 ky, .int .u64 vv, .int .u64 (hs : Int)]] w fun e w' =>
      e = .returned (.tuple #[.agg #[.int .u64 (T.ent ky hs).key, .int .u64 (T.ent ky hs).val, .int .u64 (T.ent ky hs).hash], .bool (T.has ky hs), .int .i64 ((T.looks ky hs : Nat) : Int)]) ∧ Below w.heap.size w w' := by
  have hlk := looks_bd h.good ky hs
  have hbd := h.good.bounds
  have HH := Lib.hid h
  have hzw := h.bel.size
  have hlB := TMW.ltB h
  have hlQ := TMW.ltQ h
  have PB := Lib.hid (fun (p : Option Addr) (w' : World) => probing_any p w')
  have FD := Lib.hid (fun (M : Nat) (w' : World) (h : TMW w' B Q (some M) T MeterS.zero E w0) => h.find ky hs hh _ (LensAt.m M) 1 0 0)
  obtain ⟨ex, hex⟩ : ∃ ex, ex = T.ent ky hs := ⟨_, rfl⟩
  rw [← hex] at FD ⊢
  obtain ⟨e0, e1, e2⟩ := ex
  have AM := Lib.hid (fun (M : Nat) (w' : World) (h : Blk w' M 36 (addN MeterS.zero 1 0 0 (T.looks ky hs)).cells) => meterAll_any _ M 36 w' h)
  have ha0 := addN_probes (mt := MeterS.zero) (p := 0) rfl (by decide) (T.looks ky hs) (by omega)
  rw [Int.zero_add] at ha0
  rw [ha0] at AM
  generalize (addN MeterS.zero 1 0 0 (T.looks ky hs)).a1 = a1 at AM
  generalize (addN MeterS.zero 1 0 0 (T.looks ky hs)).a2 = a2 at AM
  have hfp := field_probes
  dsimp only at *
  clear h hex ha0
  go_enter Tryz.func87, Tryz.ntmps87
  go_wp2
  refine wp_at (fun w2 hw2 => ?_)
  have M2 := Lib.hid (show Blk w2 (w.heap.size + 1 + 1) 36 MeterS.zero.cells by rw [hw2]; simp only [MeterS.zero, MeterS.cells]; exact Blk.new_at (by simp))
  have P2 := Lib.hid (show Blk w2 w.heap.size 41 #[.int .u64 ky, .int .u64 vv, .int .u64 (hs : Int)] by rw [hw2]; exact ((Blk.new _ _ _).alloc _).alloc _)
  have O2 := Lib.hid (show Blk w2 (w.heap.size + 1) 41 #[.int .u64 0, .int .u64 0, .int .u64 0] by rw [hw2]; exact (Blk.new_at (by simp)).alloc _)
  have hb2 : Below w.heap.size w w2 := by rw [hw2]; go_grown
  have B2 := Lib.hid hb2
  have T2 := Lib.hid (show TMW w2 B Q (some (w.heap.size + 1 + 1)) T MeterS.zero E w0 from TMW.meter (HH.out.later hb2) M2.out (by omega) (by omega) (by omega))
  obtain ⟨O, hO⟩ : ∃ O, O = w.heap.size + 1 := ⟨_, rfl⟩
  rw [← hO] at O2 T2 M2
  simp only [← hO]
  obtain ⟨M, hM⟩ : ∃ M, M = O + 1 := ⟨_, rfl⟩
  rw [← hM] at T2 M2
  have S2 := Lib.hid (show SR w2 M O B Q T MeterS.zero E w0 w from ⟨T2.out, O2.out, B2.out⟩)
  have hMw : w.heap.size ≤ M := by omega
  have hOM : O ≠ M := by omega
  have hz2 : w.heap.size + 1 + 1 < w2.heap.size := by have := M2.out.lt; omega
  simp only [← hM]
  obtain ⟨p0, p1, p2⟩ := cells3 P2.out
  have zP := P2.out.lt
  have zM := M2.out.lt
  have zO := O2.out.lt
  have nN : ∀ b, w2.heap.size ≤ b → ¬ some M = some b := by rintro b hb e; exact absurd (Option.some.inj e) (by omega)
  replace hw2 := Lib.hid hw2
  have hXP : ¬ some M = some w.heap.size := fun e => by have := Option.some.inj e; omega
  replace hO := Lib.hid hO
  replace hM := Lib.hid hM
  clear hb2 T2 O2 B2 M2
  have FI := Lib.hid (fun (w' : World) (h : TMW w' B Q (some M) T MeterS.zero E w0) => FD.out M w' h)
  have AL := Lib.hid (fun (w' : World) (h : Blk w' M 36 (addN MeterS.zero 1 0 0 (T.looks ky hs)).cells) => AM.out M w' h)
  clear FD AM
  go_cut [8, 9] (fun v8 v9 wx => ∃ P, v8 = .pointer (some ⟨P, 0, none⟩) ∧ v9 = .bool (T.has ky hs) ∧ w2.heap.size ≤ P ∧ Blk wx P 41 #[.int .u64 e0, .int .u64 e1, .int .u64 e2] ∧ SR wx M O B Q T (addN MeterS.zero 1 0 0 (T.looks ky hs)) E w0 w)
  case first =>
    refine wp_region_T (fun b => some M = some b) #[⟨0, 0, 8192, 1, 0⟩, ⟨0, 0, 16384, 128, 0⟩, ⟨2, 2, 32768, 16384, 2⟩, ⟨0, 0, 65536, 8, 0⟩, ⟨8, 8, 131072, 65536, 1⟩, ⟨0, 0, 262144, 8, 0⟩, ⟨32, 32, 524288, 262144, 1⟩, ⟨85, 127, 1048576, 696320, 3⟩, ⟨128, 255, 4096, 1048576, 0⟩, ⟨256, 511, 2097152, 4096, 0⟩, ⟨256, 511, 4194304, 4096, 0⟩, ⟨0, 0, 256, 0, 2⟩, ⟨3071, 3071, 0, 2097408, 3⟩, ⟨8191, 8191, 512, 4194304, 0⟩] 80 (.step 0 0 (.step 1 0 (.step 3 0 (.step 4 1 (.step 5 0 (.step 6 1 (.fork (.alt 2 (.fork (.alt 7 (.step 8 0 (.step 9 0 (.step 10 0 (.step 11 2 (.step 12 3 (.step 13 0 Plan.done)))))) (.alt 11 (.step 7 3 (.step 8 0 (.step 9 0 (.step 10 0 (.step 12 3 (.step 13 0 Plan.done)))))) Plan.none))) (.alt 11 (.step 2 2 (.step 7 3 (.step 8 0 (.step 9 0 (.step 10 0 (.step 12 3 (.step 13 0 Plan.done))))))) Plan.none))))))))) (by kernel_rfl) (by kernel_rfl) (by kernel_rfl) (by kernel_rfl) (by kernel_rfl) (by kernel_rfl) (fun c a d v w h => by cases d <;> exact h) ?_
    refine T_calcA (h := ?_)
    try simp only [Act.put, List.setIfInBounds_toArray, List.set_cons_zero, List.set_cons_succ]
    refine T_calcA (h := ?_)
    try simp only [Act.put, List.setIfInBounds_toArray, List.set_cons_zero, List.set_cons_succ]
    refine T_calcA (h := ?_)
    try simp only [Act.put, List.setIfInBounds_toArray, List.set_cons_zero, List.set_cons_succ]
    refine T_load1A (hu := Tryz.underlying39) (h := ?_)
    try simp only [Act.put, List.setIfInBounds_toArray, List.set_cons_zero, List.set_cons_succ]
    refine T_calcA (h := ?_)
    try simp only [Act.put, List.setIfInBounds_toArray, List.set_cons_zero, List.set_cons_succ]
    refine T_load1A (hu := Tryz.underlying39) (h := ?_)
    try simp only [Act.put, List.setIfInBounds_toArray, List.set_cons_zero, List.set_cons_succ]
    refine T_fork (T_alt (by simp only [List.getElem?_toArray, List.getElem?_cons_succ, List.getElem?_cons_zero]; rfl) (by rfl) (fun K hK => ?_) (T_alt (by simp only [List.getElem?_toArray, List.getElem?_cons_succ, List.getElem?_cons_zero]; rfl) (by rfl) (fun K hK => ?_) T_none))
    (go_wp2_with (first | (go_at_call 12; refine (PB.out _ _).mono ?_; rintro e w4 ⟨rfl, hb4⟩; have S4 : Hid (SR w4 M O B Q T MeterS.zero E w0 w) := Lib.hid (by first | exact S2.out.drew.later hb4 | exact (S2.out.drew.alloc _).later hb4); have z4 : w2.heap.size ≤ w4.heap.size := (by first | exact hb4.size | (have := hb4.size; simp at this; omega)); (try have P4 : Hid (Blk w4 w2.heap.size 41 #[.int .u64 0, .int .u64 0, .int .u64 0]) := Lib.hid (Blk.below (Blk.new w2.drew _ _) hb4 (by simp))); have A4 : Hid (Blk w4 w.heap.size 41 #[.int .u64 ky, .int .u64 vv, .int .u64 (hs : Int)]) := Lib.hid (by first | exact P2.out.drew.below hb4 P2.out.lt | exact (P2.out.drew.alloc _).below hb4 (P2.out.drew.alloc _).lt)) | (go_at_call 129; (with_reducible refine (FI.out _ (by first | exact S4.out.t | exact (S4.out.alloc _).t)).mono ?_); rintro e w5 ⟨rfl, hs5, hc5⟩; have S5 : Hid (SR w5 M O B Q T (addN MeterS.zero 1 0 0 (T.looks ky hs)) E w0 w) := Lib.hid ((show SR _ M O B Q T MeterS.zero E w0 w by first | exact S4.out | exact S4.out.alloc _).find hs5 hc5 hMw hOM); have z5 : w4.heap.size ≤ w5.heap.size := (by first | exact hc5.size | (have := hc5.size; simp at this; omega)); (first | (have P5 : Hid (Blk w5 w2.heap.size 41 #[.int .u64 0, .int .u64 0, .int .u64 0]) := Lib.hid (P4.out.chg hc5 (nN _ (Nat.le_refl _))); have q5 := cells3 P5.out; have p50 := q5.1; have p51 := q5.2.1; have p52 := q5.2.2; clear q5; have pf5 := fun j => P5.out.frozen j; have zP5 := P5.out.lt) | (have P5 : Hid (Blk w5 w4.heap.size 41 #[.int .u64 0, .int .u64 0, .int .u64 0]) := Lib.hid ((Blk.new w4 _ _).chg hc5 (nN _ z4)); have q5 := cells3 P5.out; have p50 := q5.1; have p51 := q5.2.1; have p52 := q5.2.2; clear q5; have pf5 := fun j => P5.out.frozen j; have zP5 := P5.out.lt) | skip))); refine hkI hK (h := ?_); clear hK K)
    try simp only [Act.put, List.setIfInBounds_toArray, List.set_cons_zero, List.set_cons_succ]
    refine T_fork (T_alt (by simp only [List.getElem?_toArray, List.getElem?_cons_succ, List.getElem?_cons_zero]; rfl) (by rfl) (fun K hK => ?_) (T_alt (by simp only [List.getElem?_toArray, List.getElem?_cons_succ, List.getElem?_cons_zero]; rfl) (by rfl) (fun K hK => ?_) T_none))
    (go_wp2_with (first | (go_at_call 12; refine (PB.out _ _).mono ?_; rintro e w4 ⟨rfl, hb4⟩; have S4 : Hid (SR w4 M O B Q T MeterS.zero E w0 w) := Lib.hid (by first | exact S2.out.drew.later hb4 | exact (S2.out.drew.alloc _).later hb4); have z4 : w2.heap.size ≤ w4.heap.size := (by first | exact hb4.size | (have := hb4.size; simp at this; omega)); (try have P4 : Hid (Blk w4 w2.heap.size 41 #[.int .u64 0, .int .u64 0, .int .u64 0]) := Lib.hid (Blk.below (Blk.new w2.drew _ _) hb4 (by simp))); have A4 : Hid (Blk w4 w.heap.size 41 #[.int .u64 ky, .int .u64 vv, .int .u64 (hs : Int)]) := Lib.hid (by first | exact P2.out.drew.below hb4 P2.out.lt | exact (P2.out.drew.alloc _).below hb4 (P2.out.drew.alloc _).lt)) | (go_at_call 129; (with_reducible refine (FI.out _ (by first | exact S4.out.t | exact (S4.out.alloc _).t)).mono ?_); rintro e w5 ⟨rfl, hs5, hc5⟩; have S5 : Hid (SR w5 M O B Q T (addN MeterS.zero 1 0 0 (T.looks ky hs)) E w0 w) := Lib.hid ((show SR _ M O B Q T MeterS.zero E w0 w by first | exact S4.out | exact S4.out.alloc _).find hs5 hc5 hMw hOM); have z5 : w4.heap.size ≤ w5.heap.size := (by first | exact hc5.size | (have := hc5.size; simp at this; omega)); (first | (have P5 : Hid (Blk w5 w2.heap.size 41 #[.int .u64 0, .int .u64 0, .int .u64 0]) := Lib.hid (P4.out.chg hc5 (nN _ (Nat.le_refl _))); have q5 := cells3 P5.out; have p50 := q5.1; have p51 := q5.2.1; have p52 := q5.2.2; clear q5; have pf5 := fun j => P5.out.frozen j; have zP5 := P5.out.lt) | (have P5 : Hid (Blk w5 w4.heap.size 41 #[.int .u64 0, .int .u64 0, .int .u64 0]) := Lib.hid ((Blk.new w4 _ _).chg hc5 (nN _ z4)); have q5 := cells3 P5.out; have p50 := q5.1; have p51 := q5.2.1; have p52 := q5.2.2; clear q5; have pf5 := fun j => P5.out.frozen j; have zP5 := P5.out.lt) | skip))); refine hkI hK (h := ?_); clear hK K)
    try simp only [Act.put, List.setIfInBounds_toArray, List.set_cons_zero, List.set_cons_succ]
    refine T_calcA (h := ?_)
    try simp only [Act.put, List.setIfInBounds_toArray, List.set_cons_zero, List.set_cons_succ]
    refine T_calcA (h := ?_)
    try simp only [Act.put, List.setIfInBounds_toArray, List.set_cons_zero, List.set_cons_succ]
    refine T_calcA (h := ?_)
    try simp only [Act.put, List.setIfInBounds_toArray, List.set_cons_zero, List.set_cons_succ]
    refine T_doA (h := fun K hK => ?_); go_wp2_with (fail); refine hkI hK (h := ?_); clear hK K
    try simp only [Act.put, List.setIfInBounds_toArray, List.set_cons_zero, List.set_cons_succ]
    refine T_lastA (h := fun K hK => ?_); go_wp2_with (fail); refine hK.out _ _ ?_; clear hK K
    try simp only [Act.put, List.setIfInBounds_toArray, List.set_cons_zero, List.set_cons_succ]
    refine T_calcA (h := ?_)
    try simp only [Act.put, List.setIfInBounds_toArray, List.set_cons_zero, List.set_cons_succ]
    refine T_done ?_
    rotate_left 1
    (go_wp2_with (fail); refine hkI hK (h := ?_); clear hK K)
    try simp only [Act.put, List.setIfInBounds_toArray, List.set_cons_zero, List.set_cons_succ]
    refine T_lastA (h := fun K hK => ?_); go_wp2_with (first | (go_at_call 12; refine (PB.out _ _).mono ?_; rintro e w4 ⟨rfl, hb4⟩; have S4 : Hid (SR w4 M O B Q T MeterS.zero E w0 w) := Lib.hid (by first | exact S2.out.drew.later hb4 | exact (S2.out.drew.alloc _).later hb4); have z4 : w2.heap.size ≤ w4.heap.size := (by first | exact hb4.size | (have := hb4.size; simp at this; omega)); (try have P4 : Hid (Blk w4 w2.heap.size 41 #[.int .u64 0, .int .u64 0, .int .u64 0]) := Lib.hid (Blk.below (Blk.new w2.drew _ _) hb4 (by simp))); have A4 : Hid (Blk w4 w.heap.size 41 #[.int .u64 ky, .int .u64 vv, .int .u64 (hs : Int)]) := Lib.hid (by first | exact P2.out.drew.below hb4 P2.out.lt | exact (P2.out.drew.alloc _).below hb4 (P2.out.drew.alloc _).lt)) | (go_at_call 129; (with_reducible refine (FI.out _ (by first | exact S4.out.t | exact (S4.out.alloc _).t)).mono ?_); rintro e w5 ⟨rfl, hs5, hc5⟩; have S5 : Hid (SR w5 M O B Q T (addN MeterS.zero 1 0 0 (T.looks ky hs)) E w0 w) := Lib.hid ((show SR _ M O B Q T MeterS.zero E w0 w by first | exact S4.out | exact S4.out.alloc _).find hs5 hc5 hMw hOM); have z5 : w4.heap.size ≤ w5.heap.size := (by first | exact hc5.size | (have := hc5.size; simp at this; omega)); (first | (have P5 : Hid (Blk w5 w2.heap.size 41 #[.int .u64 0, .int .u64 0, .int .u64 0]) := Lib.hid (P4.out.chg hc5 (nN _ (Nat.le_refl _))); have q5 := cells3 P5.out; have p50 := q5.1; have p51 := q5.2.1; have p52 := q5.2.2; clear q5; have pf5 := fun j => P5.out.frozen j; have zP5 := P5.out.lt) | (have P5 : Hid (Blk w5 w4.heap.size 41 #[.int .u64 0, .int .u64 0, .int .u64 0]) := Lib.hid ((Blk.new w4 _ _).chg hc5 (nN _ z4)); have q5 := cells3 P5.out; have p50 := q5.1; have p51 := q5.2.1; have p52 := q5.2.2; clear q5; have pf5 := fun j => P5.out.frozen j; have zP5 := P5.out.lt) | skip))); refine hK.out _ _ ?_; clear hK K
    try simp only [Act.put, List.setIfInBounds_toArray, List.set_cons_zero, List.set_cons_succ]
    refine T_calcA (h := ?_)
    try simp only [Act.put, List.setIfInBounds_toArray, List.set_cons_zero, List.set_cons_succ]
    refine T_calcA (h := ?_)
    try simp only [Act.put, List.setIfInBounds_toArray, List.set_cons_zero, List.set_cons_succ]
    refine T_calcA (h := ?_)
    try simp only [Act.put, List.setIfInBounds_toArray, List.set_cons_zero, List.set_cons_succ]
    refine T_lastA (h := fun K hK => ?_); go_wp2_with (fail); refine hK.out _ _ ?_; clear hK K
    try simp only [Act.put, List.setIfInBounds_toArray, List.set_cons_zero, List.set_cons_succ]
    refine T_calcA (h := ?_)
    try simp only [Act.put, List.setIfInBounds_toArray, List.set_cons_zero, List.set_cons_succ]
    refine T_done ?_
    rotate_left 1
    rotate_right 2
    rotate_left 2
    (go_wp2_with (fail); refine hkI hK (h := ?_); clear hK K)
    try simp only [Act.put, List.setIfInBounds_toArray, List.set_cons_zero, List.set_cons_succ]
    refine T_doA (h := fun K hK => ?_); go_wp2_with (first | (go_at_call 12; refine (PB.out _ _).mono ?_; rintro e w4 ⟨rfl, hb4⟩; have S4 : Hid (SR w4 M O B Q T MeterS.zero E w0 w) := Lib.hid (by first | exact S2.out.drew.later hb4 | exact (S2.out.drew.alloc _).later hb4); have z4 : w2.heap.size ≤ w4.heap.size := (by first | exact hb4.size | (have := hb4.size; simp at this; omega)); (try have P4 : Hid (Blk w4 w2.heap.size 41 #[.int .u64 0, .int .u64 0, .int .u64 0]) := Lib.hid (Blk.below (Blk.new w2.drew _ _) hb4 (by simp))); have A4 : Hid (Blk w4 w.heap.size 41 #[.int .u64 ky, .int .u64 vv, .int .u64 (hs : Int)]) := Lib.hid (by first | exact P2.out.drew.below hb4 P2.out.lt | exact (P2.out.drew.alloc _).below hb4 (P2.out.drew.alloc _).lt)) | (go_at_call 129; (with_reducible refine (FI.out _ (by first | exact S4.out.t | exact (S4.out.alloc _).t)).mono ?_); rintro e w5 ⟨rfl, hs5, hc5⟩; have S5 : Hid (SR w5 M O B Q T (addN MeterS.zero 1 0 0 (T.looks ky hs)) E w0 w) := Lib.hid ((show SR _ M O B Q T MeterS.zero E w0 w by first | exact S4.out | exact S4.out.alloc _).find hs5 hc5 hMw hOM); have z5 : w4.heap.size ≤ w5.heap.size := (by first | exact hc5.size | (have := hc5.size; simp at this; omega)); (first | (have P5 : Hid (Blk w5 w2.heap.size 41 #[.int .u64 0, .int .u64 0, .int .u64 0]) := Lib.hid (P4.out.chg hc5 (nN _ (Nat.le_refl _))); have q5 := cells3 P5.out; have p50 := q5.1; have p51 := q5.2.1; have p52 := q5.2.2; clear q5; have pf5 := fun j => P5.out.frozen j; have zP5 := P5.out.lt) | (have P5 : Hid (Blk w5 w4.heap.size 41 #[.int .u64 0, .int .u64 0, .int .u64 0]) := Lib.hid ((Blk.new w4 _ _).chg hc5 (nN _ z4)); have q5 := cells3 P5.out; have p50 := q5.1; have p51 := q5.2.1; have p52 := q5.2.2; clear q5; have pf5 := fun j => P5.out.frozen j; have zP5 := P5.out.lt) | skip))); refine hkI hK (h := ?_); clear hK K
    try simp only [Act.put, List.setIfInBounds_toArray, List.set_cons_zero, List.set_cons_succ]
    refine T_lastA (h := fun K hK => ?_); go_wp2_with (first | (go_at_call 12; refine (PB.out _ _).mono ?_; rintro e w4 ⟨rfl, hb4⟩; have S4 : Hid (SR w4 M O B Q T MeterS.zero E w0 w) := Lib.hid (by first | exact S2.out.drew.later hb4 | exact (S2.out.drew.alloc _).later hb4); have z4 : w2.heap.size ≤ w4.heap.size := (by first | exact hb4.size | (have := hb4.size; simp at this; omega)); (try have P4 : Hid (Blk w4 w2.heap.size 41 #[.int .u64 0, .int .u64 0, .int .u64 0]) := Lib.hid (Blk.below (Blk.new w2.drew _ _) hb4 (by simp))); have A4 : Hid (Blk w4 w.heap.size 41 #[.int .u64 ky, .int .u64 vv, .int .u64 (hs : Int)]) := Lib.hid (by first | exact P2.out.drew.below hb4 P2.out.lt | exact (P2.out.drew.alloc _).below hb4 (P2.out.drew.alloc _).lt)) | (go_at_call 129; (with_reducible refine (FI.out _ (by first | exact S4.out.t | exact (S4.out.alloc _).t)).mono ?_); rintro e w5 ⟨rfl, hs5, hc5⟩; have S5 : Hid (SR w5 M O B Q T (addN MeterS.zero 1 0 0 (T.looks ky hs)) E w0 w) := Lib.hid ((show SR _ M O B Q T MeterS.zero E w0 w by first | exact S4.out | exact S4.out.alloc _).find hs5 hc5 hMw hOM); have z5 : w4.heap.size ≤ w5.heap.size := (by first | exact hc5.size | (have := hc5.size; simp at this; omega)); (first | (have P5 : Hid (Blk w5 w2.heap.size 41 #[.int .u64 0, .int .u64 0, .int .u64 0]) := Lib.hid (P4.out.chg hc5 (nN _ (Nat.le_refl _))); have q5 := cells3 P5.out; have p50 := q5.1; have p51 := q5.2.1; have p52 := q5.2.2; clear q5; have pf5 := fun j => P5.out.frozen j; have zP5 := P5.out.lt) | (have P5 : Hid (Blk w5 w4.heap.size 41 #[.int .u64 0, .int .u64 0, .int .u64 0]) := Lib.hid ((Blk.new w4 _ _).chg hc5 (nN _ z4)); have q5 := cells3 P5.out; have p50 := q5.1; have p51 := q5.2.1; have p52 := q5.2.2; clear q5; have pf5 := fun j => P5.out.frozen j; have zP5 := P5.out.lt) | skip))); refine hK.out _ _ ?_; clear hK K
    try simp only [Act.put, List.setIfInBounds_toArray, List.set_cons_zero, List.set_cons_succ]
    refine T_calcA (h := ?_)
    try simp only [Act.put, List.setIfInBounds_toArray, List.set_cons_zero, List.set_cons_succ]
    refine T_calcA (h := ?_)
    try simp only [Act.put, List.setIfInBounds_toArray, List.set_cons_zero, List.set_cons_succ]
    refine T_calcA (h := ?_)
    try simp only [Act.put, List.setIfInBounds_toArray, List.set_cons_zero, List.set_cons_succ]
    refine T_lastA (h := fun K hK => ?_); go_wp2_with (fail); refine hK.out _ _ ?_; clear hK K
    try simp only [Act.put, List.setIfInBounds_toArray, List.set_cons_zero, List.set_cons_succ]
    refine T_calcA (h := ?_)
    try simp only [Act.put, List.setIfInBounds_toArray, List.set_cons_zero, List.set_cons_succ]
    refine T_done ?_
    rotate_left 1
    rotate_right 3
    all_goals (go_wp2; go_meet; refine ⟨_, rfl, rfl, ?_, ?_, ?_⟩)
    all_goals
      first
        | exact Nat.le_refl _
        | assumption
        | exact Nat.le_trans z4 z5
        | with_reducible exact S5.out.new (((Chg.refl _ _).set1 _ _).set1 _ _ |>.set1 _ _) ⟨by omega, by omega⟩ ⟨by omega, by omega, by omega, by omega⟩
        | with_reducible exact (S5.out.alloc _).new (((Chg.refl _ _).set1 _ _).set1 _ _ |>.set1 _ _) ⟨by omega, by omega⟩ ⟨by omega, by omega, by omega, by omega⟩
        | with_reducible exact Blk.new _ _ _
        | with_reducible exact S5.out.alloc _
        | exact ((P5.out.set 0 _).set 1 _).set 2 _
  case rest =>
    obtain ⟨P, rfl, rfl, hP, hPb, hS⟩ := hcut
    have KS := Lib.hid hS
    obtain ⟨q0, q1, q2⟩ := cells3 hPb
    have zP' := hPb.lt
    have KP := Lib.hid hPb
    have hPO : P ≠ O := by omega
    clear hS hPb
    go_wp2
    refine wp_region_noPanic ?_
    refine wp_region_seq (fun b => b = O) #[⟨0, 0, 8388608, 256, 1⟩, ⟨0, 0, 16777216, 512, 0⟩, ⟨0, 0, 33554432, 128, 0⟩, ⟨4, 4, 67108864, 33554432, 2⟩, ⟨8, 12, 134217728, 67108864, 0⟩, ⟨9, 13, 0, 8388624, 3⟩, ⟨35, 47, 32, 16777216, 0⟩, ⟨127, 127, 64, 134217728, 0⟩] 1 [(0, 1), (1, 0), (2, 0), (3, 2), (4, 0), (5, 3), (6, 0), (7, 0)] (by kernel_rfl) (by kernel_rfl) (by kernel_rfl) (by kernel_rfl) (by kernel_rfl) (by kernel_rfl) (fun c a d v w h => by cases d <;> exact h) ?_
    refine seq_loadsA [_, _, _] (hu := Tryz.underlying41) (h := ?_)
    try simp only [Act.put, List.setIfInBounds_toArray, List.set_cons_zero, List.set_cons_succ]
    refine seq_calcA (h := ?_)
    try simp only [Act.put, List.setIfInBounds_toArray, List.set_cons_zero, List.set_cons_succ]
    refine seq_calcA (h := ?_)
    try simp only [Act.put, List.setIfInBounds_toArray, List.set_cons_zero, List.set_cons_succ]
    refine seq_doA (h := fun K hK => ?_); go_wp2_with (go_at_call 34; (with_reducible refine (AL.out _ KS.out.drew.m).mono ?_); rintro e w6 ⟨rfl, hb6⟩; have S6 := Lib.hid (KS.out.drew.later hb6); have q6 := cells3 S6.out.o; have q60 := q6.1; have q61 := q6.2.1; have q62 := q6.2.2; have zO6 := S6.out.o.lt; have fO6 := fun j => S6.out.o.frozen j; clear q6); refine hkA hK (h := ?_); clear hK K
    try simp only [Act.put, List.setIfInBounds_toArray, List.set_cons_zero, List.set_cons_succ]
    refine seq_calcA (h := ?_)
    try simp only [Act.put, List.setIfInBounds_toArray, List.set_cons_zero, List.set_cons_succ]
    refine seq_lastA (h := fun K hK => ?_); go_wp2_with (fail); refine hK.out _ _ ?_; clear hK K
    try simp only [Act.put, List.setIfInBounds_toArray, List.set_cons_zero, List.set_cons_succ]
    refine seq_calcA (h := ?_)
    try simp only [Act.put, List.setIfInBounds_toArray, List.set_cons_zero, List.set_cons_succ]
    refine seq_calcA (h := ?_)
    try simp only [Act.put, List.setIfInBounds_toArray, List.set_cons_zero, List.set_cons_succ]
    refine seq_nil ?_
    refine NoPanic.normal ?_
    go_wp2
    have hOw : w.heap.size ≤ O := by have := hO.out; omega
    refine wp_end_at (fun Wf hWf => ?_)
    have hC : Chg (fun b => b = O) w6 Wf := by rw [hWf]; exact (((Chg.refl _ _).set1 _ _).set1 _ _).set1 _ _
    have hR : Blk Wf O 41 #[.int .u64 e0, .int .u64 e1, .int .u64 e2] := by rw [hWf]; exact ((S6.out.o.set 0 _).set 1 _).set 2 _
    obtain ⟨r0, r1, r2⟩ := cells3 hR
    exact bodyPost_ret (v := .tuple #[.agg #[.int .u64 e0, .int .u64 e1, .int .u64 e2], .bool (T.has ky hs), .int .i64 ((T.looks ky hs : Nat) : Int)]) (by simp [results, Tryz.results87, go_sem, r0, r1, r2]) rfl
      ⟨rfl, S6.out.b.trans (hC.below (n := w.heap.size) S6.out.b.size (fun b hb e => by omega))⟩
set_option maxRecDepth 100000 in
set_option maxHeartbeats 8000000 in
theorem slook_any (h : TN w B Q T E w0) :
    Calls Tryz.prog 83 #[.pointer (some ⟨B, 0, none⟩)] w fun e w' => e = .returned (.agg (shp ((T.cnt 3 : Nat) : Int) ((T.cnt 2 : Nat) : Int) ((T.cnt 1 : Nat) : Int) ((T.opens : Nat) : Int) ((maxN T.lk T.ents : Nat) : Int) ((addL T.lk T.ents : Nat) : Int))) ∧ Below w.heap.size w w' := by
  have HH := Lib.hid h
  have hgood := h.good
  have hbd := h.good.bounds
  have hn : T.n ≤ 64 := hbd.1
  have TX := Lib.hid (fun (w' : World) (h : TN w' B Q T E w0) => TMW.text h)
  have EN := Lib.hid (fun (w' : World) (h : TN w' B Q T E w0) => sentries_any h)
  have HLEN := Lib.hid (show T.texts.length = T.n from TabS.texts_len _)
  have HGET := Lib.hid (show ∀ i (hi : i < T.texts.length), T.texts[i] = textW (T.M i) from fun i hi => by simp [TabS.texts])
  have CT := Lib.hid (fun (m : Nat) (c : UInt8) (w' : World) => count_one (textW m) c w')
  have HK := Lib.hid (fun i k => countK_le (T.M i) k)
  have HS := Lib.hid (fun k j => (sumN_le (f := fun i => countK (T.M i) k) (c := 8) (n := j) fun i _ => countK_le _ _))
  have HO := Lib.hid (fun j => (sumN_le (f := fun i => if openB (T.M i) = true then 1 else 0) (c := 1) (n := j) fun i _ => by split <;> omega))
  have HEL := Lib.hid (show T.ents.length ≤ 8 * T.n from entsTo_len T T.n)
  have HLK := Lib.hid (show ∀ e, T.lk e ≤ T.n from fun e => (looks_bd hgood _ _).2)
  have HEH := Lib.hid (show ∀ e ∈ T.ents, e.hash = ((e.hash.toNat : Nat) : Int) ∧ e.hash.toNat < 18446744073709551616 from fun e he => by
    obtain ⟨g, k, ha, rfl⟩ := ents_at he
    exact ents_hash (hgood.good g ha.hg) (entsL_mem.2 ⟨k, ha.hk, ha.full, rfl⟩))
  have SE := Lib.hid (fun (ky vv : Int) (hs : Nat) (hh : hs < 18446744073709551616) (w' : World) (h : TN w' B Q T E w0) => search_any h ky vv hs hh)
  obtain ⟨n, hnn⟩ : ∃ n, n = T.n := ⟨_, rfl⟩
  rw [← hnn] at hn HLEN HEL HLK
  have HN := Lib.hid hnn
  unfold TabS.cnt TabS.opens
  obtain ⟨l, hl⟩ : ∃ l, l = T.ents := ⟨_, rfl⟩
  rw [← hl] at EN HEL HEH ⊢
  rw [← hnn]
  clear h hbd hgood hnn hl
  go_enter Tryz.func83, Tryz.ntmps83
  go_wp2_with (go_at_call 26; (with_reducible refine (TX.out _ ((HH.out.alloc _).alloc _)).mono ?_); rintro e w1 ⟨tv, rfl, ht1, hb1⟩; obtain ⟨ta, tcap, rfl, hrd⟩ := ht1; have RD := Lib.hid hrd; have B1 := Lib.hid hb1; clear hrd hb1)
  refine wp_at (fun wL hwL => ?_)
  obtain ⟨z, hz⟩ : ∃ z, z = w.heap.size := ⟨_, rfl⟩
  have hz1 := B1.out.size
  have hzL : w.heap.size + 1 + 1 ≤ w1.heap.size := by simp at hz1; omega
  have S0 := Lib.hid (show Blk wL (z + 1) 146 (shp ((sumN (fun i => countK (T.M i) 3) 0 : Nat) : Int) ((sumN (fun i => countK (T.M i) 2) 0 : Nat) : Int) ((sumN (fun i => countK (T.M i) 1) 0 : Nat) : Int) ((sumN (fun i => if openB (T.M i) = true then 1 else 0) 0 : Nat) : Int) 0 0) by rw [hwL, hz]; exact Blk.below (Blk.new_at (by simp)) B1.out (by simp))
  have R0 := Lib.hid (show Blk wL z 146 (shp 0 0 0 0 0 0) by rw [hwL, hz]; exact Blk.below ((Blk.new w _ _).alloc _) B1.out (by simp; omega))
  have T0 := Lib.hid (show ∀ i, i < n → ∃ b off, ta = some ⟨b, off, none⟩ ∧ b < wL.heap.size ∧ wL.cell? ⟨b, off + i, none⟩ = some (.string (textW (T.M i))) from fun i hi => by
    have hl := HLEN.out
    obtain ⟨b, off, e1, e2, e3⟩ := RD.out (fun e => by rw [e] at hl; simp at hl; omega)
    have := e3 i (by omega)
    rw [HGET.out i (by omega)] at this
    rw [hwL]; exact ⟨b, off, e1, e2, this⟩)
  have BL := Lib.hid (show Below w.heap.size w wL by rw [hwL]; exact (show Below w.heap.size w _ by go_grown).trans (B1.out.mono (by simp; omega)))
  rw [← hz]
  rw [HLEN.out]
  have HZ := Lib.hid hz
  replace hwL := Lib.hid hwL
  clear hz hz1 hzL B1 RD
  go_loopw [18] (fun v18 wr => ∃ k : Nat, k ≤ n ∧ v18 = .int .i64 (k : Int) ∧ Blk wr (z + 1) 146 (shp ((sumN (fun i => countK (T.M i) 3) k : Nat) : Int) ((sumN (fun i => countK (T.M i) 2) k : Nat) : Int) ((sumN (fun i => countK (T.M i) 1) k : Nat) : Int) ((sumN (fun i => if openB (T.M i) = true then 1 else 0) k : Nat) : Int) 0 0) ∧ Blk wr z 146 (shp 0 0 0 0 0 0) ∧ Chg (fun b => b = z + 1) wL wr) (fun v18 _ => n - (intOf v18).toNat)
  case atStart => exact ⟨0, Nat.zero_le _, rfl, S0.out, R0.out, Chg.refl _ _⟩
  case round =>
    obtain ⟨k, hk, rfl, hS, hR, hC⟩ := hrel
    have KS := Lib.hid hS
    have KR := Lib.hid hR
    have KC := Lib.hid hC
    have zRL := R0.out.lt
    have zSL := S0.out.lt
    have hLr := hC.size
    clear hS hR hC
    by_cases hlt : k < n
    · have hltI : (k : Int) < (n : Int) := by omega
      obtain ⟨b, off, rfl, hbz, hbc⟩ := T0.out k hlt
      have hbS : b ≠ z + 1 := fun e => by
        subst e
        rw [S0.out.cell (off + k)] at hbc
        exact shp_int _ _ _ _ _ _ _ _ hbc
      have g0 := (KC.out.cell (p := ⟨b, off + k, none⟩) hbz hbS).trans hbc
      have zb : b < wr.heap.size := Nat.lt_of_lt_of_le hbz hLr
      have q3 := HS.out 3 k
      have q2 := HS.out 2 k
      have q1 := HS.out 1 k
      have q0 := HO.out k
      have p3 := HK.out k 3
      have p2 := HK.out k 2
      have p1 := HK.out k 1
      have C35 := Lib.hid (CT.out (T.M k) 35)
      have C120 := Lib.hid (CT.out (T.M k) 120)
      have C46 := Lib.hid (CT.out (T.M k) 46)
      rw [show (35 : UInt8) = signK 3 from rfl, count_sign _ 3 (by decide)] at C35
      rw [show (120 : UInt8) = signK 2 from rfl, count_sign _ 2 (by decide)] at C120
      rw [show (46 : UInt8) = signK 1 from rfl, count_sign _ 1 (by decide)] at C46
      simp only [show signK 3 = 35 from rfl, show signK 2 = 120 from rfl, show signK 1 = 46 from rfl] at C35 C120 C46
      have E3 := Lib.hid (show sumN (fun i => countK (T.M i) 3) (k + 1) = sumN (fun i => countK (T.M i) 3) k + countK (T.M k) 3 from rfl)
      have E2 := Lib.hid (show sumN (fun i => countK (T.M i) 2) (k + 1) = sumN (fun i => countK (T.M i) 2) k + countK (T.M k) 2 from rfl)
      have E1 := Lib.hid (show sumN (fun i => countK (T.M i) 1) (k + 1) = sumN (fun i => countK (T.M i) 1) k + countK (T.M k) 1 from rfl)
      have E0 := Lib.hid (show sumN (fun i => if openB (T.M i) = true then 1 else 0) (k + 1) = sumN (fun i => if openB (T.M i) = true then 1 else 0) k + (if openB (T.M k) = true then 1 else 0) from rfl)
      have hop := open_count (T.M k)
      rw [hop] at E0
      generalize sumN (fun i => countK (T.M i) 3) k = a3 at *
      generalize sumN (fun i => countK (T.M i) 2) k = a2 at *
      generalize sumN (fun i => countK (T.M i) 1) k = a1 at *
      generalize sumN (fun i => if openB (T.M i) = true then 1 else 0) k = a0 at *
      generalize countK (T.M k) 3 = d3 at *
      generalize countK (T.M k) 2 = d2 at *
      generalize countK (T.M k) 1 = d1 at *
      generalize textW (T.M k) = tx at *
      have w3 : IntKind.i64.wrap ((a3 : Int) + (d3 : Int)) = ((a3 + d3 : Nat) : Int) := by rw [IntKind.wrap_i64]; omega
      have w2 : IntKind.i64.wrap ((a2 : Int) + (d2 : Int)) = ((a2 + d2 : Nat) : Int) := by rw [IntKind.wrap_i64]; omega
      have w1 : IntKind.i64.wrap ((a1 : Int) + (d1 : Int)) = ((a1 + d1 : Nat) : Int) := by rw [IntKind.wrap_i64]; omega
      have w0' : IntKind.i64.wrap ((a0 : Int) + 1) = ((a0 + 1 : Nat) : Int) := by rw [IntKind.wrap_i64]; omega
      clear hbz hbc hop q3 q2 q1 q0 p3 p2 p1
      go_upto_region 7 with (fail)
      obtain ⟨s0, s1, s2, s3, s4, s5, zS, fS⟩ := shp_cells KS.out
      refine wp_region_seq (fun _ => False) #[⟨0, 0, 4194304, 8, 0⟩, ⟨1, 1, 8388608, 4194304, 1⟩, ⟨0, 0, 16777216, 32, 0⟩, ⟨4, 4, 33554432, 16777216, 2⟩, ⟨10, 15, 67108864, 41943040, 0⟩, ⟨31, 31, 134217728, 8, 0⟩, ⟨63, 63, 0, 201326592, 3⟩] 2 [(0, 0), (1, 1), (2, 0), (3, 2), (4, 0), (5, 0), (6, 3)] (by kernel_rfl) (by kernel_rfl) (by kernel_rfl) (by kernel_rfl) (by kernel_rfl) (by kernel_rfl) (fun c a d v w h => by cases d <;> exact h) ?_
      refine seq_calcA (h := ?_)
      try simp only [Act.put, List.setIfInBounds_toArray, List.set_cons_zero, List.set_cons_succ]
      refine seq_load1A (hu := Tryz.underlying3) (h := ?_)
      try simp only [Act.put, List.setIfInBounds_toArray, List.set_cons_zero, List.set_cons_succ]
      refine seq_calcA (h := ?_)
      try simp only [Act.put, List.setIfInBounds_toArray, List.set_cons_zero, List.set_cons_succ]
      refine seq_doA (h := fun K hK => ?_); go_wp2_with (go_at_call 127; (with_reducible refine (C35.out _).mono ?_); rintro e w' ⟨rfl, rfl⟩); refine hkA hK (h := ?_); clear hK K
      try simp only [Act.put, List.setIfInBounds_toArray, List.set_cons_zero, List.set_cons_succ]
      refine seq_calcA (h := ?_)
      try simp only [Act.put, List.setIfInBounds_toArray, List.set_cons_zero, List.set_cons_succ]
      refine seq_calcA (h := ?_)
      try simp only [Act.put, List.setIfInBounds_toArray, List.set_cons_zero, List.set_cons_succ]
      refine seq_lastA (h := fun K hK => ?_); go_wp2_with (fail); refine hK.out _ _ ?_; clear hK K
      try simp only [Act.put, List.setIfInBounds_toArray, List.set_cons_zero, List.set_cons_succ]
      refine seq_nil ?_
      go_upto_region 8 with (fail)
      refine wp_at (fun w7 hw7 => ?_)
      have S7 := Lib.hid (show Blk w7 (z + 1) 146 (shp ((a3 + d3 : Nat) : Int) (a2 : Int) (a1 : Int) (a0 : Int) 0 0) by rw [hw7]; exact Blk.drew (KS.out.set 0 _))
      have C7 := Lib.hid (show Chg (fun b => b = z + 1) wL w7 by rw [hw7]; exact (KC.out.set1 _ _).drew)
      have R7 := Lib.hid (show Blk w7 z 146 (shp 0 0 0 0 0 0) by rw [hw7]; exact Blk.drew (KR.out.other (by omega) _ _))
      replace hw7 := Lib.hid hw7
      clear KS KC KR s0 s1 s2 s3 s4 s5 zS fS g0 zb
      obtain ⟨s0, s1, s2, s3, s4, s5, zS, fS⟩ := shp_cells S7.out
      refine wp_region_seq (fun _ => False) #[⟨0, 0, 268435456, 8, 0⟩, ⟨1, 1, 536870912, 268435456, 1⟩, ⟨0, 0, 1073741824, 32, 0⟩, ⟨4, 4, 2147483648, 1073741824, 2⟩, ⟨10, 15, 4294967296, 2684354560, 0⟩, ⟨31, 31, 8589934592, 8, 0⟩, ⟨63, 63, 0, 12884901888, 3⟩] 2 [(0, 0), (1, 1), (2, 0), (3, 2), (4, 0), (5, 0), (6, 3)] (by kernel_rfl) (by kernel_rfl) (by kernel_rfl) (by kernel_rfl) (by kernel_rfl) (by kernel_rfl) (fun c a d v w h => by cases d <;> exact h) ?_
      refine seq_calcA (h := ?_)
      try simp only [Act.put, List.setIfInBounds_toArray, List.set_cons_zero, List.set_cons_succ]
      refine seq_load1A (hu := Tryz.underlying3) (h := ?_)
      try simp only [Act.put, List.setIfInBounds_toArray, List.set_cons_zero, List.set_cons_succ]
      refine seq_calcA (h := ?_)
      try simp only [Act.put, List.setIfInBounds_toArray, List.set_cons_zero, List.set_cons_succ]
      refine seq_doA (h := fun K hK => ?_); go_wp2_with (go_at_call 127; (with_reducible refine (C120.out _).mono ?_); rintro e w' ⟨rfl, rfl⟩); refine hkA hK (h := ?_); clear hK K
      try simp only [Act.put, List.setIfInBounds_toArray, List.set_cons_zero, List.set_cons_succ]
      refine seq_calcA (h := ?_)
      try simp only [Act.put, List.setIfInBounds_toArray, List.set_cons_zero, List.set_cons_succ]
      refine seq_calcA (h := ?_)
      try simp only [Act.put, List.setIfInBounds_toArray, List.set_cons_zero, List.set_cons_succ]
      refine seq_lastA (h := fun K hK => ?_); go_wp2_with (fail); refine hK.out _ _ ?_; clear hK K
      try simp only [Act.put, List.setIfInBounds_toArray, List.set_cons_zero, List.set_cons_succ]
      refine seq_nil ?_
      go_upto_region 9 with (fail)
      refine wp_at (fun w8 hw8 => ?_)
      have S8 := Lib.hid (show Blk w8 (z + 1) 146 (shp ((a3 + d3 : Nat) : Int) ((a2 + d2 : Nat) : Int) (a1 : Int) (a0 : Int) 0 0) by rw [hw8]; exact Blk.drew (S7.out.set 1 _))
      have C8 := Lib.hid (show Chg (fun b => b = z + 1) wL w8 by rw [hw8]; exact (C7.out.set1 _ _).drew)
      have R8 := Lib.hid (show Blk w8 z 146 (shp 0 0 0 0 0 0) by rw [hw8]; exact Blk.drew (R7.out.other (by omega) _ _))
      replace hw8 := Lib.hid hw8
      clear S7 C7 R7 s0 s1 s2 s3 s4 s5 zS fS
      obtain ⟨s0, s1, s2, s3, s4, s5, zS, fS⟩ := shp_cells S8.out
      by_cases hd : 0 < d1
      · have hdI : (0 : Int) < (d1 : Int) := by omega
        rw [decide_eq_true hd] at E0
        simp only [if_true] at E0
        go_wp2_with (go_at_call 127; (with_reducible refine (C46.out _).mono ?_); rintro e w' ⟨rfl, rfl⟩)
        go_roundw
        case rel => exact ⟨k + 1, by omega, by go_num, by rw [E3.out, E2.out, E1.out, E0.out]; exact (S8.out.set 2 _).set 3 _, (R8.out.other (by omega) _ _).other (by omega) _ _, (C8.out.set1 _ _).set1 _ _⟩
        case measure => simp [intOf]; omega
      · have HD0 := Lib.hid (show d1 = 0 by omega)
        rw [decide_eq_false hd] at E0
        have hdI : ¬ (0 : Int) < (d1 : Int) := by omega
        have hdB : decide ((d1 : Int) > 0) = false := by simp; omega
        have hdJ : (d1 : Int) ≤ 0 := by omega
        simp only [Bool.false_eq_true, if_false, Nat.add_zero] at E0
        go_wp2_with (go_at_call 127; (with_reducible refine (C46.out _).mono ?_); rintro e w' ⟨rfl, rfl⟩)
        go_roundw
        case rel => exact ⟨k + 1, by omega, by go_num, by rw [E3.out, E2.out, E1.out, E0.out]; exact S8.out.set 2 _, R8.out.other (by omega) _ _, C8.out.set1 _ _⟩
        case measure => simp [intOf]; omega
    · obtain rfl : k = n := by omega
      have HBr := Lib.hid (BL.out.trans (KC.out.below (n := w.heap.size) BL.out.size (fun b hb e => by have := HZ.out; omega)))
      have HN := Lib.hid (show TN wr B Q T E w0 from HH.out.later HBr.out)
      clear T0 S0 R0 BL
      have hll := HEL.out
      go_wp2_with (go_at_call 86; (with_reducible refine (EN.out _ HN.out).mono ?_); rintro e w9 ⟨ev, rfl, hr9, hb9⟩; obtain ⟨ea, ecap, rfl⟩ := ownsRow_slice hr9; have S9 := Lib.hid (KS.out.below hb9 KS.out.lt); have R9 := Lib.hid (KR.out.below hb9 KR.out.lt); have B9 := Lib.hid (HBr.out.trans (hb9.mono HBr.out.size)); have W9 := Lib.hid hr9; clear hr9)
      have hz9 : z + 1 < wr.heap.size := KS.out.lt
      have hMX : maxN T.lk (l.take 0) = 0 := rfl
      go_loopw [51] (fun v51 wx => ∃ j : Nat, j ≤ l.length ∧ v51 = .int .i64 (j : Int) ∧ Blk wx (z + 1) 146 (shp ((sumN (fun i => countK (T.M i) 3) k : Nat) : Int) ((sumN (fun i => countK (T.M i) 2) k : Nat) : Int) ((sumN (fun i => countK (T.M i) 1) k : Nat) : Int) ((sumN (fun i => if openB (T.M i) = true then 1 else 0) k : Nat) : Int) ((maxN T.lk (l.take j) : Nat) : Int) ((addL T.lk (l.take j) : Nat) : Int)) ∧ Blk wx z 146 (shp 0 0 0 0 0 0) ∧
        wx.ownsRow wr.heap.size 41 3 (.slice ea l.length ecap) l.length (entV l) ∧ Below w.heap.size w wx ∧ addL T.lk (l.take j) ≤ k * j ∧ maxN T.lk (l.take j) ≤ k) (fun v51 _ => l.length - (intOf v51).toNat)
      case atStart => exact ⟨0, Nat.zero_le _, rfl, S9.out, R9.out, W9.out, B9.out, by simp [addL], by simp [maxN]⟩
      case round =>
        clear S9 R9 W9 B9 hMX HBr HN KS KR KC
        obtain ⟨j, hj, rfl, hS, hR, hW, hB, hA1, hA2⟩ := hrel
        obtain ⟨wA, hwA⟩ : ∃ wA, wA = wr := ⟨_, rfl⟩
        subst hwA
        have KS := Lib.hid hS
        have KR := Lib.hid hR
        have KW := Lib.hid hW
        have KB := Lib.hid hB
        clear hS hR hW hB
        by_cases hlt : j < l.length
        · have hltI : (j : Int) < (l.length : Int) := by omega
          obtain ⟨ea', ecap', e, -, hrow⟩ := ents_own KW.out
          cases e
          obtain ⟨b, rfl, hbb, hbz, hcl⟩ := hrow (fun e => by rw [e] at hlt; exact absurd hlt (by simp))
          obtain ⟨g0, g1, g2⟩ := hcl j hlt
          obtain ⟨hh1, hh2⟩ := HEH.out l[j] (List.getElem_mem hlt)
          have HM := Lib.hid (maxN_take (f := T.lk) hlt)
          have HA := Lib.hid (addL_take (f := T.lk) hlt)
          have hlk := HLK.out l[j]
          have HLJ := Lib.hid (show T.lk l[j] = T.looks l[j].key l[j].hash.toNat from rfl)
          rw [hh1] at g2
          rw [HLJ.out] at HM HA hlk
          generalize l[j].hash.toNat = hs' at *
          generalize l[j].key = ky at *
          generalize l[j].val = vv at *
          have SJ := Lib.hid (fun (w' : World) (h : TN w' B Q T E w0) => SE.out ky vv hs' hh2 w' h)
          have hkj : k * (j + 1) = k * j + k := Nat.mul_succ _ _
          have hkj2 : k * j ≤ 64 * 512 := Nat.mul_le_mul (by omega) (by omega)
          generalize T.looks ky hs' = lk at *
          generalize T.ent ky hs' = en at *
          generalize T.has ky hs' = hb at *
          generalize maxN T.lk (l.take j) = mx at *
          generalize addL T.lk (l.take j) = ad at *
          generalize k * j = kj at *
          have w5' : IntKind.i64.wrap ((ad : Int) + (lk : Int)) = ((ad + lk : Nat) : Int) := by rw [IntKind.wrap_i64]; omega
          obtain ⟨m2, hm2⟩ : ∃ m2, m2 = max mx lk := ⟨_, rfl⟩
          have e4 : mxZ (mx : Int) (lk : Int) = (m2 : Int) := by rw [hm2]; exact mxZ_nat mx lk
          have e4b : max (mx : Int) (lk : Int) = (m2 : Int) := by rw [hm2]; omega
          rw [← hm2] at HM
          have hm3 : m2 ≤ k := by omega
          replace hm2 := Lib.hid hm2
          clear hcl hrow hh1
          have S0 := KS.out.lt
          go_upto_region 17 with (fail)
          refine wp_at (fun w2 hw2 => ?_)
          have hb2 : Below wA.heap.size wA w2 := by rw [hw2]; go_grown
          have B2 := Lib.hid (KB.out.trans (hb2.mono KB.out.size))
          have S2 := Lib.hid (KS.out.below hb2 KS.out.lt)
          have R2 := Lib.hid (KR.out.below hb2 KR.out.lt)
          have W2 := Lib.hid (ownsRow_later KW.out hb2)
          have P2 := Lib.hid (show Blk w2 wA.heap.size 41 #[.int .u64 ky, .int .u64 vv, .int .u64 (hs' : Int)] by rw [hw2]; exact Blk.new _ _ _)
          obtain ⟨p0, p1, p2⟩ := cells3 P2.out
          have zP := P2.out.lt
          replace hw2 := Lib.hid hw2
          clear g0 g1 g2 hbz hb2 KS KR KW
          go_upto_region 18 with (go_at_call 87; (with_reducible refine (SJ.out _ (HH.out.later B2.out)).mono ?_); rintro e w3 ⟨rfl, hb3⟩; have B3 := Lib.hid hb3; clear hb3)
          refine wp_at (fun w4 hw4 => ?_)
          have hb4 : Below w2.heap.size w2 w4 := by rw [hw4]; exact B3.out.alloc B3.out.size _
          have B4 := Lib.hid (B2.out.trans (hb4.mono B2.out.size))
          have S4 := Lib.hid (S2.out.below hb4 S2.out.lt)
          have R4 := Lib.hid (R2.out.below hb4 R2.out.lt)
          have W4 := Lib.hid (ownsRow_later W2.out hb4)
          replace hw4 := Lib.hid hw4
          clear hb4 S2 R2 W2 P2 p0 p1 p2 B3
          obtain ⟨s0, s1, s2, s3, s4, s5, zS, fS⟩ := shp_cells S4.out
          go_wp2
          go_roundw
          case rel => exact ⟨j + 1, by omega, by go_num, by rw [HM.out, HA.out]; exact (S4.out.set 4 _).set 5 _, (R4.out.other (by omega) _ _).other (by omega) _ _, ownsRow_chg (X := fun b => b = z + 1) W4.out (((Chg.refl _ _).set1 _ _).set1 _ _) (fun b hb e => by omega), B4.out.trans ((((Chg.refl (fun b => b = z + 1) w4).set1 _ _).set1 _ _).below (n := w.heap.size) B4.out.size (fun b hb e => by have := HZ.out; omega)), by rw [HA.out]; omega, by rw [HM.out]; omega⟩
          case measure => simp [intOf]; omega
        · obtain rfl : j = l.length := by omega
          rw [List.take_length] at KS
          obtain ⟨s0, s1, s2, s3, s4, s5, zS, fS⟩ := shp_cells KS.out
          obtain ⟨r0, r1, r2, r3, r4, r5, zR, fR⟩ := shp_cells KR.out
          go_wp2
          refine wp_end_at (fun Wf hWf => ?_)
          have hR : Blk Wf z 146 (shp ((sumN (fun i => countK (T.M i) 3) k : Nat) : Int) ((sumN (fun i => countK (T.M i) 2) k : Nat) : Int) ((sumN (fun i => countK (T.M i) 1) k : Nat) : Int) ((sumN (fun i => if openB (T.M i) = true then 1 else 0) k : Nat) : Int) ((maxN T.lk l : Nat) : Int) ((addL T.lk l : Nat) : Int)) := by
            rw [hWf]
            exact (((((KR.out.set 0 _).set 1 _).set 2 _).set 3 _).set 4 _).set 5 _
          have hC : Chg (fun b => b = z) wA Wf := by rw [hWf]; exact ((((((Chg.refl _ _).set1 _ _).set1 _ _).set1 _ _).set1 _ _).set1 _ _).set1 _ _
          obtain ⟨x0, x1, x2, x3, x4, x5, -, -⟩ := shp_cells hR
          exact bodyPost_ret (v := .agg (shp ((sumN (fun i => countK (T.M i) 3) k : Nat) : Int) ((sumN (fun i => countK (T.M i) 2) k : Nat) : Int) ((sumN (fun i => countK (T.M i) 1) k : Nat) : Int) ((sumN (fun i => if openB (T.M i) = true then 1 else 0) k : Nat) : Int) ((maxN T.lk l : Nat) : Int) ((addL T.lk l : Nat) : Int))) (by simp [results, Tryz.results83, go_sem, x0, x1, x2, x3, x4, x5, shp]) rfl ⟨rfl, KB.out.trans (hC.below (n := w.heap.size) KB.out.size (fun b hb e => by have := HZ.out; omega))⟩
end
end Go.Proofs.YtcnkgiapidlbkaaGreatDoor

namespace Go.Proofs.YtcnkgiapidlbkaaGreatDoor
open Go.RowKit Go.Proofs Go.Maps
attribute [local go_sem] neq_nilG eql_nilG
theorem om_below {H : Type} {P : Program} {k : TypeId} {R : Value → Option (DataW H × List MemPlace)} {w w' : World} {b n m : Nat} {D : DataW H} (h : w.ownsMap P k R b n D) (hb : Below m w w') (hlt : b < m) : w'.ownsMap P k R b n D := by
  obtain ⟨es, clock, h1, h2, h3, h4⟩ := h
  exact ⟨es, clock, (hb.block b hlt).trans h1, h2, h3, h4⟩
theorem zeroInt (w : World) : (zeroValue 3).run Tryz.prog w = .ok (.int .i64 0) w := by kernel_rfl
theorem u64K : Keyed Tryz.prog 39 := int_keyed Tryz.underlying39
theorem wfk_u64 {a : Int} (h : 0 ≤ a ∧ a < 18446744073709551616) : (Lit.int .u64 a).wf = true := by
  exact WalkArith.wf_u64 ⟨h.1, by omega⟩
def KB (T : TabS) : Prop := ∀ i g k, T.At i g k → 0 ≤ i ∧ i < 18446744073709551616
section
variable {w w' w0 : World} {B Q : Nat} {T : TabS} {E : Nat → Addr} {H : Int → Nat}
set_option maxRecDepth 100000 in
set_option maxHeartbeats 8000000 in
theorem scheck_any (h : TN w B Q T E w0) (hF : TFun T H) (hH : ∀ i, H i < 18446744073709551616) (hk : KB T) :
    Calls Tryz.prog 43 #[.pointer (some ⟨B, 0, none⟩)] w fun e w' => e = .returned .nilIface ∧ Below w.heap.size w w' := by
  have HH := Lib.hid h
  have hgood := h.good
  have hbd := h.good.bounds
  have LK := Lib.hid (fun (w' : World) (h : TN w' B Q T E w0) => slook_any h)
  have EN := Lib.hid (fun (w' : World) (h : TN w' B Q T E w0) => sentries_any h)
  have LN := Lib.hid (fun (w' : World) (h : TN w' B Q T E w0) => TMW.len h)
  have TB := Lib.hid (fun (w' : World) (h : TN w' B Q T E w0) => TMW.tombs h)
  have LF := Lib.hid (fun (w' : World) (h : TN w' B Q T E w0) => TMW.left h)
  have hleft : 0 ≤ T.left := by have := hF.load; unfold TabS.left; omega
  have hll : T.ents.length ≤ 8 * T.n := entsTo_len T T.n
  have HPW := Lib.hid (hF.pw T.n (Nat.le_refl _))
  have HEN := Lib.hid (show ∀ e ∈ T.ents, (0 ≤ e.key ∧ e.key < 18446744073709551616) ∧ e.hash = (H e.key : Int) ∧ T.has e.key (H e.key) = true ∧ T.ent e.key (H e.key) = e from fun e he => by
    obtain ⟨g, k, ha, he2⟩ := ents_at he
    exact ⟨hk _ _ _ ha, by rw [← hF.hash _ _ _ ha, he2], hF.has_of ha, (hF.ent_of ha).trans he2⟩)
  have SE := Lib.hid (fun (ky vv : Int) (hs : Nat) (hh : hs < 18446744073709551616) (w' : World) (h : TN w' B Q T E w0) => search_any h ky vv hs hh)
  rw [hgood.lv] at LN
  rw [hgood.tb] at TB
  simp only [shp] at LK
  obtain ⟨l, hl⟩ : ∃ l, l = T.ents := ⟨_, rfl⟩
  rw [show entsTo' T T.n = T.ents from rfl, ← hl] at HPW
  rw [← hl] at EN HEN hll
  rw [← hl] at LK
  generalize T.cnt 3 = c3 at *
  generalize T.cnt 2 = c2 at *
  generalize T.cnt 1 = c1 at *
  generalize T.opens = c0 at *
  generalize maxN T.lk l = mx at *
  generalize addL T.lk l = ad at *
  generalize T.left = left at *
  have HHS := Lib.hid hH
  have hmm := @run_makeMap Tryz.prog
  have hn0 : decide (left < 0) = false := by simp; omega
  have hn64 : l.length ≤ 512 := by omega
  clear h hbd hgood hF hH hk hl hleft hll
  go_enter Tryz.func43, Tryz.ntmps43
  go_wp2_with (go_at_call 83; (with_reducible refine (LK.out _ HH.out).mono ?_); rintro e w1 ⟨rfl, hb1⟩; have H1 := Lib.hid (HH.out.later hb1); have B1 := Lib.hid hb1; clear hb1)
  refine wp_at (fun w2 hw2 => ?_)
  have S2 := Lib.hid (show Blk w2 w1.heap.size 146 (shp (c3 : Int) (c2 : Int) (c1 : Int) (c0 : Int) (mx : Int) (ad : Int)) by rw [hw2]; exact Blk.new _ _ _)
  have hb2 : Below w1.heap.size w1 w2 := by rw [hw2]; exact (Below.refl _ _).alloc (Nat.le_refl _) _
  have H2 := Lib.hid (H1.out.later hb2)
  have B2 := Lib.hid (B1.out.trans (hb2.mono B1.out.size))
  obtain ⟨s0, s1, s2, s3, s4, s5, zS, fS⟩ := shp_cells S2.out
  replace hw2 := Lib.hid hw2
  clear hb2 H1 B1 S2
  refine wp_region_seq (fun _ => False) #[⟨0, 0, 32768, 8, 0⟩, ⟨1, 1, 65536, 32768, 1⟩, ⟨0, 0, 131072, 1, 0⟩, ⟨4, 4, 262144, 131072, 2⟩, ⟨10, 15, 524288, 327680, 0⟩, ⟨24, 31, 1048576, 524288, 0⟩, ⟨32, 63, 2097152, 1048584, 0⟩, ⟨96, 127, 4194304, 3145728, 1⟩, ⟨32, 63, 8388608, 1048577, 0⟩, ⟨288, 319, 16777216, 9437184, 2⟩, ⟨672, 1023, 33554432, 22020096, 0⟩, ⟨1056, 2047, 67108864, 34603008, 0⟩, ⟨2560, 4095, 134217728, 67108864, 0⟩, ⟨4096, 8191, 268435456, 134217729, 0⟩, ⟨12288, 16383, 536870912, 402653184, 3⟩, ⟨20480, 32767, 1073741824, 671088640, 0⟩, ⟨36864, 65535, 2147483648, 1207959552, 0⟩] 130 [(0, 0), (1, 1), (2, 0), (3, 2), (4, 0), (5, 0), (6, 0), (7, 1), (8, 0), (9, 2), (10, 0), (11, 0), (12, 0), (13, 0), (14, 3), (15, 0), (16, 0)] (by kernel_rfl) (by kernel_rfl) (by kernel_rfl) (by kernel_rfl) (by kernel_rfl) (by kernel_rfl) (fun c a d v w h => by cases d <;> exact h) ?_
  refine seq_calcA (h := ?_)
  try simp only [Act.put, List.setIfInBounds_toArray, List.set_cons_zero, List.set_cons_succ]
  refine seq_load1A (hu := Tryz.underlying3) (h := ?_)
  try simp only [Act.put, List.setIfInBounds_toArray, List.set_cons_zero, List.set_cons_succ]
  refine seq_calcA (h := ?_)
  try simp only [Act.put, List.setIfInBounds_toArray, List.set_cons_zero, List.set_cons_succ]
  refine seq_doA (h := fun K hK => ?_); go_wp2_with (first | (go_at_call 42; (with_reducible refine (LN.out _ H2.out.drew).mono ?_); rintro e w' ⟨rfl, rfl⟩) | (go_at_call 84; (with_reducible refine (TB.out _ H2.out.drew).mono ?_); rintro e w' ⟨rfl, rfl⟩) | (go_at_call 85; (with_reducible refine (LF.out _ H2.out.drew).mono ?_); rintro e w3 ⟨rfl, hb3⟩; have H3 := Lib.hid (H2.out.drew.later hb3); have B3 := Lib.hid (B2.out.trans ((Below.undrew hb3).mono B2.out.size)))); refine hkA hK (h := ?_); clear hK K
  try simp only [Act.put, List.setIfInBounds_toArray, List.set_cons_zero, List.set_cons_succ]
  refine seq_calcA (h := ?_)
  try simp only [Act.put, List.setIfInBounds_toArray, List.set_cons_zero, List.set_cons_succ]
  refine seq_calcA (h := ?_)
  try simp only [Act.put, List.setIfInBounds_toArray, List.set_cons_zero, List.set_cons_succ]
  first
    | (refine seq_skipA (h := ?_))
    | (refine seq_calcA (h := ?_))
  try simp only [Act.put, List.setIfInBounds_toArray, List.set_cons_zero, List.set_cons_succ]
  first
    | (refine seq_skipA (h := ?_))
    | (refine seq_load1A (hu := Tryz.underlying3) (h := ?_))
  try simp only [Act.put, List.setIfInBounds_toArray, List.set_cons_zero, List.set_cons_succ]
  first
    | (refine seq_skipA (h := ?_))
    | (refine seq_calcA (h := ?_))
  try simp only [Act.put, List.setIfInBounds_toArray, List.set_cons_zero, List.set_cons_succ]
  first
    | (refine seq_skipA (h := ?_))
    | (refine seq_doA (h := fun K hK => ?_); go_wp2_with (first | (go_at_call 42; (with_reducible refine (LN.out _ H2.out.drew).mono ?_); rintro e w' ⟨rfl, rfl⟩) | (go_at_call 84; (with_reducible refine (TB.out _ H2.out.drew).mono ?_); rintro e w' ⟨rfl, rfl⟩) | (go_at_call 85; (with_reducible refine (LF.out _ H2.out.drew).mono ?_); rintro e w3 ⟨rfl, hb3⟩; have H3 := Lib.hid (H2.out.drew.later hb3); have B3 := Lib.hid (B2.out.trans ((Below.undrew hb3).mono B2.out.size)))); refine hkA hK (h := ?_); clear hK K)
  try simp only [Act.put, List.setIfInBounds_toArray, List.set_cons_zero, List.set_cons_succ]
  first
    | (refine seq_skipA (h := ?_))
    | (refine seq_calcA (h := ?_))
  try simp only [Act.put, List.setIfInBounds_toArray, List.set_cons_zero, List.set_cons_succ]
  refine seq_calcA (h := ?_)
  try simp only [Act.put, List.setIfInBounds_toArray, List.set_cons_zero, List.set_cons_succ]
  refine seq_calcA (h := ?_)
  try simp only [Act.put, List.setIfInBounds_toArray, List.set_cons_zero, List.set_cons_succ]
  first
    | (refine seq_skipA (h := ?_))
    | (refine seq_calcA (h := ?_))
  try simp only [Act.put, List.setIfInBounds_toArray, List.set_cons_zero, List.set_cons_succ]
  first
    | (refine seq_skipA (h := ?_))
    | (refine seq_lastA (h := fun K hK => ?_); go_wp2_with (first | (go_at_call 42; (with_reducible refine (LN.out _ H2.out.drew).mono ?_); rintro e w' ⟨rfl, rfl⟩) | (go_at_call 84; (with_reducible refine (TB.out _ H2.out.drew).mono ?_); rintro e w' ⟨rfl, rfl⟩) | (go_at_call 85; (with_reducible refine (LF.out _ H2.out.drew).mono ?_); rintro e w3 ⟨rfl, hb3⟩; have H3 := Lib.hid (H2.out.drew.later hb3); have B3 := Lib.hid (B2.out.trans ((Below.undrew hb3).mono B2.out.size)))); refine hK.out _ _ ?_; clear hK K)
  try simp only [Act.put, List.setIfInBounds_toArray, List.set_cons_zero, List.set_cons_succ]
  first
    | (refine seq_skipA (h := ?_))
    | (refine seq_calcA (h := ?_))
  try simp only [Act.put, List.setIfInBounds_toArray, List.set_cons_zero, List.set_cons_succ]
  refine seq_calcA (h := ?_)
  try simp only [Act.put, List.setIfInBounds_toArray, List.set_cons_zero, List.set_cons_succ]
  refine seq_nil ?_
  go_wp2_with (go_at_call 86; (with_reducible refine (EN.out _ (H3.out.alloc _)).mono ?_); rintro e w4 ⟨ev, rfl, hr4, hb4⟩; obtain ⟨ea, ecap, rfl⟩ := ownsRow_slice hr4; have W4 := Lib.hid (ownsRow_base hr4 (show w3.heap.size + 1 ≤ _ by simp)); have M4 := Lib.hid (om_below (World.ownsMap_made (H := Unit) w3 Tryz.prog 39 (plainElem Tryz.prog 3)) hb4 (by simp)); have B4 := Lib.hid (B3.out.trans (((Below.refl _ _).alloc (Nat.le_refl _) _ |>.trans (hb4.mono (by simp))).mono B3.out.size)); clear hr4)
  obtain ⟨Bm, hBm⟩ : ∃ Bm, Bm = w3.heap.size := ⟨_, rfl⟩
  have hBw : w.heap.size ≤ Bm := by rw [hBm]; exact B3.out.size
  rw [← hBm] at M4 W4
  simp only [← hBm]
  replace hBm := Lib.hid hBm
  go_loopw [37] (fun v37 wx => ∃ (j : Nat) (D : DataW Unit), j ≤ l.length ∧ v37 = .int .i64 (j : Int) ∧ wx.ownsMap Tryz.prog 39 (plainElem Tryz.prog 3) Bm j D ∧ (∀ i (hi : i < l.length), j ≤ i → D.atKey (.int .u64 l[i].key) (.lit (.int .i64 0)) = .lit (.int .i64 0)) ∧
    wx.ownsRow (Bm + 1) 41 3 (.slice ea l.length ecap) l.length (entV l) ∧ Below w.heap.size w wx) (fun v37 _ => l.length - (intOf v37).toNat)
  case atStart => exact ⟨0, _, Nat.zero_le _, rfl, M4.out, fun i hi _ => rfl, W4.out, B4.out⟩
  case round =>
    clear W4 M4 B4 B3 H3 H2 B2 s0 s1 s2 s3 s4 s5 zS fS
    obtain ⟨j, D, hj, rfl, hM, hD, hW, hB⟩ := hrel
    have KM := Lib.hid hM
    have KD := Lib.hid hD
    have KW := Lib.hid hW
    have KB := Lib.hid hB
    clear hM hD hW hB
    by_cases hlt : j < l.length
    · have hltI : (j : Int) < (l.length : Int) := by omega
      obtain ⟨ea', ecap', e, -, hrow⟩ := ents_own KW.out
      cases e
      obtain ⟨b, rfl, hbb, hbz, hcl⟩ := hrow (fun e => by rw [e] at hlt; exact absurd hlt (by simp))
      obtain ⟨g0, g1, g2⟩ := hcl j hlt
      obtain ⟨hk1, hk2, hk3, hk4⟩ := HEN.out l[j] (List.getElem_mem hlt)
      have D0 := KD.out j hlt (Nat.le_refl _)
      have HNE := Lib.hid (show ∀ i (hi : i < l.length), j + 1 ≤ i → l[i].key ≠ l[j].key from fun i hi hji => Ne.symm ((List.pairwise_iff_getElem.1 HPW.out) j i hlt hi (by omega)))
      rw [hk2] at g2
      have SJ := Lib.hid (fun (w' : World) (h : TN w' B Q T E w0) => SE.out l[j].key l[j].val (H l[j].key) (HHS.out _) w' h)
      rw [hk3, hk4, hk2] at SJ
      have hwf := wfk_u64 hk1
      generalize hky : l[j].key = ky at *
      generalize l[j].val = vv at *
      generalize H ky = hs' at *
      generalize T.looks ky hs' = lk at *
      replace hky := Lib.hid hky
      have hkey : keyOf Tryz.prog 39 (.int .u64 ky) = some (.int .u64 ky) := keyOf_int_mk Tryz.underlying39 hwf
      have HD0 := Lib.hid D0
      clear hcl hrow hk1 hk2 hk3 hk4 D0
      have zM := KM.out.lt
      go_upto_region 11 with (first
        | (at_lookup; refine wpList_lookup_own_int _ rfl _ _ 148 rfl 39 3 .i64 u64K Tryz.underlying148 Tryz.underlying3 (zeroInt _) Bm j D rfl (KM.out.alloc _) _ _ rfl hkey ?_; intro c hat hwc; obtain rfl : c = 0 := (by rw [HD0.out] at hat; simpa using hat.symm))
        | (at_mapUpdate; refine wpList_mapUpdate_own _ rfl _ _ _ 148 rfl 39 3 u64K Tryz.underlying148 _ Bm j D rfl (KM.out.alloc _) (by unfold maxLen; omega) _ _ _ rfl rfl hkey _ [] (plainElem_int Tryz.underlying3 (by decide)) ?_; intro w2 hown2 hgrow2; have M2 := Lib.hid hown2; have G2 := Lib.hid hgrow2; clear hown2 hgrow2))
      refine wp_at (fun w3 hw3 => ?_)
      subst hw3
      have hrest := Lib.hid (show ∀ i (hi : i < l.length), j + 1 ≤ i → (D.put (.int .u64 ky) (.lit (.int .i64 1))).atKey (.int .u64 l[i].key) (.lit (.int .i64 0)) = .lit (.int .i64 0) from fun i hi hji => by
        rw [atKey_put_other (fun e => HNE.out i hi hji (by injection e))]
        exact KD.out i hi (by omega))
      have hone : (D.put (.int .u64 ky) (.lit (.int .i64 1))).atKey (.int .u64 ky) (.lit (.int .i64 0)) = .lit (.int .i64 1) := atKey_put_same (KM.out.isMap) (by trivial) _ _
      have HRUN := Lib.hid (show ∀ W : World, W.ownsMap Tryz.prog 39 (plainElem Tryz.prog 3) Bm (j + 1) (D.put (.int .u64 ky) (.lit (.int .i64 1))) → (Instr.lookup 148 (.map (some Bm)) (.int .u64 ky) false).run Tryz.prog W = .ok (.int .i64 1) W from fun W h => by
        obtain ⟨c, hrun, hat, -⟩ := h.lookup_int u64K Tryz.underlying148 Tryz.underlying3 (zeroInt _) hkey
        rw [hone] at hat
        obtain rfl : c = 1 := by simpa using hat.symm
        exact hrun)
      have hwz : w.heap.size ≤ wr.heap.size := KB.out.size
      have hzg : wr.heap.size + 1 ≤ w3.heap.size := by have := G2.out.size; simpa using this
      have B2 := Lib.hid ((KB.out.alloc hwz (.cells #[.int .u64 ky, .int .u64 vv, .int .u64 (hs' : Int)] 41)).grown G2.out (by simp; omega) (fun q eq => by have := Option.some.inj eq; omega))
      have W2 := Lib.hid (ownsRow_grown (ownsRow_later KW.out ((Below.refl _ _).alloc (Nat.le_refl _) (.cells #[.int .u64 ky, .int .u64 vv, .int .u64 (hs' : Int)] 41))) G2.out (fun b' hb' e => by have h1 := (KW.out.lt b' hb').1; have := Option.some.inj e; omega))
      have P2 := Lib.hid (Blk.kept (Blk.new wr 41 #[.int .u64 ky, .int .u64 vv, .int .u64 (hs' : Int)]) G2.out (fun e => by have := Option.some.inj e; omega))
      obtain ⟨p0, p1, p2⟩ := cells3 P2.out
      have zP := P2.out.lt
      clear g0 g1 g2 hbz hone
      go_wp2_with (go_at_call 87; (with_reducible refine (SJ.out _ (HH.out.later B2.out)).mono ?_); rintro e w4 ⟨rfl, hb4⟩; have B4 := Lib.hid (B2.out.trans (hb4.mono B2.out.size)); have P4 := Lib.hid (P2.out.below hb4 P2.out.lt); have q4 := cells3 P4.out; have q40 := q4.1; have q41 := q4.2.1; have q42 := q4.2.2; have zP4 := P4.out.lt; have W4 := Lib.hid (ownsRow_later W2.out hb4); have M4 := Lib.hid (om_below M2.out hb4 M2.out.lt); have hrun := HRUN.out _ (M4.out.alloc (.cells #[.int .u64 ky, .int .u64 vv, .int .u64 (hs' : Int)] 41)); clear q4 hb4)
      go_roundw
      case rel => exact ⟨j + 1, _, by omega, by go_num, M4.out.alloc _, hrest.out, ownsRow_later W4.out ((Below.refl _ _).alloc (Nat.le_refl _) _), B4.out.alloc B4.out.size _⟩
      case measure => simp [intOf]; omega
    · obtain rfl : j = l.length := by omega
      go_wp2
      go_ret
      exact ⟨rfl, KB.out⟩
end
end Go.Proofs.YtcnkgiapidlbkaaGreatDoor
