/- Texts joined: TableLeast. No condition but those that stand within. -/
import Derived.Test.YtcmjddkljmfklaaDoorPkSwar
import Derived.Test.YtcmjddkljmfklaaDoorPkMeter
import Derived.Test.YtcmjddkljmfklaaDoorPkErrs
import Derived.Test.YtcmjddkljmfklaaDoorPkGroup
import Derived.Test.YtcmjddkljmfklaaDoorPkTab
import Derived.Test.YtcmjddkljmfklaaDoorPkTab2
import Derived.Test.YtcmjddkljmfklaaDoorPkTab3
namespace Go.Proofs.YtcmjddkljmfklaaDoor
set_option linter.unusedVariables false
set_option linter.unusedSimpArgs false
open Go.RowKit Go.Proofs
attribute [local go_sem] neq_nilG eql_nilG

theorem TN.least {w w0 : World} {B Q : Nat} {T : TabS} {E : Nat → Addr} (hS : TN w B Q T E w0) (key h : Int) :
    Calls Tryd.prog 72 #[.pointer (some ⟨B, 0, none⟩), .agg #[.pointer none, .int .i64 0, .int .i64 0, .int .i64 0], .int .u64 h, .int .u64 key] w fun e w' =>
      e = .returned (.tuple #[.agg #[.int .u64 (T.least ⟨key, 0, h⟩).1.key, .int .u64 (T.least ⟨key, 0, h⟩).1.val, .int .u64 (T.least ⟨key, 0, h⟩).1.hash], .bool (T.least ⟨key, 0, h⟩).2]) ∧ Below w.heap.size w w' := by
  refine (tleast_any B Q T hS.good key h none none LensAt.n MeterS.zero 0 0 0 w hS.t hS.m (fun b e => by cases e) hS.low.t).mono ?_
  rintro e w' ⟨rfl, -, h2⟩
  exact ⟨rfl, Below.of_chg (h2.mono (fun i _ e => by cases e))⟩
/-- a table of keys, and a lens -/
structure T1 (w : World) (B Q L : Nat) (T : TabS) (E : Nat → Addr) (w0 : World) : Prop where
  t : TN w B Q T E w0
  l : Blk w L 58 #[.pointer none, .int .i64 0, .int .i64 0, .int .i64 0]
theorem T1.later {w w' w0 : World} {B Q L : Nat} {T : TabS} {E : Nat → Addr} (h : T1 w B Q L T E w0) (hb : Below w.heap.size w w') : T1 w' B Q L T E w0 := ⟨h.t.later hb, h.l.below hb h.l.lt⟩
theorem T1.alloc {w w0 : World} {B Q L : Nat} {T : TabS} {E : Nat → Addr} (h : T1 w B Q L T E w0) (o : Obj) : T1 (w.alloc o) B Q L T E w0 := h.later ((Below.refl _ _).alloc (Nat.le_refl _) o)
theorem T1.chg {X : Nat → Prop} {w w' w0 : World} {B Q L : Nat} {T : TabS} {E : Nat → Addr} (h : T1 w B Q L T E w0) (hc : Chg X w w') (hX : ∀ b, X b → w0.heap.size ≤ b ∧ b ≠ B ∧ b ≠ Q ∧ b ≠ L) : T1 w' B Q L T E w0 :=
  ⟨TMW.chg h.t hc (fun b hb => (hX b hb).1) (fun hb => (hX _ hb).2.1 rfl) (fun hb => (hX _ hb).2.2.1 rfl) (fun b e => by cases e), h.l.chg hc (fun hb => (hX _ hb).2.2.2 rfl)⟩
theorem lens4b {w : World} {L : Nat} {a b c d : Value} (h : Blk w L 58 #[a, b, c, d]) : w.cell? ⟨L, 0, none⟩ = some a ∧ w.cell? ⟨L, 1, none⟩ = some b ∧ w.cell? ⟨L, 2, none⟩ = some c ∧ w.cell? ⟨L, 3, none⟩ = some d := ⟨h.cell 0, h.cell 1, h.cell 2, h.cell 3⟩
theorem lensb {w w' : World} {B Q L : Nat} (h : Blk w L 58 #[.pointer none, .int .i64 0, .int .i64 0, .int .i64 0]) (hc : Chg (fun b => b = B ∨ b = Q) w w') (h1 : L ≠ B) (h2 : L ≠ Q) : Blk w' L 58 #[.pointer none, .int .i64 0, .int .i64 0, .int .i64 0] := h.chg hc (by rintro (e | e) <;> omega)
set_option maxRecDepth 100000 in
set_option maxHeartbeats 16000000 in
theorem tableLeast_any (n : Int) (v1 v2 : Value) (n1 n2 : Nat) (f1 f2 : Nat → Nat → Int) (E : Nat → Addr) (w0 : World) (he : ErrsAre w0 E) (hT : Tab64 w0) (h1 : RowsAt w0 v1 n1 1 .u64 f1) (h2 : RowsAt w0 v2 n2 3 .i64 f2) :
    Calls Tryd.prog 11 #[.int .i64 n, v1, v2] w0 fun e w' => e = .returned (.bool true) ∧ Below w0.heap.size w0 w' := by
  have m1 := h1.2.2
  have m2 := h2.2.2
  unfold maxLen at m1 m2
  have HEC := Lib.hid (show EC w0 E [1, 2, 4, 5, 14, 16] from he.ec.sub (by decide))
  have HT := Lib.hid hT
  have AL := Lib.hid (alive09_any E w0 he hT)
  obtain ⟨a2, cap2, rfl, hx2⟩ := h2.cellAt (by decide)
  have HX2 := Lib.hid hx2
  clear he hT h2 hx2
  by_cases g0 : n1 < 1 ∨ 60 < n1
  · obtain ⟨a1, cap1, rfl, -⟩ := h1.cellAt (by decide)
    clear h1
    rcases g0 with g0 | g0
    · have d1 : (n1 : Int) < 1 := by omega
      go_enter Tryd.func11, Tryd.ntmps11
      go_wp2_with (go_at_call 57; refine AL.out.mono ?_; rintro e w1 ⟨rfl, hb1⟩)
      go_ret
      exact ⟨rfl, hb1⟩
    · have d1 : (1 : Int) ≤ (n1 : Int) := by omega
      have d2 : (60 : Int) < (n1 : Int) := by omega
      go_enter Tryd.func11, Tryd.ntmps11
      go_wp2_with (go_at_call 57; refine AL.out.mono ?_; rintro e w1 ⟨rfl, hb1⟩)
      go_ret
      exact ⟨rfl, hb1⟩
  have d1 : (1 : Int) ≤ (n1 : Int) := by omega
  have d2 : (n1 : Int) ≤ 60 := by omega
  obtain ⟨b1, o1, cap1, G, rfl, hb1z, hG, hc1⟩ := hashes_of h1 (by omega)
  have HC := Lib.hid hc1
  have HG := Lib.hid hG
  clear h1 hc1 hG
  by_cases g1 : 80 < n2
  · have d3 : (80 : Int) < (n2 : Int) := by omega
    go_enter Tryd.func11, Tryd.ntmps11
    go_wp2_with (go_at_call 57; refine AL.out.mono ?_; rintro e w1 ⟨rfl, hb1⟩)
    go_ret
    exact ⟨rfl, hb1⟩
  have d3 : (n2 : Int) ≤ 80 := by omega
  by_cases hr : rightB n = true
  · obtain ⟨g, rfl⟩ := Int.eq_ofNat_of_zero_le (show 0 ≤ n by rw [rightB_iff] at hr; omega)
    have hn := right_bd hr
    have NW := Lib.hid (fun (w' : World) => tnew_ok g hr w')
    have HR := Lib.hid hr
    clear hr
    go_enter Tryd.func11, Tryd.ntmps11
    go_wp2_with (first
      | (go_at_call 57; refine AL.out.mono ?_; rintro e w1 ⟨rfl, hb1⟩; have hz1 := hb1.size)
      | (go_at_call 58; refine (NW.out w1).mono ?_; rintro e w2 ⟨B, Q, rfl, hB, hQ, ht, hb2⟩; have hz2 := hb2.size; have S2 := Lib.hid (TMW.new (w0 := w0) HR.out HEC.out HT.out hb1 ht hb2 hB hQ); have hlB := S2.out.ltB; have hlQ := S2.out.ltQ; have hBQ := S2.out.ne; clear ht))
    obtain ⟨L, hL⟩ : ∃ L, L = w2.heap.size := ⟨_, rfl⟩
    have D0 := Lib.hid (show T1 (w2.alloc (.cells #[.pointer none, .int .i64 0, .int .i64 0, .int .i64 0] 58)) B Q L (TabS.new g) E w0 from ⟨S2.out.alloc _, by rw [hL]; exact Blk.new _ _ _⟩)
    have hs : L ≠ B ∧ L ≠ Q ∧ w0.heap.size ≤ B ∧ w0.heap.size ≤ Q := by omega
    simp only [← hL]
    obtain ⟨hLB, hLQ, hB0, hQ0⟩ := hs
    have F0 := Lib.hid (TFun.new HR.out (hashH n1 G))
    have O0 := Lib.hid (TOnly.new g (hashH n1 G) n1 HR.out)
    have N0 := Lib.hid (TCnt.new (hashH n1 G) n1 HR.out)
    clear hL S2 hlB hlQ hz1 hz2 hb1 hb2 hB hQ NW AL
    go_loopw [52] (fun v52 wr => ∃ (k : Nat) (T : TabS), k ≤ n2 ∧ v52 = .int .i64 (k : Int) ∧ T1 wr B Q L T E w0 ∧ TFun T (hashH n1 G) ∧ TOnly T (hashH n1 G) n1 ∧ TCnt T (hashH n1 G) n1) (fun v52 _ => n2 - (intOf v52).toNat)
    case atStart => exact ⟨0, _, Nat.zero_le _, rfl, D0.out, F0.out, O0.out, N0.out⟩
    case round =>
      clear D0 F0 O0 N0
      obtain ⟨k, T, hk, rfl, hD, hF, hO, hN⟩ := hrel
      have KF := Lib.hid hF
      have KO := Lib.hid hO
      have KN := Lib.hid hN
      have KD := Lib.hid hD
      clear hD hF hO hN
      by_cases hlt : k < n2
      · obtain ⟨b, off, rfl, hbz, hcells⟩ := HX2.out (by omega)
        have a0 : wr.cell? ⟨b, off + k * 3, none⟩ = some (.int .i64 (f2 k 0)) := by simpa using hcells wr KD.out.t.bel k hlt 0 (by decide)
        have a1 : wr.cell? ⟨b, off + k * 3 + 1, none⟩ = some (.int .i64 (f2 k 1)) := by simpa [Nat.add_assoc] using hcells wr KD.out.t.bel k hlt 1 (by decide)
        have a2 : wr.cell? ⟨b, off + k * 3 + 2, none⟩ = some (.int .i64 (f2 k 2)) := by simpa [Nat.add_assoc] using hcells wr KD.out.t.bel k hlt 2 (by decide)
        have hltI : (k : Int) < (n2 : Int) := by omega
        clear hcells
        generalize f2 k 0 = q at a0
        generalize f2 k 1 = ky at a1
        generalize f2 k 2 = vN at a2
        have hx := keyI_lt ky n1 (by omega)
        have KE := Lib.hid (fun (w' : World) (hw : Below w0.heap.size w0 w') => keyEntry_any b1 o1 n1 cap1 (by omega) (by omega) (fun i => (G i : Int)) q ky vN w' (Nat.lt_of_lt_of_le hb1z hw.size) (HC.out w' hw))
        generalize keyI ky n1 = x at *
        generalize valI vN = vv at *
        have hGx := HG.out x hx
        obtain ⟨h, hh⟩ : ∃ h, h = G x := ⟨_, rfl⟩
        rw [← hh] at KE hGx
        have HH := Lib.hid (hh.trans (hashH_in hx).symm)
        clear hh
        by_cases q0 : q = 0
        · subst q0
          have PU := Lib.hid (fun (B Q : Nat) (w' : World) (hs : TN w' B Q T E w0) => TN.put hs (x : Int) vv h hGx)
          have KF2 : Hid (TFun (T.putT (x : Int) vv h) (hashH n1 G)) := Lib.hid (by rw [HH.out]; exact KF.out.putT x vv (by rw [← HH.out]; exact hGx))
          have KO2 : Hid (TOnly (T.putT (x : Int) vv h) (hashH n1 G) n1) := Lib.hid (by rw [HH.out]; exact KO.out.put KF.out hx vv (by rw [← HH.out]; exact hGx))
          have KN2 : Hid (TCnt (T.putT (x : Int) vv h) (hashH n1 G) n1) := Lib.hid (by rw [HH.out]; exact KN.out.put KF.out hx vv (by rw [← HH.out]; exact hGx))
          generalize errN E (T.putN (x : Int) h) = pn at *
          generalize T.putB (x : Int) h = pb at *
          generalize T.putT (x : Int) vv h = T' at *
          go_wp2_with (first
            | (go_at_call 59; refine (KE.out _ (KD.out.t.bel.trans ((Below.refl _ _).alloc KD.out.t.bel.size _))).mono ?_; rintro e w1 ⟨rfl, hb1⟩; have A1 := (Blk.new wr 108 #[.int .i64 0, .int .i64 ky, .int .i64 vN]).below hb1 (by simp); have a10 := A1.cell 0; have z1 := A1.lt; have D1 := Lib.hid (((KD.out.alloc _).later hb1).alloc (.cells #[.int .u64 (x : Int), .int .u64 vv, .int .u64 (h : Int)] 62)); obtain ⟨l0, l1, l2, l3⟩ := lens4b D1.out.l; have zL := D1.out.l.lt; clear KD)
            | (go_at_call 62; (with_reducible refine (PU.out B Q _ D1.out.t).mono ?_); rintro e w2 ⟨rfl, hs2, hc2⟩; have D2 := Lib.hid (show T1 w2 B Q L T' E w0 from ⟨hs2, lensb D1.out.l hc2 hLB hLQ⟩); clear hs2))
          go_roundw
          case rel => exact ⟨k + 1, T', by omega, by go_num, D2.out, KF2.out, KO2.out, KN2.out⟩
          case measure => simp [intOf]; omega
        · have n0' : (q == 0) = false := by simpa using q0
          by_cases q1 : q = 1
          · subst q1
            have PU := Lib.hid (fun (B Q : Nat) (w' : World) (hs : TN w' B Q T E w0) => TN.del hs (x : Int) h hGx)
            have KF2 : Hid (TFun (T.delT (x : Int) h) (hashH n1 G)) := Lib.hid (KF.out.delT x h)
            have KO2 : Hid (TOnly (T.delT (x : Int) h) (hashH n1 G) n1) := Lib.hid (by rw [HH.out]; exact KO.out.del KF.out hx)
            have KN2 : Hid (TCnt (T.delT (x : Int) h) (hashH n1 G) n1) := Lib.hid (by rw [HH.out]; exact KN.out.del KF.out hx)
            generalize T.delT (x : Int) h = T' at *
            generalize T.has (x : Int) h = hs at *
            generalize (T.ent (x : Int) h).key = k0 at *
            generalize (T.ent (x : Int) h).val = k1 at *
            generalize (T.ent (x : Int) h).hash = k2 at *
            clear n0' q0
            go_wp2_with (first
              | (go_at_call 59; refine (KE.out _ (KD.out.t.bel.trans ((Below.refl _ _).alloc KD.out.t.bel.size _))).mono ?_; rintro e w1 ⟨rfl, hb1⟩; have A1 := (Blk.new wr 108 #[.int .i64 1, .int .i64 ky, .int .i64 vN]).below hb1 (by simp); have a10 := A1.cell 0; have z1 := A1.lt; have D1 := Lib.hid (((KD.out.alloc _).later hb1).alloc (.cells #[.int .u64 (x : Int), .int .u64 vv, .int .u64 (h : Int)] 62)); obtain ⟨l0, l1, l2, l3⟩ := lens4b D1.out.l; have zL := D1.out.l.lt; clear KD)
              | (go_at_call 63; (with_reducible refine (PU.out B Q _ D1.out.t).mono ?_); rintro e w2 ⟨rfl, hs2, hc2⟩; have D2 := Lib.hid (show T1 w2 B Q L T' E w0 from ⟨hs2, lensb D1.out.l hc2 hLB hLQ⟩); clear hs2))
            go_roundw
            case rel => exact ⟨k + 1, T', by omega, by go_num, D2.out, KF2.out, KO2.out, KN2.out⟩
            case measure => simp [intOf]; omega
          · have n1' : (q == 1) = false := by simpa using q1
            go_wp2_with (go_at_call 59; refine (KE.out _ (KD.out.t.bel.trans ((Below.refl _ _).alloc KD.out.t.bel.size _))).mono ?_; rintro e w1 ⟨rfl, hb1⟩; have A1 := (Blk.new wr 108 #[.int .i64 q, .int .i64 ky, .int .i64 vN]).below hb1 (by simp); have a10 := A1.cell 0; have z1 := A1.lt; have D1 := Lib.hid (((KD.out.alloc _).later hb1).alloc (.cells #[.int .u64 (x : Int), .int .u64 vv, .int .u64 (h : Int)] 62)); clear KD)
            go_roundw
            case rel => exact ⟨k + 1, T, by omega, by go_num, D1.out, KF.out, KO.out, KN.out⟩
            case measure => simp [intOf]; omega
      · obtain rfl : k = n2 := by omega
        have hlen := ents_length KF.out.good
        have hle := KN.out.le
        have hkey : ∀ a ∈ T.ents, 0 ≤ a.key ∧ a.key < n1 ∧ a.hash = (hashH n1 G a.key : Int) ∧ T.has a.key (hashH n1 G a.key) = true ∧ T.ent a.key (hashH n1 G a.key) = a := fun a ha => by
          obtain ⟨g', k', h1, h2⟩ := ents_at ha
          have h3 := KF.out.has_of h1
          have h4 := KF.out.hash _ _ _ h1
          rw [h2] at h4
          have h5 : 0 ≤ a.key ∧ a.key < n1 := by
            apply Classical.byContradiction
            intro hc
            rw [KO.out _ hc] at h3; cases h3
          exact ⟨h5.1, h5.2, h4, h3, (KF.out.ent_of h1).trans h2⟩
        have c0 : cntF T.ents ⟨0, 0, 0⟩ = T.ents.length := by
          unfold cntF
          rw [List.filter_eq_self.2]
          intro a ha
          obtain ⟨h1, h2, h3, -⟩ := hkey a ha
          have : lessB a ⟨0, 0, 0⟩ = false := by rw [less_not]; dsimp only; omega
          rw [this]; rfl
        have C0 := Lib.hid c0
        have HKY := Lib.hid hkey
        have HLN := Lib.hid hlen
        have PW := Lib.hid (KF.out.pw T.n (Nat.le_refl _))
        have HHL := Lib.hid (fun i => hashH_lt (n := n1) (by omega) HG.out i)
        clear c0 hkey hlen
        obtain ⟨F, hFz⟩ : ∃ F, F = wr.heap.size := ⟨_, rfl⟩
        have hs2 : F ≠ B ∧ F ≠ Q ∧ F ≠ L ∧ w0.heap.size ≤ F := by have := KD.out.t.ltB; have := KD.out.t.ltQ; have := KD.out.l.lt; have := KD.out.t.bel.size; omega
        obtain ⟨hFB, hFQ, hFL, hF0⟩ := hs2
        have D1 := Lib.hid (KD.out.alloc (.cells #[.int .u64 0, .int .u64 0, .int .u64 0] 62))
        have F1 := Lib.hid (show Blk (wr.alloc (.cells #[.int .u64 0, .int .u64 0, .int .u64 0] 62)) F 62 #[.int .u64 0, .int .u64 0, .int .u64 0] by rw [hFz]; exact Blk.new _ _ _)
        go_wp2
        rw [← hFz]
        clear hFz KD
        go_loopw [13, 15, 16] (fun v13 v15 v16 wr => ∃ (c : Nat) (fh fk : Int) (la : EntS), v13 = .int .i64 (c : Int) ∧ v15 = .int .u64 fh ∧ v16 = .int .u64 fk ∧ T1 wr B Q L T E w0 ∧ Blk wr F 62 #[.int .u64 la.key, .int .u64 la.val, .int .u64 la.hash] ∧ c + cntF T.ents ⟨fk, 0, fh⟩ = T.ents.length ∧ (0 < c → ∀ a ∈ T.ents, lessB a ⟨fk, 0, fh⟩ = false → lessB la a = true)) (fun _ v15 v16 _ => cntF T.ents ⟨intOf v16, 0, intOf v15⟩)
        case atStart => exact ⟨0, 0, 0, ⟨0, 0, 0⟩, rfl, rfl, rfl, D1.out, F1.out, by rw [C0.out]; omega, fun h => by omega⟩
        case round =>
          clear D1 F1 C0
          obtain ⟨c, fh, fk, la, rfl, rfl, rfl, hD, hF, hc, ho⟩ := hrel
          have KD := Lib.hid hD
          have KL := Lib.hid hF
          have KC := Lib.hid hc
          have KOr := Lib.hid ho
          obtain ⟨l0, l1, l2, l3⟩ := lens4b hD.l
          have zL := hD.l.lt
          have hcn : c ≤ n1 := by have := HLN.out; omega
          have LE := Lib.hid (fun (w' : World) (hs : TN w' B Q T E w0) => TN.least hs fk fh)
          have LS := Lib.hid (least_spec T.ents ⟨fk, 0, fh⟩)
          clear hD hF hc ho
          obtain ⟨r, hr⟩ : ∃ r, r = T.least ⟨fk, 0, fh⟩ := ⟨_, rfl⟩
          rw [← hr] at LE
          have LS2 : Hid (LeastI ⟨fk, 0, fh⟩ T.ents r) := Lib.hid (by rw [hr]; exact LS.out)
          clear hr LS
          obtain ⟨e, fd⟩ := r
          dsimp only at LE
          cases fd with
          | false =>
            have LN := Lib.hid (fun (w' : World) (hs : TN w' B Q T E w0) => TMW.len hs)
            have hcl : T.lv = (c : Int) := by
              have h1 := KC.out
              have h2 := HLN.out
              rcases LS2.out with ⟨-, h3⟩ | ⟨h3, -⟩
              · have : cntF T.ents ⟨fk, 0, fh⟩ = 0 := by
                  unfold cntF
                  rw [List.filter_eq_nil_iff.2]; rfl
                  intro a ha
                  rw [h3 a ha]; simp
                omega
              · cases h3
            rw [hcl] at LN
            have e1 : ((c : Int) == (c : Int)) = true := by simp
            clear hcl
            go_wp2_with (first
              | (go_at_call 72; (with_reducible refine (LE.out _ KD.out.t).mono ?_); rintro e' w2 ⟨rfl, hb2⟩; have D2 := Lib.hid ((KD.out.later hb2).alloc (.cells #[.int .u64 e.key, .int .u64 e.val, .int .u64 e.hash] 62)))
              | (go_at_call 65; (with_reducible refine (LN.out _ D2.out.t).mono ?_); rintro e' w' ⟨rfl, rfl⟩))
            go_ret
            exact ⟨rfl, D2.out.t.bel⟩
          | true =>
            obtain ⟨hem, hef, hmin⟩ : e ∈ T.ents ∧ lessB e ⟨fk, 0, fh⟩ = false ∧ ∀ a ∈ T.ents, lessB a ⟨fk, 0, fh⟩ = false → lessB a e = false := by
              rcases LS2.out with ⟨h3, -⟩ | ⟨-, h3, h4, h5⟩
              · cases h3
              · exact ⟨h3, h4, h5⟩
            obtain ⟨hk0, hk1, hkh, hkt, hke⟩ := HKY.out e hem
            have hstep := cntF_step (l := T.ents) PW.out hem hef hmin
            have hbef : 0 < c → lessB la e = true := fun h => KOr.out h e hem hef
            have hnext : ∀ a ∈ T.ents, lessB a ⟨e.key + 1, 0, e.hash⟩ = false → lessB e a = true := fun a ha h => by
              rw [less_not] at h; rw [less_iff]; dsimp only at h; omega
            have FI := Lib.hid (fun (w' : World) (hs : TN w' B Q T E w0) => TN.find hs e.key (hashH n1 G e.key) (HHL.out e.key))
            rw [hkt, hke, ← hkh] at FI
            have BF := Lib.hid (fun (w' : World) => before_any la e w')
            have HST := Lib.hid hstep
            have HBF := Lib.hid hbef
            have HNX := Lib.hid hnext
            have hc0 : 0 < cntF T.ents ⟨fk, 0, fh⟩ := by omega
            clear hem hef hmin hkh hkt hke hstep hbef hnext LS2
            obtain ⟨ek, ev, eh⟩ := e
            dsimp only at *
            have ew : IntKind.u64.wrap (ek + 1) = ek + 1 := by rw [IntKind.wrap_u64]; omega
            have hcI : (c : Int) ≤ (n1 : Int) := by omega
            have hcI' : decide ((c : Int) > (n1 : Int)) = false := by simp; omega
            by_cases hc : c = 0
            · subst hc
              have hd : decide (((0 : Nat) : Int) > 0) = false := by decide
              clear BF
              go_wp2_with (first
              | (go_at_call 72; (with_reducible refine (LE.out _ KD.out.t).mono ?_); rintro e' w2 ⟨rfl, hb2⟩; have D2 := Lib.hid ((KD.out.later hb2).alloc (.cells #[.int .u64 ek, .int .u64 ev, .int .u64 eh] 62)); have X2 := (Blk.new w2 62 #[.int .u64 ek, .int .u64 ev, .int .u64 eh]); have F2 := (KL.out.below hb2 KL.out.lt).alloc (.cells #[.int .u64 ek, .int .u64 ev, .int .u64 eh] 62); obtain ⟨l20, l21, l22, l23⟩ := lens4b D2.out.l; have zL2 := D2.out.l.lt; have hF2 := (KL.out.below hb2 KL.out.lt).lt; have hFn : ¬ F = w2.heap.size := (by omega); have hFn' : ¬ w2.heap.size = F := (by omega))
              | (go_at_call 64; (with_reducible refine (FI.out _ D2.out.t).mono ?_); rintro e' w3 ⟨rfl, hb3⟩; have D3 := Lib.hid ((D2.out.later hb3).alloc (.cells #[.int .u64 ek, .int .u64 ev, .int .u64 eh] 62)); have X3 := (X2.below hb3 X2.lt).alloc (.cells #[.int .u64 ek, .int .u64 ev, .int .u64 eh] 62); obtain ⟨x30, x31, x32⟩ := cells3 X3; have zX3 := X3.lt; have F3 := (F2.below hb3 F2.lt).alloc (.cells #[.int .u64 ek, .int .u64 ev, .int .u64 eh] 62); obtain ⟨f30, f31, f32⟩ := cells3 F3; have ff3 := fun j => F3.frozen j; have zF3 := F3.lt; have Y3 := Blk.new w3 62 #[.int .u64 ek, .int .u64 ev, .int .u64 eh]))
              refine wp_region_seq (fun _ => False) #[⟨0, 0, 1361129467683753853853498429727072845824, 131072, 0⟩, ⟨1, 1, 2722258935367507707706996859454145691648, 1361129467683753853853498429727072845824, 1⟩, ⟨0, 0, 5444517870735015415413993718908291383296, 131072, 0⟩, ⟨4, 4, 10889035741470030830827987437816582766592, 5444517870735015415413993718908291383296, 1⟩, ⟨8, 12, 21778071482940061661655974875633165533184, 10889035741470030830827987437816582766592, 0⟩, ⟨3, 3, 32768, 2722258935367507707706996859454145691648, 0⟩, ⟨63, 63, 65536, 21778071482940061661655974875633165533184, 0⟩] 10 [(0, 0), (1, 1), (2, 0), (3, 1), (4, 0), (5, 0), (6, 0)] (by kernel_rfl) (by kernel_rfl) (by kernel_rfl) (by kernel_rfl) (by kernel_rfl) (by kernel_rfl) (fun c a d v w h => by cases d <;> exact h) ?_
              refine seq_calc (by simp only [List.getElem?_toArray, List.getElem?_cons_succ, List.getElem?_cons_zero]; rfl) (by rfl) (fun u => by go_simp <;> with_reducible rfl) ?_
              try simp only [Act.put, List.setIfInBounds_toArray, List.set_cons_zero, List.set_cons_succ]
              refine seq_load1 (by simp only [List.getElem?_toArray, List.getElem?_cons_succ, List.getElem?_cons_zero]; rfl) (by rfl) rfl rfl Tryd.underlying22 rfl (by go_simp <;> with_reducible rfl) (by first | exact id | assumption | (simp; done) | (simp; omega)) ?_
              try simp only [Act.put, List.setIfInBounds_toArray, List.set_cons_zero, List.set_cons_succ]
              refine seq_calc (by simp only [List.getElem?_toArray, List.getElem?_cons_succ, List.getElem?_cons_zero]; rfl) (by rfl) (fun u => by go_simp <;> with_reducible rfl) ?_
              try simp only [Act.put, List.setIfInBounds_toArray, List.set_cons_zero, List.set_cons_succ]
              refine seq_load1 (by simp only [List.getElem?_toArray, List.getElem?_cons_succ, List.getElem?_cons_zero]; rfl) (by rfl) rfl rfl Tryd.underlying22 rfl (by go_simp <;> with_reducible rfl) (by first | exact id | assumption | (simp; done) | (simp; omega)) ?_
              try simp only [Act.put, List.setIfInBounds_toArray, List.set_cons_zero, List.set_cons_succ]
              refine seq_calc (by simp only [List.getElem?_toArray, List.getElem?_cons_succ, List.getElem?_cons_zero]; rfl) (by rfl) (fun u => by go_simp <;> with_reducible rfl) ?_
              try simp only [Act.put, List.setIfInBounds_toArray, List.set_cons_zero, List.set_cons_succ]
              refine seq_calc (by simp only [List.getElem?_toArray, List.getElem?_cons_succ, List.getElem?_cons_zero]; rfl) (by rfl) (fun u => by go_simp <;> with_reducible rfl) ?_
              try simp only [Act.put, List.setIfInBounds_toArray, List.set_cons_zero, List.set_cons_succ]
              refine seq_calc (by simp only [List.getElem?_toArray, List.getElem?_cons_succ, List.getElem?_cons_zero]; rfl) (by rfl) (fun u => by go_simp <;> with_reducible rfl) ?_
              try simp only [Act.put, List.setIfInBounds_toArray, List.set_cons_zero, List.set_cons_succ]
              refine seq_nil ?_
              go_wp2
              go_roundw
              case rel =>
                refine ⟨0 + 1, eh, ek + 1, ⟨ek, ev, eh⟩, rfl, rfl, rfl, ?_, ?_, by have h1 := KC.out; have h2 := HST.out; omega, fun _ => HNX.out⟩
                · refine D3.out.chg (X := fun b => b = F) ?_ (by rintro b rfl; exact ⟨hF0, hFB, hFQ, hFL⟩)
                  first
                    | exact ((((Chg.refl _ _).set1 _ _).set1 _ _).set1 _ _).drew
                    | exact (((Chg.refl _ _).drew.set1 _ _).set1 _ _).set1 _ _
                · first
                    | exact (((F3.set 0 _).set 1 _).set 2 _).drew
                    | exact ((F3.drew.set 0 _).set 1 _).set 2 _
              case measure => simp only [intOf]; have h2 := HST.out; omega
            · have hb' := HBF.out (by omega)
              rw [hb'] at BF
              have hd : decide ((c : Int) > 0) = true := by simp; omega
              have hcp : 0 < c := by omega
              have hcp2 : (0 : Int) < (c : Int) := by omega
              clear hb' hc
              go_wp2_with (first
              | (go_at_call 72; (with_reducible refine (LE.out _ KD.out.t).mono ?_); rintro e' w2 ⟨rfl, hb2⟩; have D2 := Lib.hid ((KD.out.later hb2).alloc (.cells #[.int .u64 ek, .int .u64 ev, .int .u64 eh] 62)); have X2 := (Blk.new w2 62 #[.int .u64 ek, .int .u64 ev, .int .u64 eh]); have F2 := (KL.out.below hb2 KL.out.lt).alloc (.cells #[.int .u64 ek, .int .u64 ev, .int .u64 eh] 62); obtain ⟨l20, l21, l22, l23⟩ := lens4b D2.out.l; have zL2 := D2.out.l.lt; have hF2 := (KL.out.below hb2 KL.out.lt).lt; have hFn : ¬ F = w2.heap.size := (by omega); have hFn' : ¬ w2.heap.size = F := (by omega))
              | (go_at_call 64; (with_reducible refine (FI.out _ D2.out.t).mono ?_); rintro e' w3 ⟨rfl, hb3⟩; have D3 := Lib.hid ((D2.out.later hb3).alloc (.cells #[.int .u64 ek, .int .u64 ev, .int .u64 eh] 62)); have X3 := (X2.below hb3 X2.lt).alloc (.cells #[.int .u64 ek, .int .u64 ev, .int .u64 eh] 62); obtain ⟨x30, x31, x32⟩ := cells3 X3; have zX3 := X3.lt; have F3 := (F2.below hb3 F2.lt).alloc (.cells #[.int .u64 ek, .int .u64 ev, .int .u64 eh] 62); obtain ⟨f30, f31, f32⟩ := cells3 F3; have ff3 := fun j => F3.frozen j; have zF3 := F3.lt; have Y3 := Blk.new w3 62 #[.int .u64 ek, .int .u64 ev, .int .u64 eh])
              | (go_at_call 73; (with_reducible refine (BF.out _).mono ?_); rintro e' w4 ⟨rfl, hb4⟩; have D4 := Lib.hid (D3.out.later hb4); have X4 := X3.below hb4 X3.lt; obtain ⟨x40, x41, x42⟩ := cells3 X4; have zX4 := X4.lt; have F4 := F3.below hb4 F3.lt; obtain ⟨f40, f41, f42⟩ := cells3 F4; have ff4 := fun j => F4.frozen j; have zF4 := F4.lt))
              refine wp_region_seq (fun _ => False) #[⟨0, 0, 1361129467683753853853498429727072845824, 131072, 0⟩, ⟨1, 1, 2722258935367507707706996859454145691648, 1361129467683753853853498429727072845824, 1⟩, ⟨0, 0, 5444517870735015415413993718908291383296, 131072, 0⟩, ⟨4, 4, 10889035741470030830827987437816582766592, 5444517870735015415413993718908291383296, 1⟩, ⟨8, 12, 21778071482940061661655974875633165533184, 10889035741470030830827987437816582766592, 0⟩, ⟨3, 3, 32768, 2722258935367507707706996859454145691648, 0⟩, ⟨63, 63, 65536, 21778071482940061661655974875633165533184, 0⟩] 10 [(0, 0), (1, 1), (2, 0), (3, 1), (4, 0), (5, 0), (6, 0)] (by kernel_rfl) (by kernel_rfl) (by kernel_rfl) (by kernel_rfl) (by kernel_rfl) (by kernel_rfl) (fun c a d v w h => by cases d <;> exact h) ?_
              refine seq_calc (by simp only [List.getElem?_toArray, List.getElem?_cons_succ, List.getElem?_cons_zero]; rfl) (by rfl) (fun u => by go_simp <;> with_reducible rfl) ?_
              try simp only [Act.put, List.setIfInBounds_toArray, List.set_cons_zero, List.set_cons_succ]
              refine seq_load1 (by simp only [List.getElem?_toArray, List.getElem?_cons_succ, List.getElem?_cons_zero]; rfl) (by rfl) rfl rfl Tryd.underlying22 rfl (by go_simp <;> with_reducible rfl) (by first | exact id | assumption | (simp; done) | (simp; omega)) ?_
              try simp only [Act.put, List.setIfInBounds_toArray, List.set_cons_zero, List.set_cons_succ]
              refine seq_calc (by simp only [List.getElem?_toArray, List.getElem?_cons_succ, List.getElem?_cons_zero]; rfl) (by rfl) (fun u => by go_simp <;> with_reducible rfl) ?_
              try simp only [Act.put, List.setIfInBounds_toArray, List.set_cons_zero, List.set_cons_succ]
              refine seq_load1 (by simp only [List.getElem?_toArray, List.getElem?_cons_succ, List.getElem?_cons_zero]; rfl) (by rfl) rfl rfl Tryd.underlying22 rfl (by go_simp <;> with_reducible rfl) (by first | exact id | assumption | (simp; done) | (simp; omega)) ?_
              try simp only [Act.put, List.setIfInBounds_toArray, List.set_cons_zero, List.set_cons_succ]
              refine seq_calc (by simp only [List.getElem?_toArray, List.getElem?_cons_succ, List.getElem?_cons_zero]; rfl) (by rfl) (fun u => by go_simp <;> with_reducible rfl) ?_
              try simp only [Act.put, List.setIfInBounds_toArray, List.set_cons_zero, List.set_cons_succ]
              refine seq_calc (by simp only [List.getElem?_toArray, List.getElem?_cons_succ, List.getElem?_cons_zero]; rfl) (by rfl) (fun u => by go_simp <;> with_reducible rfl) ?_
              try simp only [Act.put, List.setIfInBounds_toArray, List.set_cons_zero, List.set_cons_succ]
              refine seq_calc (by simp only [List.getElem?_toArray, List.getElem?_cons_succ, List.getElem?_cons_zero]; rfl) (by rfl) (fun u => by go_simp <;> with_reducible rfl) ?_
              try simp only [Act.put, List.setIfInBounds_toArray, List.set_cons_zero, List.set_cons_succ]
              refine seq_nil ?_
              go_wp2
              go_roundw
              case rel =>
                refine ⟨c + 1, eh, ek + 1, ⟨ek, ev, eh⟩, by go_num, rfl, rfl, ?_, ?_, by have h1 := KC.out; have h2 := HST.out; omega, fun _ => HNX.out⟩
                · refine D4.out.chg (X := fun b => b = F) ?_ (by rintro b rfl; exact ⟨hF0, hFB, hFQ, hFL⟩)
                  first
                    | exact ((((Chg.refl _ _).set1 _ _).set1 _ _).set1 _ _).drew
                    | exact (((Chg.refl _ _).drew.set1 _ _).set1 _ _).set1 _ _
                · first
                    | exact (((F4.set 0 _).set 1 _).set 2 _).drew
                    | exact ((F4.drew.set 0 _).set 1 _).set 2 _
              case measure => simp only [intOf]; have h2 := HST.out; omega
  · replace hr : rightB n = false := by simpa using hr
    have NW := Lib.hid (fun (w' : World) he' => tnew_bad n hr E w' he')
    unfold errAt at *
    clear hr
    go_enter Tryd.func11, Tryd.ntmps11
    go_wp2_with (first
      | (go_at_call 57; refine AL.out.mono ?_; rintro e w1 ⟨rfl, hb1⟩)
      | (go_at_call 58; refine (NW.out w1 ((HEC.out.sub (by decide)).below hb1)).mono ?_; rintro e w2 ⟨rfl, hb2⟩; have hB2 := hb1.trans (hb2.mono hb1.size)))
    go_ret
    exact ⟨rfl, hB2⟩
end Go.Proofs.YtcmjddkljmfklaaDoor
