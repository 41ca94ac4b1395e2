/- Texts joined: EvacErrs. No condition but those that stand within. -/
import Derived.Test.YtcolhncbpbcklaaDoorPkSwar
import Derived.Test.YtcolhncbpbcklaaDoorPkMeter
import Derived.Test.YtcolhncbpbcklaaDoorPkErrs
import Derived.Test.YtcolhncbpbcklaaDoorPkGroup
import Derived.Test.YtcolhncbpbcklaaDoorPkTab
import Derived.Test.YtcolhncbpbcklaaDoorPkTab2
import Derived.Test.YtcolhncbpbcklaaDoorPkTab3
import Derived.Test.YtcolhncbpbcklaaDoorPkTake
import Derived.Test.YtcolhncbpbcklaaDoorPkTabM
import Derived.Test.YtcolhncbpbcklaaDoorPkEvac
namespace Go.Proofs.YtcolhncbpbcklaaDoor
set_option linter.unusedVariables false
set_option linter.unusedSimpArgs false
open Go.RowKit Go.Proofs
attribute [local go_sem] neq_nilG eql_nilG

/-- a number of uint kind, modulo four -/
def mod4 (a : Int) : Nat := ((IntKind.u64.wrap a) % 4).toNat
theorem mod4_lt (a : Int) : mod4 a < 4 := by unfold mod4; omega
/-- pointers that lie in a row of a block -/
theorem ptrs_set {w : World} {g k : Nat} {cur : Array Value} {e : TypeId} {F : Nat → Option Addr} (hg : Blk w g e cur) (hc : ∀ i, i < k → w.cell? ⟨g, i, none⟩ = some (.pointer (F i))) (j : Nat) (hj : j < k) (p : Option Addr) :
    PtrRow (w.setCell ⟨g, j, none⟩ (.pointer p)) (some ⟨g, 0, none⟩) k (upd F j p) := fun _ => by
  have hs := hg.set j (.pointer p)
  have hjs : j < cur.size := by
    have h1 := hg.cell j
    rw [hc j hj] at h1
    exact (Array.getElem?_eq_some_iff.1 h1.symm).1
  refine ⟨g, rfl, hs.lt, fun i hi => ?_⟩
  by_cases e1 : i = j
  · subst e1
    rw [upd_same, hs.cell i]
    simp [hjs]
  · rw [upd_other _ _ e1, hs.cell i]
    have h2 := hg.cell i
    rw [hc i hi] at h2
    rw [h2, Array.getElem?_setIfInBounds, if_neg (fun e => e1 e.symm)]
set_option maxRecDepth 100000 in
/-- there is an evacuation -/
theorem evnew_is (q : Addr) (d : Int) (a : Option Addr) (k cap : Nat) (F : Nat → Nat) (hk : k = 1 ∨ (k = 2 ∧ 0 ≤ d ∧ d ≤ 15)) (w : World) (h : PtrRow w a k (fun i => some ⟨F i, 0, none⟩)) :
    Calls Tryd.prog 28 #[.pointer (some q), .int .i64 d, .slice a k cap] w fun e w' => ∃ V, e = .returned (.tuple #[.pointer (some ⟨V, 0, none⟩), .nilIface]) ∧ Below w.heap.size w w' := by
  have CO := Lib.hid (contains_any a k cap (by omega) _ false ⟨fun e => (by cases e), fun ⟨i, hi, e⟩ => (by cases e)⟩ w h)
  have CL := Lib.hid (clone_any a k cap (by omega) (by omega) _ w h)
  clear h
  rcases hk with rfl | ⟨rfl, hd0, hd⟩
  · have d0 : True := trivial
    go_enter Tryd.func28, Tryd.ntmps28
    go_wp2_with (first
      | (go_at_call 51; refine CO.out.mono ?_; rintro e w' ⟨rfl, rfl⟩)
      | (go_at_call 52; refine CL.out.mono ?_; rintro e w1 ⟨v, rfl, hr1, hb1⟩; have hz1 := hb1.size; obtain ⟨a', cap', rfl, hP, hG⟩ := ptrs_own hr1; clear hr1 hP hG))
    go_ret2
    exact ⟨w1.heap.size, rfl, hb1.alloc hz1 _⟩
  · have d0 : True := trivial
    go_enter Tryd.func28, Tryd.ntmps28
    go_wp2_with (first
      | (go_at_call 51; refine CO.out.mono ?_; rintro e w' ⟨rfl, rfl⟩)
      | (go_at_call 52; refine CL.out.mono ?_; rintro e w1 ⟨v, rfl, hr1, hb1⟩; have hz1 := hb1.size; obtain ⟨a', cap', rfl, hP, hG⟩ := ptrs_own hr1; clear hr1 hP hG))
    go_ret2
    exact ⟨w1.heap.size, rfl, hb1.alloc hz1 _⟩
set_option maxRecDepth 100000 in
set_option maxHeartbeats 16000000 in
theorem evacErrs_any (a d : Int) (b : Bool) (E : Nat → Addr) (w0 : World) (he : ErrsAre w0 E) (hT : Tab64 w0) :
    Calls Tryd.prog 5 #[.int .i64 a, .int .i64 d, .bool b] w0 fun e w' => e = .returned (.bool true) ∧ Below w0.heap.size w0 w' := by
  obtain ⟨iP, hiP, hzP0, hzP1, hzP2⟩ := info_parts infoPT
  have HE := Lib.hid he
  have HEC := Lib.hid (show EC w0 E [1, 2, 4, 5, 14, 16] from he.ec.sub (by decide))
  have AL := Lib.hid (alive12_any E w0 HEC.out hT)
  have NW := Lib.hid (fun (w' : World) => tnew_ok 1 (by decide) w')
  simp only [show ((1 : Nat) : Int) = 1 from rfl] at NW
  have hkey : (IntKind.u64.wrap a).tmod 4 = (mod4 a : Int) := by
    have hw := wrap_u64_bd a
    unfold mod4
    rw [Int.tmod_eq_emod_of_nonneg hw.1]
    omega
  have hn4 := mod4_lt a
  generalize mod4 a = n at *
  have hcv : IntKind.i64.wrap (n : Int) = (n : Int) := by rw [IntKind.wrap_i64]; omega
  clear he hT
  go_enter Tryd.func5, Tryd.ntmps5
  go_wp2_with (first
    | (go_at_call 27; refine AL.out.mono ?_; rintro e w1 ⟨rfl, hb1⟩; have hz1 := hb1.size)
    | (go_at_call 8; (with_reducible refine (NW.out w1).mono ?_); rintro e w2 ⟨O, Q, rfl, hO, hQ, -, hb2⟩; have hz2 := hb2.size))
  refine wp_at (fun wz hWz => ?_)
  have hbz : Hid (Below w0.heap.size w0 wz) := Lib.hid (by rw [hWz]; exact (hb1.trans (hb2.mono hz1)).alloc (Nat.le_trans hz1 hz2) _)
  have hrz : Hid (wz.ownsRow w2.heap.size 25 1 (.slice (some ⟨w2.heap.size, 0, none⟩) 0 0) 0 []) := Lib.hid (by rw [hWz]; exact ownsRow_empty (Blk.new w2 _ #[]))
  obtain ⟨z, hz⟩ : ∃ z, z = w2.heap.size := ⟨_, rfl⟩
  have hzz : Hid (z ≤ wz.heap.size) := Lib.hid (by rw [hWz, hz]; simp)
  have hz0 : w0.heap.size ≤ z := by omega
  rw [← hz] at hrz
  simp only [← hz]
  replace hWz := Lib.hid hWz
  clear hb1 hb2 hz1 hz2 hO hQ hz AL
  go_loopw [27, 10] (fun v27 v10 wr => ∃ (k : Nat) (F : Nat → Nat), k ≤ n ∧ v27 = .int .i64 (k : Int) ∧ wr.ownsRow z 25 1 v10 k ((List.range k).map (fun i => Value.pointer (some ⟨F i, 0, none⟩))) ∧ Below w0.heap.size w0 wr ∧ z ≤ wr.heap.size) (fun v27 _ _ => n - (intOf v27).toNat)
  case atStart => exact ⟨0, fun _ => 0, Nat.zero_le _, rfl, hrz.out, hbz.out, hzz.out⟩
  case round =>
    clear hrz hbz hzz
    obtain ⟨k, F, hk, rfl, hrow, hB, hzr⟩ := hrel
    obtain ⟨a3, cap3, rfl⟩ := ownsRow_slice hrow
    have KB := Lib.hid hB
    have KR := Lib.hid hrow
    clear hB hrow
    by_cases hlt : k < n
    · have hltI : (k : Int) < (n : Int) := by omega
      go_wp2_with (first
        | (go_at_call 8; (with_reducible refine (NW.out _).mono ?_); rintro e w3 ⟨C, R, rfl, hC, hR, -, hb3⟩; have hz3 := hb3.size; have B3 := Lib.hid (KB.out.trans (hb3.mono KB.out.size)); have R3 := Lib.hid (ownsRow_later KR.out hb3))
        | (at_builtin; refine wpList_append_own _ rfl _ _ 65 rfl z 25 iP (.pointer none) 1 8 Tryd.underlying65 hiP hzP0 hzP1 hzP2 rfl (by decide) _ _ _ rfl (ownsRow_later R3.out ((Below.refl _ _).alloc (Nat.le_refl _) _)) ⟨w3.heap.size, 0, none⟩ 1 1 [.pointer (some ⟨C, 0, none⟩)] rfl rfl (cell1_new w3 _ _) (by simp [Value.oneCell']) (by unfold maxLen; omega) (by omega) (by simp; omega) ?_; intro v' w4 hown4 hgrow4 _; have hb3' := below_append R3.out (show z ≤ w3.heap.size by omega) hgrow4; have hz4 := hb3'.size; have hb4 := Lib.hid (B3.out.trans (hb3'.mono hz0)); clear hb3'; clear hgrow4; replace hown4 := Lib.hid hown4))
      go_roundw
      case rel =>
        refine ⟨k + 1, fun i => if i = k then C else F i, by omega, by go_num, ?_, hb4.out, by omega⟩
        have h1 := hown4.out
        rw [List.range_succ, List.map_append]
        have h2 : (List.range k).map (fun i => Value.pointer (some ⟨if i = k then C else F i, 0, none⟩)) = (List.range k).map (fun i => Value.pointer (some ⟨F i, 0, none⟩)) := by
          apply List.map_congr_left
          intro i hi
          rw [if_neg (by have := List.mem_range.1 hi; omega)]
        rw [h2]
        simpa using h1
      case measure => simp [intOf]; omega
    · obtain rfl : k = n := by omega
      have NU := Lib.hid (fun (p : Nat) (hp : p ≤ 16) (w' : World) hb' => num_any E p hp w' hb')
      cases b with
      | true =>
        by_cases h0 : k = 0
        · subst h0
          go_upto_region 19 with (fail)
          refine wp_at (fun w5 hw5 => ?_)
          have BT := Lib.hid (show Below w0.heap.size w0 w5 by rw [hw5]; exact KB.out)
          have EN := Lib.hid (evnew_none none d a3 0 cap3 (by decide) (fun _ => none) (.inl rfl) E w5 (fun h => absurd rfl h) (((HEC.out.sub (by decide)).below BT.out)))
          replace NU := Lib.hid (NU.out 4 (by decide))
          rw [errN_nz E 4 (by decide)] at NU
          unfold errAt at EN NU
          replace hw5 := Lib.hid hw5
          clear KB KR
          go_wp2_with (first
            | (go_at_call 28; (with_reducible refine EN.out.mono ?_); rintro e w6 ⟨rfl, hb6⟩; have B6 := Lib.hid (BT.out.trans (hb6.mono BT.out.size)))
            | (go_at_call 24; (with_reducible refine (NU.out _ (HE.out.below B6.out)).mono ?_); rintro e w7 ⟨rfl, hb7⟩; have B7 := Lib.hid (B6.out.trans (hb7.mono B6.out.size))))
          go_ret
          exact ⟨rfl, B7.out⟩
        · obtain ⟨a', cap', e, hP, hG⟩ := ptrs_own KR.out
          cases e
          obtain ⟨g, rfl, hzg⟩ := hG h0
          obtain ⟨g', e, hgz, hcl⟩ := hP h0
          cases e
          obtain ⟨cur, hcur⟩ : ∃ cur, Blk wr g 25 cur := by
            rcases KR.out.2 with ⟨e, -⟩ | ⟨g', cap', cur, e, -, hg, -⟩
            · cases e
            · cases e; exact ⟨cur, hg⟩
          obtain ⟨m, hm⟩ : ∃ m, k = m + 1 := ⟨k - 1, by omega⟩
          have hmI : (k : Int) - 1 = (m : Int) := by omega
          have hmW : IntKind.i64.wrap (m : Int) = (m : Int) := by rw [IntKind.wrap_i64]; omega
          have hcm := hcl m (by omega)
          have hfr := hcur.frozen m
          have hk0 : (0 : Int) < (k : Int) := by omega
          have hk1 : ((k : Int) == 0) = false := by simp; omega
          have hmk : (m : Int) < (k : Int) := by omega
          have HPS := Lib.hid (ptrs_set hcur hcl m (by omega) none)
          have hC : Chg (fun b => b = g) wr (wr.setCell ⟨g, m, none⟩ (.pointer none)) := (Chg.refl _ _).set1 _ _
          have HBT := Lib.hid (KB.out.trans (hC.below (n := w0.heap.size) KB.out.size (fun k hk e => by omega)))
          have HM := Lib.hid hm
          clear hP hG hcl hcur hm hC
          go_upto_region 19 with (fail)
          refine wp_at (fun w5 hw5 => ?_)
          have BT := Lib.hid (show Below w0.heap.size w0 w5 by rw [hw5]; exact HBT.out)
          have EN := Lib.hid (evnew_none (some ⟨O, 0, none⟩) d (some ⟨g, 0, none⟩) k cap3 (by omega) _ (.inr ⟨m, by have := HM.out; omega, upd_same _ _ _⟩) E w5 (by rw [hw5]; exact HPS.out) (((HEC.out.sub (by decide)).below BT.out)))
          replace NU := Lib.hid (NU.out 4 (by decide))
          rw [errN_nz E 4 (by decide)] at NU
          unfold errAt at EN NU
          replace hw5 := Lib.hid hw5
          clear KB KR HPS HBT hcm hfr
          go_wp2_with (first
            | (go_at_call 28; (with_reducible refine EN.out.mono ?_); rintro e w6 ⟨rfl, hb6⟩; have B6 := Lib.hid (BT.out.trans (hb6.mono BT.out.size)))
            | (go_at_call 24; (with_reducible refine (NU.out _ (HE.out.below B6.out)).mono ?_); rintro e w7 ⟨rfl, hb7⟩; have B7 := Lib.hid (B6.out.trans (hb7.mono B6.out.size))))
          go_ret
          exact ⟨rfl, B7.out⟩
      | false =>
        obtain ⟨a', cap', e, hP, -⟩ := ptrs_own KR.out
        cases e
        have HP := Lib.hid hP
        have BT := KB
        clear hP KB KR
        by_cases hok : k = 1 ∨ (k = 2 ∧ 0 ≤ d ∧ d ≤ 15)
        · have EN := Lib.hid (evnew_is ⟨O, 0, none⟩ d a3 k cap3 F hok wr HP.out)
          rcases hok with rfl | ⟨rfl, hd0, hd1⟩
          · have d0 : True := trivial
            go_wp2_with (first
              | (go_at_call 28; (with_reducible refine EN.out.mono ?_); rintro e w6 ⟨V, rfl, hb6⟩; have B6 := Lib.hid (BT.out.trans (hb6.mono BT.out.size)))
              | (go_at_call 24; (with_reducible refine (num_nil _).mono ?_); rintro e w7 ⟨rfl, rfl⟩))
            go_ret
            exact ⟨rfl, B6.out⟩
          · have d0 : True := trivial
            go_wp2_with (first
              | (go_at_call 28; (with_reducible refine EN.out.mono ?_); rintro e w6 ⟨V, rfl, hb6⟩; have B6 := Lib.hid (BT.out.trans (hb6.mono BT.out.size)))
              | (go_at_call 24; (with_reducible refine (num_nil _).mono ?_); rintro e w7 ⟨rfl, rfl⟩))
            go_ret
            exact ⟨rfl, B6.out⟩
        · have EN := Lib.hid (evnew_range ⟨O, 0, none⟩ d a3 k cap3 (by omega) _ (fun i _ e => by cases e) (by omega) E wr HP.out ((HEC.out.sub (by decide)).below BT.out))
          replace NU := Lib.hid (NU.out 1 (by decide))
          rw [errN_nz E 1 (by decide)] at NU
          unfold errAt at EN NU
          obtain e | e | e : k = 0 ∨ k = 3 ∨ (k = 2 ∧ (d < 0 ∨ 15 < d)) := by omega
          · subst e
            clear hok
            go_wp2_with (first
              | (go_at_call 28; (with_reducible refine EN.out.mono ?_); rintro e w6 ⟨rfl, hb6⟩; have B6 := Lib.hid (BT.out.trans (hb6.mono BT.out.size)))
              | (go_at_call 24; (with_reducible refine (NU.out _ (HE.out.below B6.out)).mono ?_); rintro e w7 ⟨rfl, hb7⟩; have B7 := Lib.hid (B6.out.trans (hb7.mono B6.out.size))))
            go_ret
            exact ⟨rfl, B7.out⟩
          · subst e
            clear hok
            go_wp2_with (first
              | (go_at_call 28; (with_reducible refine EN.out.mono ?_); rintro e w6 ⟨rfl, hb6⟩; have B6 := Lib.hid (BT.out.trans (hb6.mono BT.out.size)))
              | (go_at_call 24; (with_reducible refine (NU.out _ (HE.out.below B6.out)).mono ?_); rintro e w7 ⟨rfl, hb7⟩; have B7 := Lib.hid (B6.out.trans (hb7.mono B6.out.size))))
            go_ret
            exact ⟨rfl, B7.out⟩
          · obtain ⟨rfl, e⟩ := e
            rcases e with e | e
            · clear hok
              go_wp2_with (first
                | (go_at_call 28; (with_reducible refine EN.out.mono ?_); rintro e w6 ⟨rfl, hb6⟩; have B6 := Lib.hid (BT.out.trans (hb6.mono BT.out.size)))
                | (go_at_call 24; (with_reducible refine (NU.out _ (HE.out.below B6.out)).mono ?_); rintro e w7 ⟨rfl, hb7⟩; have B7 := Lib.hid (B6.out.trans (hb7.mono B6.out.size))))
              go_ret
              exact ⟨rfl, B7.out⟩
            · have e2 : 0 ≤ d := by omega
              clear hok
              go_wp2_with (first
                | (go_at_call 28; (with_reducible refine EN.out.mono ?_); rintro e w6 ⟨rfl, hb6⟩; have B6 := Lib.hid (BT.out.trans (hb6.mono BT.out.size)))
                | (go_at_call 24; (with_reducible refine (NU.out _ (HE.out.below B6.out)).mono ?_); rintro e w7 ⟨rfl, hb7⟩; have B7 := Lib.hid (B6.out.trans (hb7.mono B6.out.size))))
              go_ret
              exact ⟨rfl, B7.out⟩
end Go.Proofs.YtcolhncbpbcklaaDoor
