/- The walk of TrapNests. Condition: the errors. -/
import Derived.Test.YtaegjdkmnkjggaaDoorTrapCatches
import Derived.Deep.Cut
import Derived.Deep.RegionWith
namespace Go.Proofs.YtaegjdkmnkjggaaDoor
set_option linter.unusedVariables false
set_option linter.unusedSimpArgs false
open Go.RowKit Go.Proofs

theorem inn_catch (A C : Nat) (k : Nat) (hk : k < 11) (n : Int) (E : Nat → Addr) (w : World) (ha : Blk w A 3 #[.int .i64 (k : Int)]) (hc : Blk w C 3 #[.int .i64 n]) (h : ErrsAre w E) :
    Calls Tryd.prog 32 #[.func (.func 37) #[] #[.pointer (some ⟨A, 0, none⟩), .pointer (some ⟨C, 0, none⟩)]] w fun e w' => e = .returned (errN E (ofK k n)) ∧ Below w.heap.size w w' :=
  catch_below _ _ E (ofK k n) w inn_ent h (by have := inn_clos A C k hk n E (w.alloc (.cells #[.nilIface] 26)) (ha.alloc _) (hc.alloc _) (h.below ((Below.refl _ _).alloc (Nat.le_refl _) _)); simpa using this)
theorem alone_catch (A C : Nat) (k : Nat) (hk : k < 11) (n : Int) (E : Nat → Addr) (w : World) (ha : Blk w A 3 #[.int .i64 (k : Int)]) (hc : Blk w C 3 #[.int .i64 n]) (h : ErrsAre w E) :
    Calls Tryd.prog 32 #[.func (.func 38) #[] #[.pointer (some ⟨A, 0, none⟩), .pointer (some ⟨C, 0, none⟩)]] w fun e w' => e = .returned (errN E (ofK k n)) ∧ Below w.heap.size w w' :=
  catch_below _ _ E (ofK k n) w alone_ent h (by have := alone_clos A C k hk n E (w.alloc (.cells #[.nilIface] 26)) (ha.alloc _) (hc.alloc _) (h.below ((Below.refl _ _).alloc (Nat.le_refl _) _)); simpa using this)
theorem too_catch (A C : Nat) (k : Nat) (hk : k < 11) (n : Int) (E : Nat → Addr) (w : World) (ha : Blk w A 3 #[.int .i64 (k : Int)]) (hc : Blk w C 3 #[.int .i64 n]) (h : ErrsAre w E) :
    Calls Tryd.prog 32 #[.func (.func 39) #[] #[.pointer (some ⟨A, 0, none⟩), .pointer (some ⟨C, 0, none⟩)]] w fun e w' => e = .returned (errN E (ofK k n)) ∧ Below w.heap.size w w' :=
  catch_below _ _ E (ofK k n) w too_ent h (by have := too_clos A C k hk n E (w.alloc (.cells #[.nilIface] 26)) (ha.alloc _) (hc.alloc _) (h.below ((Below.refl _ _).alloc (Nat.le_refl _) _)); simpa using this)
/-- an error that may be none, in a cell -/
theorem errN_cell (E : Nat → Addr) (k : Nat) : ∃ v, errN E k = v ∧ (v = .nilIface ∨ ∃ p, v = .iface 150 p) := by
  unfold errN errAt
  split
  · exact ⟨_, rfl, .inl rfl⟩
  · exact ⟨_, rfl, .inr ⟨_, rfl⟩⟩
/-- act, kind by kind, wherever it is called -/
theorem act_cases (k : Nat) (hk : k < 11) (n : Int) (E : Nat → Addr) :
    (ofK k n = 0 ∧ ∀ B w, w.cell? ⟨B, 0, none⟩ = some (.int .i64 1) → ErrsAre w E → Calls Tryd.prog 34 #[.int .i64 (k : Int), .int .i64 n, .slice (some ⟨B, 0, none⟩) 1 1] w fun e w' => e = .returned (.tuple #[]) ∧ Below w.heap.size w w') ∨
    (1 ≤ ofK k n ∧ ofK k n ≤ 16 ∧ ∀ B w, w.cell? ⟨B, 0, none⟩ = some (.int .i64 1) → ErrsAre w E → Calls Tryd.prog 34 #[.int .i64 (k : Int), .int .i64 n, .slice (some ⟨B, 0, none⟩) 1 1] w fun e w' => e = .panicked [{ v := raisedV (errAt E (ofK k n)), recovered := false }] ∧ Below w.heap.size w w') ∨
    (ofK k n = 10 ∧ ∀ B w, w.cell? ⟨B, 0, none⟩ = some (.int .i64 1) → ErrsAre w E → Calls Tryd.prog 34 #[.int .i64 (k : Int), .int .i64 n, .slice (some ⟨B, 0, none⟩) 1 1] w fun e w' => Broke e ∧ Below w.heap.size w w') := by
  have b : 3 < k → ofK k n = 10 := fun h => by unfold ofK; rw [if_neg (by omega), if_neg (by omega)]
  match k, hk with
  | 0, _ => exact .inl ⟨rfl, fun B w _ _ => act_0 n _ w⟩
  | 1, _ =>
    by_cases hn : n < 1 ∨ 16 < n
    · exact .inl ⟨by unfold ofK; rw [if_neg (by decide), if_pos rfl, if_pos hn], fun B w _ _ => act_1out n hn _ w⟩
    · obtain ⟨m, rfl⟩ : ∃ m : Nat, n = (m : Int) := ⟨n.toNat, by omega⟩
      have e : ofK 1 (m : Int) = m := by unfold ofK; rw [if_neg (by decide), if_pos rfl, if_neg hn]; simp
      rw [e]
      exact .inr (.inl ⟨by omega, by omega, fun B w _ h => act_1in m (by omega) (by omega) E _ w h⟩)
  | 2, _ => exact .inl ⟨rfl, fun B w _ _ => act_2 n _ w⟩
  | 3, _ =>
    rw [show ofK 3 n = 10 by unfold ofK; rw [if_neg (by decide), if_neg (by decide)]]
    exact .inr (.inl ⟨by decide, by decide, fun B w _ h => act_3 n E _ w h.c10⟩)
  | 4, _ => exact .inr (.inr ⟨b (by decide), fun B w hc _ => act_4 n B w hc⟩)
  | 5, _ => exact .inr (.inr ⟨b (by decide), fun B w hc _ => act_5 n B w hc⟩)
  | 6, _ => exact .inr (.inr ⟨b (by decide), fun B w hc _ => act_6 n B w hc⟩)
  | 7, _ => exact .inr (.inr ⟨b (by decide), fun B w hc _ => act_7 n B w hc⟩)
  | 8, _ => exact .inr (.inr ⟨b (by decide), fun B w hc _ => act_8 n B w hc⟩)
  | 9, _ => exact .inr (.inr ⟨b (by decide), fun B w hc _ => act_9 n B w hc⟩)
  | 10, _ => exact .inr (.inr ⟨b (by decide), fun B w hc _ => act_10 n B w hc⟩)
set_option maxHeartbeats 3200000 in
/-- the outer closure: cells of a, n, the inner error, behind, b -/
theorem out_clos (A C I H G : Nat) (a b : Nat) (ha : a < 11) (hb : b < 11) (n : Int) (E : Nat → Addr) (w0 w : World) (ba : Blk w A 3 #[.int .i64 (a : Int)]) (bn : Blk w C 3 #[.int .i64 n]) (bi : Blk w I 26 #[.nilIface]) (bh : Blk w H 4 #[.bool false]) (bg : Blk w G 3 #[.int .i64 (b : Int)])
    (h : ErrsAre w0 E) (hb0 : Below w0.heap.size w0 w) (d1 : A ≠ I ∧ A ≠ H ∧ C ≠ I ∧ C ≠ H ∧ G ≠ I ∧ G ≠ H ∧ I ≠ H) (hN : w0.heap.size ≤ I ∧ w0.heap.size ≤ H) :
    Fate 36 #[.pointer (some ⟨A, 0, none⟩), .pointer (some ⟨C, 0, none⟩), .pointer (some ⟨I, 0, none⟩), .pointer (some ⟨H, 0, none⟩), .pointer (some ⟨G, 0, none⟩)] w E (ofK b n)
      (fun w2 => (Blk w2 I 26 #[errN E (ofK a n)] ∧ Blk w2 H 4 #[.bool true]) ∧ Chg (fun b => b = I ∨ b = H) w w2) := by
  have hmf : ∀ (fn : Fn) (first cap : Array Value) (w : World), (Instr.makeFunc fn first cap).run Tryd.prog w = .ok (.func fn first cap) w := fun _ _ _ _ => rfl
  obtain ⟨x1, x2, x3, x4, x5, x6, x7⟩ := d1
  obtain ⟨y1, y2⟩ := hN
  have hI := inn_catch A C a ha n E w ba bn (h.below hb0)
  obtain ⟨v, hv, hvv⟩ := errN_cell E (ofK a n)
  rw [hv] at hI ⊢
  have HKE := Lib.hid (show ∀ w1, Below w.heap.size w w1 → ∀ W, W = ((w1.setCell ⟨I, 0, none⟩ v).setCell ⟨H, 0, none⟩ (.bool true)).alloc (.cells #[.int .i64 1] 3) → ErrsAre W E from by
    intro w1 hb1 W hW
    rw [hW]
    exact h.below ((((hb0.trans (hb1.mono hb0.size)).setCell (p := ⟨I, 0, none⟩) y1 _).setCell (p := ⟨H, 0, none⟩) y2 _).alloc (by have := hb0.size; have := hb1.size; simp [World.setCell]; omega) _))
  have HKQ := Lib.hid (show ∀ w1, Below w.heap.size w w1 → ∀ W, W = ((w1.setCell ⟨I, 0, none⟩ v).setCell ⟨H, 0, none⟩ (.bool true)).alloc (.cells #[.int .i64 1] 3) → ∀ w2, Below W.heap.size W w2 → (Blk w2 I 26 #[v] ∧ Blk w2 H 4 #[.bool true]) ∧ Chg (fun b => b = I ∨ b = H) w w2 from by
    intro w1 hb1 W hW w2 h2
    have e1 : Blk ((w1.setCell ⟨I, 0, none⟩ v).setCell ⟨H, 0, none⟩ (.bool true)) I 26 #[v] := (((bi.below hb1 bi.lt).set 0 v).other x7 0 _)
    have e2 : Blk ((w1.setCell ⟨I, 0, none⟩ v).setCell ⟨H, 0, none⟩ (.bool true)) H 4 #[.bool true] := ((bh.below hb1 bh.lt).other (Ne.symm x7) 0 _).set 0 _
    have hcW : Chg (fun b => b = I ∨ b = H) w W := by rw [hW]; exact (((Chg.of_below hb1).setCell (.inl (.inl rfl)) _).setCell (.inl (.inr rfl)) _).alloc _
    refine ⟨⟨?_, ?_⟩, hcW.thenBelow h2⟩
    · rw [hW] at h2; exact (e1.alloc _).below h2 (e1.alloc _).lt
    · rw [hW] at h2; exact (e2.alloc _).below h2 (e2.alloc _).lt)
  have zI := bi.lt
  have zH := bh.lt
  have zA := ba.lt
  have zC := bn.lt
  have zG := bg.lt
  have f0 := bi.frozen 0
  have f1 := bh.frozen 0
  have c0 := ba.cell 0
  have c1 := bn.cell 0
  have c2 := bi.cell 0
  have c3 := bh.cell 0
  have c4 := bg.cell 0
  replace hv := Lib.hid hv
  clear ba bn bi bh bg h hb0 y1 y2
  rcases act_cases b hb n E with ⟨h0, hF⟩ | ⟨h1, h2, hF⟩ | ⟨h0, hF⟩
  · refine .inl ⟨h0, ?_⟩
    replace h0 := Lib.hid h0
    rcases hvv with rfl | ⟨p, rfl⟩
    · skip
      go_enter Tryd.func36, Tryd.ntmps36
      go_wp2_with (first
        | (go_at_call 32; refine hI.mono ?_; rintro e w1 ⟨rfl, hb1⟩; obtain ⟨k1, k2⟩ := bcell hb1; have y1 : I < w1.heap.size := Nat.lt_of_lt_of_le zI hb1.size; have y2 : H < w1.heap.size := Nat.lt_of_lt_of_le zH hb1.size)
        | (go_at_call 34; refine (hF _ _ ((Blk.new_at (by simp [World.setCell])).cell 0) (HKE.out w1 hb1 _ rfl)).mono ?_; rintro e w2 ⟨rfl, hb2⟩))
      ((try simp only [Exit.inBlock, Exit.then]); first | refine bodyPost_end (results_none rfl _ _ _) rfl ?_ | refine bodyPost_ret (results_none rfl _ _ _) rfl ?_)
      exact ⟨rfl, HKQ.out w1 hb1 _ rfl w2 hb2⟩
    · skip
      go_enter Tryd.func36, Tryd.ntmps36
      go_wp2_with (first
        | (go_at_call 32; refine hI.mono ?_; rintro e w1 ⟨rfl, hb1⟩; obtain ⟨k1, k2⟩ := bcell hb1; have y1 : I < w1.heap.size := Nat.lt_of_lt_of_le zI hb1.size; have y2 : H < w1.heap.size := Nat.lt_of_lt_of_le zH hb1.size)
        | (go_at_call 34; refine (hF _ _ ((Blk.new_at (by simp [World.setCell])).cell 0) (HKE.out w1 hb1 _ rfl)).mono ?_; rintro e w2 ⟨rfl, hb2⟩))
      ((try simp only [Exit.inBlock, Exit.then]); first | refine bodyPost_end (results_none rfl _ _ _) rfl ?_ | refine bodyPost_ret (results_none rfl _ _ _) rfl ?_)
      exact ⟨rfl, HKQ.out w1 hb1 _ rfl w2 hb2⟩
  · refine .inr (.inl ⟨h1, h2, ?_⟩)
    rcases hvv with rfl | ⟨p, rfl⟩
    · skip
      go_enter Tryd.func36, Tryd.ntmps36
      go_wp2_with (first
        | (go_at_call 32; refine hI.mono ?_; rintro e w1 ⟨rfl, hb1⟩; obtain ⟨k1, k2⟩ := bcell hb1; have y1 : I < w1.heap.size := Nat.lt_of_lt_of_le zI hb1.size; have y2 : H < w1.heap.size := Nat.lt_of_lt_of_le zH hb1.size)
        | (go_at_call 34; refine (hF _ _ ((Blk.new_at (by simp [World.setCell])).cell 0) (HKE.out w1 hb1 _ rfl)).mono ?_; rintro e w2 ⟨rfl, hb2⟩))
      exact ⟨rfl, rfl, HKQ.out w1 hb1 _ rfl w2 hb2⟩
    · skip
      go_enter Tryd.func36, Tryd.ntmps36
      go_wp2_with (first
        | (go_at_call 32; refine hI.mono ?_; rintro e w1 ⟨rfl, hb1⟩; obtain ⟨k1, k2⟩ := bcell hb1; have y1 : I < w1.heap.size := Nat.lt_of_lt_of_le zI hb1.size; have y2 : H < w1.heap.size := Nat.lt_of_lt_of_le zH hb1.size)
        | (go_at_call 34; refine (hF _ _ ((Blk.new_at (by simp [World.setCell])).cell 0) (HKE.out w1 hb1 _ rfl)).mono ?_; rintro e w2 ⟨rfl, hb2⟩))
      exact ⟨rfl, rfl, HKQ.out w1 hb1 _ rfl w2 hb2⟩
  · refine .inr (.inr ⟨h0, ?_⟩)
    replace h0 := Lib.hid h0
    rcases hvv with rfl | ⟨p, rfl⟩
    · skip
      go_enter Tryd.func36, Tryd.ntmps36
      go_wp2_with (first
        | (go_at_call 32; refine hI.mono ?_; rintro e w1 ⟨rfl, hb1⟩; obtain ⟨k1, k2⟩ := bcell hb1; have y1 : I < w1.heap.size := Nat.lt_of_lt_of_le zI hb1.size; have y2 : H < w1.heap.size := Nat.lt_of_lt_of_le zH hb1.size)
        | (go_at_call 34; refine (hF _ _ ((Blk.new_at (by simp [World.setCell])).cell 0) (HKE.out w1 hb1 _ rfl)).mono ?_; rintro e w2 ⟨⟨u, y, hu, rfl⟩, hb2⟩))
      exact ⟨rfl, ⟨u, y, hu, rfl⟩, HKQ.out w1 hb1 _ rfl w2 hb2⟩
    · skip
      go_enter Tryd.func36, Tryd.ntmps36
      go_wp2_with (first
        | (go_at_call 32; refine hI.mono ?_; rintro e w1 ⟨rfl, hb1⟩; obtain ⟨k1, k2⟩ := bcell hb1; have y1 : I < w1.heap.size := Nat.lt_of_lt_of_le zI hb1.size; have y2 : H < w1.heap.size := Nat.lt_of_lt_of_le zH hb1.size)
        | (go_at_call 34; refine (hF _ _ ((Blk.new_at (by simp [World.setCell])).cell 0) (HKE.out w1 hb1 _ rfl)).mono ?_; rintro e w2 ⟨⟨u, y, hu, rfl⟩, hb2⟩))
      exact ⟨rfl, ⟨u, y, hu, rfl⟩, HKQ.out w1 hb1 _ rfl w2 hb2⟩

set_option maxRecDepth 100000 in
set_option maxHeartbeats 3200000 in
theorem trapNests_any (inner outer n : Int) (E : Nat → Addr) (w0 : World) (he : ErrsAre w0 E) :
    Calls Tryd.prog 7 #[.int .i64 inner, .int .i64 outer, .int .i64 n] w0 fun e w' => e = .returned (.bool true) ∧ Below w0.heap.size w0 w' := by
  have hmf : ∀ (fn : Fn) (first cap : Array Value) (w : World), (Instr.makeFunc fn first cap).run Tryd.prog w = .ok (.func fn first cap) w := fun _ _ _ _ => rfl
  have HE := Lib.hid he
  clear he
  have hal := kindN_lt inner
  have hbl := kindN_lt outer
  have HK1 := Lib.hid (kinds_any inner)
  have HK2 := Lib.hid (kinds_any outer)
  generalize kindN inner = a at hal HK1
  generalize kindN outer = b at hbl HK2
  have AL := Lib.hid (fun (w : World) h => alive05_any E w h)
  have NA := Lib.hid (fun (w : World) h => num_any E (ofK a n) (ofK_le a n) w h)
  have NB := Lib.hid (fun (w : World) h => num_any E (ofK b n) (ofK_le b n) w h)
  have CO := Lib.hid (fun (W : World) (A C I H G : Nat) (ba : Blk W A 3 #[.int .i64 (a : Int)]) (bn : Blk W C 3 #[.int .i64 n]) (bi : Blk W I 26 #[.nilIface]) (bh : Blk W H 4 #[.bool false]) (bg : Blk W G 3 #[.int .i64 (b : Int)]) (hb : Below w0.heap.size w0 W) (d1 : A ≠ I ∧ A ≠ H ∧ C ≠ I ∧ C ≠ H ∧ G ≠ I ∧ G ≠ H ∧ I ≠ H) (hN : w0.heap.size ≤ I ∧ w0.heap.size ≤ H) =>
    catch_fate 36 #[.pointer (some ⟨A, 0, none⟩), .pointer (some ⟨C, 0, none⟩), .pointer (some ⟨I, 0, none⟩), .pointer (some ⟨H, 0, none⟩), .pointer (some ⟨G, 0, none⟩)] E (ofK b n)
      (fun w2 => (Blk w2 I 26 #[errN E (ofK a n)] ∧ Blk w2 H 4 #[.bool true]) ∧ Chg (fun b => b = I ∨ b = H) (W.alloc (.cells #[.nilIface] 26)) w2) W out_ent
      (out_clos A C I H G a b hal hbl n E w0 _ (ba.alloc _) (bn.alloc _) (bi.alloc _) (bh.alloc _) (bg.alloc _) HE.out (hb.alloc hb.size _) d1 hN)
      (fun w2 h2 => ⟨(Blk.new W _ _).chg h2.2 (by have := bi.lt; have := bh.lt; omega), (HE.out.below ((hb.alloc hb.size _).trans (h2.2.below (by have := hb.size; simp; omega) (fun k hk e => by omega)))).c10⟩))
  have CA := Lib.hid (fun (w : World) A C h1 h2 h3 => alone_catch A C a hal n E w h1 h2 h3)
  have CT := Lib.hid (fun (w : World) A C h1 h2 h3 => too_catch A C b hbl n E w h1 h2 h3)
  go_enter Tryd.func7, Tryd.ntmps7
  go_upto_region 6 with (first
    | (go_at_call 30; refine (AL.out _ (HE.out.below (by go_grown))).mono ?_; rintro e w1 ⟨rfl, hb1⟩; have bC1 := Lib.hid ((Blk.new w0 3 #[.int .i64 n]).below hb1 (by simp)); have hb1' : Below w0.heap.size w0 w1 := Below.trans (by go_grown) (hb1.mono (by simp)))
    | (go_at_call_of 31 (Value.int .i64 inner); refine (HK1.out _).mono ?_; rintro e w' ⟨rfl, rfl⟩)
    | (go_at_call_of 31 (Value.int .i64 outer); refine (HK2.out _).mono ?_; rintro e w' ⟨rfl, rfl⟩))
  refine wp_at (fun W hW => ?_)
  have zC := bC1.out.lt
  have z1 := hb1'.size
  obtain ⟨A, hA⟩ : ∃ A, A = w1.heap.size := ⟨_, rfl⟩
  have bA : Blk W A 3 #[.int .i64 (a : Int)] := by rw [hW, hA]; exact (((Blk.new w1 _ _).alloc _).alloc _).alloc _
  have bG : Blk W (A + 1) 3 #[.int .i64 (b : Int)] := by rw [hW, hA]; exact ((Blk.new_at (by simp)).alloc _).alloc _
  have bI : Blk W (A + 1 + 1) 26 #[.nilIface] := by rw [hW, hA]; exact (Blk.new_at (by simp)).alloc _
  have bH : Blk W (A + 1 + 1 + 1) 4 #[.bool false] := by rw [hW, hA]; exact Blk.new_at (by simp)
  have bC : Blk W w0.heap.size 3 #[.int .i64 n] := by rw [hW]; exact (((bC1.out.alloc _).alloc _).alloc _).alloc _
  have hBW : Below w0.heap.size w0 W := by rw [hW]; exact (((hb1'.alloc z1 _).alloc (by simp; omega) _).alloc (by simp; omega) _).alloc (by simp; omega) _
  rw [← hA] at zC z1 ⊢
  have CO1 := Lib.hid (CO.out W A w0.heap.size (A + 1 + 1) (A + 1 + 1 + 1) (A + 1) bA bC bI bH bG hBW (by omega) (by omega))
  have zW := hBW.size
  have zW2 := bH.lt
  clear CO hb1 hb1' bC1
  replace hW := Lib.hid hW
  replace hA := Lib.hid hA
  have X := Lib.hid (⟨bA, bC, bG, hBW⟩ : Blk W A 3 #[.int .i64 (a : Int)] ∧ Blk W w0.heap.size 3 #[.int .i64 n] ∧ Blk W (A + 1) 3 #[.int .i64 (b : Int)] ∧ Below w0.heap.size w0 W)
  clear bA bC bG bI bH hBW
  go_upto_region 8 with (first
    | (go_at_call 32; refine (CT.out _ (A + 1) w0.heap.size (Y.out.2.2.2.2.1.below hb4 Y.out.2.2.2.2.1.lt) (Y.out.2.2.2.1.below hb4 Y.out.2.2.2.1.lt) (HE.out.below (Y.out.2.2.2.2.2.trans (hb4.mono Y.out.2.2.2.2.2.size)))).mono ?_; rintro e w5 ⟨rfl, hb5⟩)
    | (go_at_call 32; refine (CA.out _ A w0.heap.size Y.out.2.2.1 Y.out.2.2.2.1 (HE.out.below Y.out.2.2.2.2.2)).mono ?_; rintro e w4 ⟨rfl, hb4⟩)
    | (go_at_call 32; refine CO1.out.mono ?_; rintro e w3 ⟨rfl, w2, ⟨⟨i2, h2⟩, hc2⟩, hb3⟩; have gz := hc2.size; simp only [World.size_alloc] at gz; have hz3 := hb3.size; have i3 := i2.below hb3 (by omega); have h3 := h2.below hb3 (by omega); have A3 := (((X.out.1.alloc _).chg hc2 (by omega)).below hb3 (by omega)); have C3 := (((X.out.2.1.alloc _).chg hc2 (by omega)).below hb3 (by omega)); have G3 := (((X.out.2.2.1.alloc _).chg hc2 (by omega)).below hb3 (by omega)); have B3 : Below w0.heap.size w0 w3 := (X.out.2.2.2.alloc zW _).trans ((hc2.below (by simp; omega) (fun k hk e => by omega)).trans (hb3.mono zW)); have Y := Lib.hid (⟨i3, h3, A3, C3, G3, B3⟩ : Blk w3 (A + 1 + 1) 26 #[errN E (ofK a n)] ∧ Blk w3 (A + 1 + 1 + 1) 4 #[.bool true] ∧ Blk w3 A 3 #[.int .i64 (a : Int)] ∧ Blk w3 w0.heap.size 3 #[.int .i64 n] ∧ Blk w3 (A + 1) 3 #[.int .i64 (b : Int)] ∧ Below w0.heap.size w0 w3); clear i3 h3 A3 C3 G3 B3 hb3 hc2 i2 h2))
  have b35 := hb4.trans (hb5.mono hb4.size)
  have ci := (Y.out.1.below b35 Y.out.1.lt).cell 0
  have ch := (Y.out.2.1.below b35 Y.out.2.1.lt).cell 0
  have B5 := Y.out.2.2.2.2.2.trans (b35.mono Y.out.2.2.2.2.2.size)
  have e1 : (((ofK a n : Nat) : Int) == ((ofK a n : Nat) : Int)) = true := by simp
  have e2 : (((ofK b n : Nat) : Int) == ((ofK b n : Nat) : Int)) = true := by simp
  generalize ofK a n = x at *
  generalize ofK b n = y at *
  clear X
  go_wp2_with (first
    | (go_at_call 23; refine (NB.out _ (HE.out.below B8)).mono ?_; rintro e w9 ⟨rfl, hb9⟩; have B9 := B8.trans (hb9.mono B8.size))
    | (go_at_call 23; refine (NB.out _ (HE.out.below B7)).mono ?_; rintro e w8 ⟨rfl, hb8⟩; have B8 := B7.trans (hb8.mono B7.size))
    | (go_at_call 23; refine (NA.out _ (HE.out.below B6)).mono ?_; rintro e w7 ⟨rfl, hb7⟩; have B7 := B6.trans (hb7.mono B6.size))
    | (go_at_call 23; refine (NA.out _ (HE.out.below B5)).mono ?_; rintro e w6 ⟨rfl, hb6⟩; have B6 := B5.trans (hb6.mono B5.size)))
  go_ret
  exact ⟨rfl, B9⟩
end Go.Proofs.YtaegjdkmnkjggaaDoor
