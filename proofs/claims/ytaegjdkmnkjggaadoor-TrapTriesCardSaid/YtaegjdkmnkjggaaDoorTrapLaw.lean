/- The walks of TrapCatches and TrapNests. Condition: the errors. -/
import Derived.Test.YtaegjdkmnkjggaaDoorTrapAct
import Derived.Test.YtaegjdkmnkjggaaDoorSeq
namespace Go.Proofs.YtaegjdkmnkjggaaDoor
set_option linter.unusedVariables false
set_option linter.unusedSimpArgs false
open Go.RowKit Go.Proofs

theorem Fate.mono {g : Nat} {args : Array Value} {w : World} {E : Nat → Addr} {k : Nat} {Q Q' : World → Prop} (h : Fate g args w E k Q) (hq : ∀ w, Q w → Q' w) : Fate g args w E k Q' := by
  rcases h with ⟨h, hF⟩ | ⟨h1, h2, hF⟩ | ⟨h, hF⟩
  · exact .inl ⟨h, hF.mono fun e w' ⟨a, b⟩ => ⟨a, hq _ b⟩⟩
  · exact .inr (.inl ⟨h1, h2, hF.mono fun e w' ⟨a, b⟩ => ⟨a, hq _ b⟩⟩)
  · exact .inr (.inr ⟨h, hF.mono fun e w' ⟨a, b⟩ => ⟨a, hq _ b⟩⟩)
theorem inn_clos (A C : Nat) (k : Nat) (hk : k < 11) (n : Int) (E : Nat → Addr) (w : World) (ha : Blk w A 3 #[.int .i64 (k : Int)]) (hc : Blk w C 3 #[.int .i64 n]) (h : ErrsAre w E) :
    Fate 37 #[.pointer (some ⟨A, 0, none⟩), .pointer (some ⟨C, 0, none⟩)] w E (ofK k n) (Below w.heap.size w) := by
  have c0 := ha.cell 0
  have c1 := hc.cell 0
  have hb0 : Below w.heap.size w (w.alloc (.cells #[.int .i64 1] 3)) := (Below.refl _ _).alloc (Nat.le_refl _) _
  have hf := act_fate k hk n w.heap.size E (w.alloc (.cells #[.int .i64 1] 3)) ((Blk.new _ _ _).cell 0) (h.below hb0)
  clear ha hc h
  rcases hf with ⟨h0, hF⟩ | ⟨h1, h2, hF⟩ | ⟨h0, hF⟩
  · refine .inl ⟨h0, ?_⟩
    replace h0 := Lib.hid h0
    go_enter Tryd.func37, Tryd.ntmps37
    go_wp2_with (go_at_call 34; refine hF.mono ?_; rintro e w2 ⟨rfl, hb⟩)
    ((try simp only [Exit.inBlock, Exit.then]); first | refine bodyPost_end (results_none rfl _ _ _) rfl ?_ | refine bodyPost_ret (results_none rfl _ _ _) rfl ?_)
    exact ⟨rfl, hb0.trans (hb.mono (by simp))⟩
  · refine .inr (.inl ⟨h1, h2, ?_⟩)
    go_enter Tryd.func37, Tryd.ntmps37
    go_wp2_with (go_at_call 34; refine hF.mono ?_; rintro e w2 ⟨rfl, hb⟩)
    exact ⟨rfl, rfl, hb0.trans (hb.mono (by simp))⟩
  · refine .inr (.inr ⟨h0, ?_⟩)
    replace h0 := Lib.hid h0
    go_enter Tryd.func37, Tryd.ntmps37
    go_wp2_with (go_at_call 34; refine hF.mono ?_; rintro e w2 ⟨⟨u, y, hu, rfl⟩, hb⟩)
    exact ⟨rfl, ⟨u, y, hu, rfl⟩, hb0.trans (hb.mono (by simp))⟩
theorem alone_clos (A C : Nat) (k : Nat) (hk : k < 11) (n : Int) (E : Nat → Addr) (w : World) (ha : Blk w A 3 #[.int .i64 (k : Int)]) (hc : Blk w C 3 #[.int .i64 n]) (h : ErrsAre w E) :
    Fate 38 #[.pointer (some ⟨A, 0, none⟩), .pointer (some ⟨C, 0, none⟩)] w E (ofK k n) (Below w.heap.size w) := by
  have c0 := ha.cell 0
  have c1 := hc.cell 0
  have hb0 : Below w.heap.size w (w.alloc (.cells #[.int .i64 1] 3)) := (Below.refl _ _).alloc (Nat.le_refl _) _
  have hf := act_fate k hk n w.heap.size E (w.alloc (.cells #[.int .i64 1] 3)) ((Blk.new _ _ _).cell 0) (h.below hb0)
  clear ha hc h
  rcases hf with ⟨h0, hF⟩ | ⟨h1, h2, hF⟩ | ⟨h0, hF⟩
  · refine .inl ⟨h0, ?_⟩
    replace h0 := Lib.hid h0
    go_enter Tryd.func38, Tryd.ntmps38
    go_wp2_with (go_at_call 34; refine hF.mono ?_; rintro e w2 ⟨rfl, hb⟩)
    ((try simp only [Exit.inBlock, Exit.then]); first | refine bodyPost_end (results_none rfl _ _ _) rfl ?_ | refine bodyPost_ret (results_none rfl _ _ _) rfl ?_)
    exact ⟨rfl, hb0.trans (hb.mono (by simp))⟩
  · refine .inr (.inl ⟨h1, h2, ?_⟩)
    go_enter Tryd.func38, Tryd.ntmps38
    go_wp2_with (go_at_call 34; refine hF.mono ?_; rintro e w2 ⟨rfl, hb⟩)
    exact ⟨rfl, rfl, hb0.trans (hb.mono (by simp))⟩
  · refine .inr (.inr ⟨h0, ?_⟩)
    replace h0 := Lib.hid h0
    go_enter Tryd.func38, Tryd.ntmps38
    go_wp2_with (go_at_call 34; refine hF.mono ?_; rintro e w2 ⟨⟨u, y, hu, rfl⟩, hb⟩)
    exact ⟨rfl, ⟨u, y, hu, rfl⟩, hb0.trans (hb.mono (by simp))⟩
theorem too_clos (A C : Nat) (k : Nat) (hk : k < 11) (n : Int) (E : Nat → Addr) (w : World) (ha : Blk w A 3 #[.int .i64 (k : Int)]) (hc : Blk w C 3 #[.int .i64 n]) (h : ErrsAre w E) :
    Fate 39 #[.pointer (some ⟨A, 0, none⟩), .pointer (some ⟨C, 0, none⟩)] w E (ofK k n) (Below w.heap.size w) := by
  have c0 := ha.cell 0
  have c1 := hc.cell 0
  have hb0 : Below w.heap.size w (w.alloc (.cells #[.int .i64 1] 3)) := (Below.refl _ _).alloc (Nat.le_refl _) _
  have hf := act_fate k hk n w.heap.size E (w.alloc (.cells #[.int .i64 1] 3)) ((Blk.new _ _ _).cell 0) (h.below hb0)
  clear ha hc h
  rcases hf with ⟨h0, hF⟩ | ⟨h1, h2, hF⟩ | ⟨h0, hF⟩
  · refine .inl ⟨h0, ?_⟩
    replace h0 := Lib.hid h0
    go_enter Tryd.func39, Tryd.ntmps39
    go_wp2_with (go_at_call 34; refine hF.mono ?_; rintro e w2 ⟨rfl, hb⟩)
    ((try simp only [Exit.inBlock, Exit.then]); first | refine bodyPost_end (results_none rfl _ _ _) rfl ?_ | refine bodyPost_ret (results_none rfl _ _ _) rfl ?_)
    exact ⟨rfl, hb0.trans (hb.mono (by simp))⟩
  · refine .inr (.inl ⟨h1, h2, ?_⟩)
    go_enter Tryd.func39, Tryd.ntmps39
    go_wp2_with (go_at_call 34; refine hF.mono ?_; rintro e w2 ⟨rfl, hb⟩)
    exact ⟨rfl, rfl, hb0.trans (hb.mono (by simp))⟩
  · refine .inr (.inr ⟨h0, ?_⟩)
    replace h0 := Lib.hid h0
    go_enter Tryd.func39, Tryd.ntmps39
    go_wp2_with (go_at_call 34; refine hF.mono ?_; rintro e w2 ⟨⟨u, y, hu, rfl⟩, hb⟩)
    exact ⟨rfl, ⟨u, y, hu, rfl⟩, hb0.trans (hb.mono (by simp))⟩
theorem inn_ent : Enters 37 := fun args w => enters_of Tryd.func37 (by kernel_rfl) rfl args w
theorem alone_ent : Enters 38 := fun args w => enters_of Tryd.func38 (by kernel_rfl) rfl args w
theorem too_ent : Enters 39 := fun args w => enters_of Tryd.func39 (by kernel_rfl) rfl args w
theorem out_ent : Enters 36 := fun args w => enters_of Tryd.func36 (by kernel_rfl) rfl args w
theorem catches_ent : Enters 33 := fun args w => enters_of Tryd.func33 (by kernel_rfl) rfl args w
theorem alive1_ent : Enters 79 := fun args w => enters_of Tryd.func79 (by kernel_rfl) rfl args w
theorem alive2_ent : Enters 81 := fun args w => enters_of Tryd.func81 (by kernel_rfl) rfl args w

/-- how many kinds there are -/
def kindN (k : Int) : Nat := (IntKind.u64.wrap k % 11).toNat
theorem kindN_lt (k : Int) : kindN k < 11 := by unfold kindN; omega
theorem kinds_any (k : Int) (w : World) : Calls Tryd.prog 31 #[.int .i64 k] w fun e w' => e = .returned (.int .i64 ((kindN k : Nat) : Int)) ∧ w = w' := by
  have hu0 : 0 ≤ IntKind.u64.wrap k := by rw [IntKind.wrap_u64]; omega
  have hN : IntKind.u64.wrap k % 11 = ((kindN k : Nat) : Int) := by unfold kindN; omega
  have hl := kindN_lt k
  generalize kindN k = N at *
  go_enter Tryd.func31, Tryd.ntmps31
  go_wp2
  go_ret
  exact ⟨rfl, rfl⟩
theorem alive1_fate (E : Nat → Addr) (w : World) (h : ErrsAre w E) : Fate 79 #[] w E 11 (Below w.heap.size w) := by
  refine .inr (.inl ⟨by decide, by decide, ?_⟩)
  have he := err_in 11 (by decide) (by decide) E w h
  clear h
  go_enter Tryd.func79, Tryd.ntmps79
  go_wp2_with (first
    | (go_at_call 42; refine he.mono ?_; rintro e w1 ⟨rfl, hb1⟩)
    | (go_at_call 80; refine (raise_err E 11 _).mono ?_; rintro e w' ⟨rfl, rfl⟩))
  exact ⟨rfl, rfl, hb1⟩
theorem alive2_fate (Z : Nat) (E : Nat → Addr) (w : World) (h : Blk w Z 3 #[.int .i64 0]) : Fate 81 #[.pointer (some ⟨Z, 0, none⟩)] w E 10 (Below w.heap.size w) := by
  refine .inr (.inr ⟨rfl, ?_⟩)
  have c0 := h.cell 0
  clear h
  go_enter Tryd.func81, Tryd.ntmps81
  go_wp2
  exact ⟨rfl, ⟨_, _, by decide, rfl⟩, by first | (go_grown; done) | exact (Below.refl _ _).drew | exact Below.refl _ _⟩
/-- what Catch wants to know behind the call -/
theorem catch_below (g : Nat) (lb : Array Value) (E : Nat → Addr) (k : Nat) (w : World) (eg : Enters g) (he : ErrsAre w E) (hF : Fate g lb (w.alloc (.cells #[.nilIface] 26)) E k (Below (w.heap.size + 1) (w.alloc (.cells #[.nilIface] 26)))) :
    Calls Tryd.prog 32 #[.func (.func g) #[] lb] w fun e w' => e = .returned (errN E k) ∧ Below w.heap.size w w' := by
  have hb0 : Below w.heap.size w (w.alloc (.cells #[.nilIface] 26)) := (Below.refl _ _).alloc (Nat.le_refl _) _
  refine (catch_fate g lb E k _ w eg hF fun w2 h => ⟨(Blk.new w _ _).below h (by omega), ?_⟩).mono ?_
  · exact ((he.below hb0).below (show Below _ _ _ by simpa using h)).c10
  · rintro e w' ⟨rfl, w2, hq, hb⟩
    exact ⟨rfl, (hb0.trans (hq.mono (by omega))).trans hb⟩
theorem alive05_any (E : Nat → Addr) (w : World) (he : ErrsAre w E) :
    Calls Tryd.prog 30 #[] w fun e w' => e = .returned (.bool true) ∧ Below w.heap.size w w' := by
  have hmf : ∀ (fn : Fn) (first cap : Array Value) (w : World), (Instr.makeFunc fn first cap).run Tryd.prog w = .ok (.func fn first cap) w := fun _ _ _ _ => rfl
  have HE := Lib.hid he
  clear he
  have C1 := Lib.hid (fun (W : World) (h : ErrsAre W E) => catch_below _ #[] E 11 W alive1_ent h (by have := alive1_fate E (W.alloc (.cells #[.nilIface] 26)) (h.below ((Below.refl _ _).alloc (Nat.le_refl _) _)); simpa using this))
  have C2 := Lib.hid (fun (W : World) (Z : Nat) (hZ : Blk W Z 3 #[.int .i64 0]) (h : ErrsAre W E) => catch_below _ #[.pointer (some ⟨Z, 0, none⟩)] E 10 W alive2_ent h (by have := alive2_fate Z E (W.alloc (.cells #[.nilIface] 26)) (hZ.alloc _); simpa using this))
  have N1 := Lib.hid (fun (W : World) (h : ErrsAre W E) => num_any E 11 (by decide) W h)
  have N2 := Lib.hid (fun (W : World) (h : ErrsAre W E) => num_any E 10 (by decide) W h)
  go_enter Tryd.func30, Tryd.ntmps30
  go_wp2_with (first
    | (go_at_call 23; refine (N2.out _ (HE.out.below hb3)).mono ?_; rintro e w4 ⟨rfl, hb⟩; have hb4 := hb3.trans (hb.mono hb3.size))
    | (go_at_call 32; refine (C2.out _ w.heap.size ((Blk.new w _ _).below hb2' (by simp)) (HE.out.below hb2)).mono ?_; rintro e w3 ⟨rfl, hb⟩; have hb3 := hb2.trans (hb.mono hb2.size))
    | (go_at_call 23; refine (N1.out _ (HE.out.below hb1)).mono ?_; rintro e w2 ⟨rfl, hb⟩; have hb2 := hb1.trans (hb.mono hb1.size); have hb2' := hb1'.trans (hb.mono hb1'.size))
    | (go_at_call 32; refine (C1.out _ (HE.out.below (by go_grown))).mono ?_; rintro e w1 ⟨rfl, hb⟩; have hb1' := hb; have hb1 : Below w.heap.size w w1 := Below.trans (by go_grown) (hb.mono (by simp))))
  go_ret
  exact ⟨rfl, hb4⟩
end Go.Proofs.YtaegjdkmnkjggaaDoor
