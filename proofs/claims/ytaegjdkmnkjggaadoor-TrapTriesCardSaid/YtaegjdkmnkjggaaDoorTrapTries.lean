/- The walk of TrapTries. Condition: the errors. -/
import Derived.Test.YtaegjdkmnkjggaaDoorTrapNests
namespace Go.Proofs.YtaegjdkmnkjggaaDoor
set_option linter.unusedVariables false
set_option linter.unusedSimpArgs false
open Go.RowKit Go.Proofs

theorem tryc_ok (g : Nat) (lb : Array Value) (eg : Enters g) (v : Int) (x : Value) (hx : x = .nilIface ∨ ∃ p, x = .iface 150 p) (F O R : Nat) (w : World) (hf : Blk w F 56 #[.func (.func g) #[] lb]) (ho : Blk w O 3 #[.int .i64 0]) (hr : Blk w R 26 #[.nilIface])
    (hC : Calls Tryd.prog g lb w fun e w' => e = .returned (.tuple #[.int .i64 v, x]) ∧ Below w.heap.size w w') (hne : O ≠ R) :
    Calls Tryd.prog 84 #[.pointer (some ⟨F, 0, none⟩), .pointer (some ⟨O, 0, none⟩), .pointer (some ⟨R, 0, none⟩)] w fun e w' => e = .returned (.tuple #[]) ∧ (Blk w' O 3 #[.int .i64 v] ∧ Blk w' R 26 #[x]) ∧ Chg (fun b => b = O ∨ b = R) w w' := by
  have eg' : ∀ args w, (callFunc g args).run Tryd.prog w = .ok (.enter g args) w := eg
  have HQ := Lib.hid (show ∀ w1, Below w.heap.size w w1 → (Blk ((w1.setCell ⟨O, 0, none⟩ (.int .i64 v)).setCell ⟨R, 0, none⟩ x) O 3 #[.int .i64 v] ∧ Blk ((w1.setCell ⟨O, 0, none⟩ (.int .i64 v)).setCell ⟨R, 0, none⟩ x) R 26 #[x]) ∧ Chg (fun b => b = O ∨ b = R) w ((w1.setCell ⟨O, 0, none⟩ (.int .i64 v)).setCell ⟨R, 0, none⟩ x) from
    fun w1 hb => ⟨⟨((ho.below hb ho.lt).set 0 _).other hne 0 _, ((hr.below hb hr.lt).other (Ne.symm hne) 0 _).set 0 _⟩, ((Chg.of_below hb).setCell (.inl (.inl rfl)) _).setCell (.inl (.inr rfl)) _⟩)
  have zO := ho.lt
  have zR := hr.lt
  have c0 := hf.cell 0
  have c1 := ho.cell 0
  have c2 := hr.cell 0
  have f1 := ho.frozen 0
  have f2 := hr.frozen 0
  clear hf ho hr eg
  rcases hx with rfl | ⟨p, rfl⟩
  · go_enter Tryd.func84, Tryd.ntmps84
    go_wp2_with ((with_reducible refine hC.mono ?_); rintro e w1 ⟨rfl, hb1⟩; obtain ⟨k1, k2⟩ := bcell hb1)
    ((try simp only [Exit.inBlock, Exit.then]); first | refine bodyPost_end (results_none rfl _ _ _) rfl ?_ | refine bodyPost_ret (results_none rfl _ _ _) rfl ?_)
    exact ⟨rfl, HQ.out w1 hb1⟩
  · go_enter Tryd.func84, Tryd.ntmps84
    go_wp2_with ((with_reducible refine hC.mono ?_); rintro e w1 ⟨rfl, hb1⟩; obtain ⟨k1, k2⟩ := bcell hb1)
    ((try simp only [Exit.inBlock, Exit.then]); first | refine bodyPost_end (results_none rfl _ _ _) rfl ?_ | refine bodyPost_ret (results_none rfl _ _ _) rfl ?_)
    exact ⟨rfl, HQ.out w1 hb1⟩
theorem tryc_raised (g : Nat) (lb : Array Value) (eg : Enters g) (x : Value) (F O R : Nat) (w : World) (hf : Blk w F 56 #[.func (.func g) #[] lb])
    (hC : Calls Tryd.prog g lb w fun e w' => e = .panicked [{ v := raisedV x, recovered := false }] ∧ Below w.heap.size w w') :
    Calls Tryd.prog 84 #[.pointer (some ⟨F, 0, none⟩), .pointer (some ⟨O, 0, none⟩), .pointer (some ⟨R, 0, none⟩)] w fun e w' => e = .panicked [{ v := raisedV x, recovered := false }] ∧ Below w.heap.size w w' := by
  have eg' : ∀ args w, (callFunc g args).run Tryd.prog w = .ok (.enter g args) w := eg
  have c0 := hf.cell 0
  clear hf eg
  go_enter Tryd.func84, Tryd.ntmps84
  go_wp2_with ((with_reducible refine hC.mono ?_); rintro e w1 ⟨rfl, hb1⟩)
  exact ⟨rfl, rfl, hb1⟩
theorem tryc_broke (g : Nat) (lb : Array Value) (eg : Enters g) (F O R : Nat) (w : World) (hf : Blk w F 56 #[.func (.func g) #[] lb])
    (hC : Calls Tryd.prog g lb w fun e w' => Broke e ∧ Below w.heap.size w w') :
    Calls Tryd.prog 84 #[.pointer (some ⟨F, 0, none⟩), .pointer (some ⟨O, 0, none⟩), .pointer (some ⟨R, 0, none⟩)] w fun e w' => Broke e ∧ Below w.heap.size w w' := by
  have eg' : ∀ args w, (callFunc g args).run Tryd.prog w = .ok (.enter g args) w := eg
  have c0 := hf.cell 0
  clear hf eg
  go_enter Tryd.func84, Tryd.ntmps84
  go_wp2_with ((with_reducible refine hC.mono ?_); rintro e w1 ⟨⟨u, y, hu, rfl⟩, hb1⟩)
  exact ⟨rfl, ⟨u, y, hu, rfl⟩, hb1⟩
theorem tryc_ent : Enters 84 := fun args w => enters_of Tryd.func84 (by kernel_rfl) rfl args w

/-- what comes of a function that answers a number and an error, wherever it is called behind w0 -/
def CaseV (g : Nat) (lb : Array Value) (E : Nat → Addr) (w0 : World) (k : Nat) (v : Int) (j : Nat) : Prop :=
  (k = 0 ∧ ∀ w, Below w0.heap.size w0 w → Calls Tryd.prog g lb w fun e w' => e = .returned (.tuple #[.int .i64 v, errN E j]) ∧ Below w.heap.size w w') ∨
  (1 ≤ k ∧ k ≤ 16 ∧ ∀ w, Below w0.heap.size w0 w → Calls Tryd.prog g lb w fun e w' => e = .panicked [{ v := raisedV (errAt E k), recovered := false }] ∧ Below w.heap.size w w') ∨
  (k = 10 ∧ ∀ w, Below w0.heap.size w0 w → Calls Tryd.prog g lb w fun e w' => Broke e ∧ Below w.heap.size w w')
/-- Try's blocks -/
theorem tryc_fate (g : Nat) (lb : Array Value) (eg : Enters g) (E : Nat → Addr) (w0 : World) (k : Nat) (v : Int) (j : Nat) (hC : CaseV g lb E w0 k v j) (F O R : Nat) (w : World) (hb : Below w0.heap.size w0 w) (hf : Blk w F 56 #[.func (.func g) #[] lb]) (ho : Blk w O 3 #[.int .i64 0]) (hr : Blk w R 26 #[.nilIface]) (hne : O ≠ R) :
    Fate 84 #[.pointer (some ⟨F, 0, none⟩), .pointer (some ⟨O, 0, none⟩), .pointer (some ⟨R, 0, none⟩)] w E k (fun w2 => (k = 0 → Blk w2 O 3 #[.int .i64 v] ∧ Blk w2 R 26 #[errN E j]) ∧ Chg (fun b => b = O ∨ b = R) w w2) := by
  rcases hC with ⟨h0, hF⟩ | ⟨h1, h2, hF⟩ | ⟨h0, hF⟩
  · obtain ⟨x, hx, hxx⟩ := errN_cell E j
    rw [hx] at hF ⊢
    exact .inl ⟨h0, (tryc_ok g lb eg v x hxx F O R w hf ho hr (hF w hb) hne).mono fun e w' ⟨a, b, c⟩ => ⟨a, fun _ => b, c⟩⟩
  · exact .inr (.inl ⟨h1, h2, (tryc_raised g lb eg _ F O R w hf (hF w hb)).mono fun e w' ⟨a, b⟩ => ⟨a, fun h => by omega, Chg.of_below b⟩⟩)
  · exact .inr (.inr ⟨h0, (tryc_broke g lb eg F O R w hf (hF w hb)).mono fun e w' ⟨a, b⟩ => ⟨a, fun h => by omega, Chg.of_below b⟩⟩)
set_option maxRecDepth 100000 in
set_option maxHeartbeats 3200000 in
theorem try_any (g : Nat) (lb : Array Value) (eg : Enters g) (E : Nat → Addr) (w0 : World) (k : Nat) (v : Int) (j : Nat) (hC : CaseV g lb E w0 k v j) (he : ErrsAre w0 E) :
    Calls Tryd.prog 40 #[.func (.func g) #[] lb] w0 fun e w' => e = .returned (.tuple #[.int .i64 (if k = 0 ∧ j = 0 then v else 0), errN E (if k = 0 then j else k)]) ∧ Below w0.heap.size w0 w' := by
  have hmf : ∀ (fn : Fn) (first cap : Array Value) (w : World), (Instr.makeFunc fn first cap).run Tryd.prog w = .ok (.func fn first cap) w := fun _ _ _ _ => rfl
  have hnf : ∀ w : World, (binOp .eql 56 (.func (.func g) #[] lb) .nilFunc).run Tryd.prog w = .ok (.bool false) w := fun _ => by kernel_rfl
  obtain ⟨W, hW⟩ : ∃ W, W = ((w0.alloc (.cells #[.func (.func g) #[] lb] 56)).alloc (.cells #[.int .i64 0] 3)).alloc (.cells #[.nilIface] 26) := ⟨_, rfl⟩
  have bF : Blk W w0.heap.size 56 #[.func (.func g) #[] lb] := by rw [hW]; exact ((Blk.new w0 _ _).alloc _).alloc _
  have bO : Blk W (w0.heap.size + 1) 3 #[.int .i64 0] := by rw [hW]; exact (Blk.new_at (by simp)).alloc _
  have bR : Blk W (w0.heap.size + 1 + 1) 26 #[.nilIface] := by rw [hW]; exact Blk.new_at (by simp)
  have hBW : Below w0.heap.size w0 W := by rw [hW]; exact ((((Below.refl _ _).alloc (Nat.le_refl _) _).alloc (by simp) _).alloc (by simp <;> omega) _)
  have zW := hBW.size
  have zR := bR.lt
  have CF := catch_fate 84 #[.pointer (some ⟨w0.heap.size, 0, none⟩), .pointer (some ⟨w0.heap.size + 1, 0, none⟩), .pointer (some ⟨w0.heap.size + 1 + 1, 0, none⟩)] E k _ W tryc_ent
      (tryc_fate g lb eg E w0 k v j hC w0.heap.size (w0.heap.size + 1) (w0.heap.size + 1 + 1) _ (hBW.alloc zW _) (bF.alloc _) (bO.alloc _) (bR.alloc _) (by omega))
      (fun w2 h2 => ⟨(Blk.new W _ _).chg h2.2 (by omega), (he.below ((hBW.alloc zW _).trans (h2.2.below (by simp; omega) (fun k hk e => by omega)))).c10⟩)
  have HCF := Lib.hid (show Calls Tryd.prog 32 #[.func (.func 84) #[] #[.pointer (some ⟨w0.heap.size, 0, none⟩), .pointer (some ⟨w0.heap.size + 1, 0, none⟩), .pointer (some ⟨w0.heap.size + 1 + 1, 0, none⟩)]] W fun e w' => e = .returned (errN E k) ∧ (k = 0 → Blk w' (w0.heap.size + 1) 3 #[.int .i64 v] ∧ Blk w' (w0.heap.size + 1 + 1) 26 #[errN E j]) ∧ Below w0.heap.size w0 w' from
    CF.mono fun e w' ⟨h1, w2, ⟨h2, h3⟩, h4⟩ => ⟨h1, fun h0 => ⟨(h2 h0).1.below h4 (by omega), (h2 h0).2.below h4 (by omega)⟩, (hBW.alloc zW _).trans ((h3.below (by simp; omega) (fun k hk e => by omega)).trans (h4.mono zW))⟩)
  have c0 := (Blk.new w0 56 #[.func (.func g) #[] lb]).cell 0
  clear CF bF bO bR hC he eg hBW zW zR
  replace hW := Lib.hid hW
  by_cases h0 : k = 0
  · subst h0
    by_cases hj : j = 0
    · subst hj
      rw [show (if (0 : Nat) = 0 ∧ (0 : Nat) = 0 then v else 0) = v from rfl]
      go_enter Tryd.func40, Tryd.ntmps40
      go_wp2_with (go_at_call 32; rw [← hW.out]; refine HCF.out.mono ?_; rintro e w3 ⟨rfl, h3, hb3⟩; obtain ⟨o3, r3⟩ := h3 rfl; have d1 := o3.cell 0; have d2 := r3.cell 0; simp only [show errN E 0 = .nilIface from rfl] at d2 ⊢)
      go_ret2
      exact ⟨rfl, hb3⟩
    · have e1 := Lib.hid (show errN E j = .iface 150 (.pointer (some (E j))) by unfold errN; rw [if_neg hj]; rfl)
      rw [show (if (0 : Nat) = 0 ∧ j = 0 then v else 0) = 0 from if_neg (fun h => hj h.2), show (if (0 : Nat) = 0 then j else 0) = j from rfl, e1.out] 
      rw [e1.out] at HCF
      clear hj
      go_enter Tryd.func40, Tryd.ntmps40
      go_wp2_with (go_at_call 32; rw [← hW.out]; refine HCF.out.mono ?_; rintro e w3 ⟨rfl, h3, hb3⟩; obtain ⟨o3, r3⟩ := h3 rfl; have d1 := o3.cell 0; have d2 := r3.cell 0; simp only [show errN E 0 = .nilIface from rfl])
      refine wp_region_seq (fun _ => False) #[⟨0, 0, 1048576, 32, 0⟩, ⟨0, 0, 2097152, 64, 1⟩, ⟨1, 1, 4, 1048576, 0⟩, ⟨7, 7, 8, 2097152, 0⟩] 2 [(0, 0), (1, 1), (2, 0), (3, 0)] (by kernel_rfl) (by kernel_rfl) (by kernel_rfl) (by kernel_rfl) (by kernel_rfl) (by kernel_rfl) (fun c a d v w h => by cases d <;> exact h) ?_
      refine seq_calc (by simp only [List.getElem?_toArray, List.getElem?_cons_succ, List.getElem?_cons_zero]; rfl) (by rfl) (fun u => by go_simp <;> with_reducible rfl) ?_
      try simp only [Act.put, List.setIfInBounds_toArray, List.set_cons_zero, List.set_cons_succ]
      refine seq_load1 (by simp only [List.getElem?_toArray, List.getElem?_cons_succ, List.getElem?_cons_zero]; rfl) (by rfl) rfl rfl Tryd.underlying26 rfl (by go_simp <;> with_reducible rfl) (by first | exact id | assumption | (simp; done) | (simp; omega)) ?_
      try simp only [Act.put, List.setIfInBounds_toArray, List.set_cons_zero, List.set_cons_succ]
      refine seq_calc (by simp only [List.getElem?_toArray, List.getElem?_cons_succ, List.getElem?_cons_zero]; rfl) (by rfl) (fun u => by go_simp <;> with_reducible rfl) ?_
      try simp only [Act.put, List.setIfInBounds_toArray, List.set_cons_zero, List.set_cons_succ]
      refine seq_calc (by simp only [List.getElem?_toArray, List.getElem?_cons_succ, List.getElem?_cons_zero]; rfl) (by rfl) (fun u => by go_simp <;> with_reducible rfl) ?_
      try simp only [Act.put, List.setIfInBounds_toArray, List.set_cons_zero, List.set_cons_succ]
      refine seq_nil ?_
      go_wp2
      go_ret2
      exact ⟨rfl, hb3.drew⟩
  · have e1 := Lib.hid (show errN E k = .iface 150 (.pointer (some (E k))) by unfold errN; rw [if_neg h0]; rfl)
    rw [show (if k = 0 ∧ j = 0 then v else 0) = 0 from if_neg (fun h => h0 h.1), show (if k = 0 then j else k) = k from if_neg h0, e1.out]
    rw [e1.out] at HCF
    clear h0
    go_enter Tryd.func40, Tryd.ntmps40
    go_wp2_with (go_at_call 32; rw [← hW.out]; refine HCF.out.mono ?_; rintro e w3 ⟨rfl, -, hb3⟩)
    go_ret2
    exact ⟨rfl, hb3⟩
theorem try_nil (E : Nat → Addr) (w : World) (he : ErrsAre w E) :
    Calls Tryd.prog 40 #[.nilFunc] w fun e w' => e = .returned (.tuple #[.int .i64 0, errAt E 12]) ∧ Below w.heap.size w w' := by
  have hnf : ∀ w : World, (binOp .eql 56 .nilFunc .nilFunc).run Tryd.prog w = .ok (.bool true) w := fun _ => by kernel_rfl
  have c12 := he.c12
  have hg := World.block_lt_of_cell? _ _ c12
  simp only at hg
  have hg1 : 3 < w.heap.size + 1 := by omega
  have hg2 : 3 < w.heap.size + 1 + 1 := by omega
  unfold errAt at *
  clear he
  go_enter Tryd.func40, Tryd.ntmps40
  go_wp2
  refine wp_region_seq (fun _ => False) #[⟨0, 0, 1024, 32, 0⟩, ⟨0, 0, 2048, 0, 1⟩, ⟨1, 1, 4, 1024, 0⟩, ⟨7, 7, 8, 2048, 0⟩] 2 [(0, 0), (1, 1), (2, 0), (3, 0)] (by kernel_rfl) (by kernel_rfl) (by kernel_rfl) (by kernel_rfl) (by kernel_rfl) (by kernel_rfl) (fun c a d v w h => by cases d <;> exact h) ?_
  refine seq_calc (by simp only [List.getElem?_toArray, List.getElem?_cons_succ, List.getElem?_cons_zero]; rfl) (by rfl) (fun u => by go_simp <;> with_reducible rfl) ?_
  try simp only [Act.put, List.setIfInBounds_toArray, List.set_cons_zero, List.set_cons_succ]
  refine seq_load1 (by simp only [List.getElem?_toArray, List.getElem?_cons_succ, List.getElem?_cons_zero]; rfl) (by rfl) rfl rfl Tryd.underlying26 rfl (by go_simp <;> with_reducible rfl) (by first | exact id | assumption | (simp; done) | (simp; omega)) ?_
  try simp only [Act.put, List.setIfInBounds_toArray, List.set_cons_zero, List.set_cons_succ]
  refine seq_calc (by simp only [List.getElem?_toArray, List.getElem?_cons_succ, List.getElem?_cons_zero]; rfl) (by rfl) (fun u => by go_simp <;> with_reducible rfl) ?_
  try simp only [Act.put, List.setIfInBounds_toArray, List.set_cons_zero, List.set_cons_succ]
  refine seq_calc (by simp only [List.getElem?_toArray, List.getElem?_cons_succ, List.getElem?_cons_zero]; rfl) (by rfl) (fun u => by go_simp <;> with_reducible rfl) ?_
  try simp only [Act.put, List.setIfInBounds_toArray, List.set_cons_zero, List.set_cons_succ]
  refine seq_nil ?_
  go_wp2
  go_ret2
  exact ⟨rfl, by first | (go_grown; done) | skip⟩
/-- the number of the error of a number -/
def errK (n : Int) : Nat := if n < 1 ∨ 16 < n then 0 else n.toNat
theorem errK_le (n : Int) : errK n ≤ 16 := by unfold errK; split <;> omega
theorem err_any (n : Int) (E : Nat → Addr) (w : World) (h : ErrsAre w E) : Calls Tryd.prog 42 #[.int .i64 n] w fun e w' => e = .returned (errN E (errK n)) ∧ Below w.heap.size w w' := by
  unfold errK
  by_cases hn : n < 1 ∨ 16 < n
  · rw [if_pos hn]; exact (err_out n hn w).mono fun e w' ⟨a, b⟩ => ⟨a, b ▸ Below.refl _ _⟩
  · obtain ⟨m, rfl⟩ : ∃ m : Nat, n = (m : Int) := ⟨n.toNat, by omega⟩
    rw [if_neg hn]
    exact (err_in m (by omega) (by omega) E w h).mono fun e w' ⟨a, b⟩ => ⟨by rw [a]; unfold errN; rw [if_neg (by omega)]; simp, b⟩
theorem must_ok (v : Int) (w : World) : Calls Tryd.prog 44 #[.int .i64 v, .nilIface] w fun e w' => e = .returned (.int .i64 v) ∧ w = w' := by
  go_enter Tryd.func44, Tryd.ntmps44
  go_wp2_with (go_at_call 80; refine (raise_nil _).mono ?_; rintro e w' ⟨rfl, rfl⟩)
  go_ret
  exact ⟨rfl, rfl⟩
theorem must_err (v : Value) (E : Nat → Addr) (k : Nat) (w : World) : Calls Tryd.prog 44 #[v, errAt E k] w fun e w' => e = .panicked [{ v := raisedV (errAt E k), recovered := false }] ∧ w = w' := by
  have hr := raise_err E k
  go_enter Tryd.func44, Tryd.ntmps44
  go_wp2_with (go_at_call 80; refine (hr _).mono ?_; rintro e w' ⟨rfl, rfl⟩)
  exact ⟨rfl, rfl, rfl⟩
theorem tries1_case (A C V : Nat) (k : Nat) (hk : k < 11) (n v : Int) (E : Nat → Addr) (w0 : World) (ha : Blk w0 A 3 #[.int .i64 (k : Int)]) (hc : Blk w0 C 3 #[.int .i64 n]) (hv : Blk w0 V 3 #[.int .i64 v]) (he : ErrsAre w0 E) :
    CaseV 41 #[.pointer (some ⟨A, 0, none⟩), .pointer (some ⟨C, 0, none⟩), .pointer (some ⟨V, 0, none⟩)] E w0 (ofK k n) v (errK n) := by
  have key : ∀ w, Below w0.heap.size w0 w → w.cell? ⟨A, 0, none⟩ = some (.int .i64 (k : Int)) ∧ w.cell? ⟨C, 0, none⟩ = some (.int .i64 n) ∧ w.cell? ⟨V, 0, none⟩ = some (.int .i64 v) ∧ ErrsAre (w.alloc (.cells #[.int .i64 1] 3)) E ∧ A < w.heap.size ∧ C < w.heap.size ∧ V < w.heap.size := fun w hb =>
    ⟨(ha.below hb ha.lt).cell 0, (hc.below hb hc.lt).cell 0, (hv.below hb hv.lt).cell 0, he.below (hb.alloc hb.size _), (ha.below hb ha.lt).lt, (hc.below hb hc.lt).lt, (hv.below hb hv.lt).lt⟩
  have KEY := Lib.hid key
  have HE := Lib.hid he
  have hE := Lib.hid (fun (w : World) h => err_any n E w h)
  generalize errK n = j at *
  clear ha hc hv he key
  rcases act_cases k hk n E with ⟨h0, hF⟩ | ⟨h1, h2, hF⟩ | ⟨h0, hF⟩
  · refine .inl ⟨h0, fun w hb => ?_⟩
    replace h0 := Lib.hid h0
    obtain ⟨c0, c1, c2, he1, z0, z1, z2⟩ := KEY.out w hb
    have HB := Lib.hid hb
    have HF := Lib.hid (hF w.heap.size _ ((Blk.new w _ _).cell 0) he1)
    clear hF he1 hb
    go_enter Tryd.func41, Tryd.ntmps41
    go_wp2_with (go_at_call 34; refine HF.out.mono ?_; rintro e w2 ⟨rfl, hb2⟩; have hB1 : Below w.heap.size w w2 := (by first | exact hB1.trans (hb2.mono hB1.size) | exact hB1.trans (Below.undrew (hb2.mono hB1.size)) | exact hb2 | exact Below.trans (by go_grown) (hb2.mono (by simp <;> omega))); have hcA := fun (o : Nat) => hb2.cell (p := ⟨A, o, none⟩) (by first | assumption | (simp <;> omega)); have hfA := fun (o : Nat) => hb2.frozen (p := ⟨A, o, none⟩) (by first | assumption | (simp <;> omega)); have hzA : A < w2.heap.size := Nat.lt_of_lt_of_le (by first | assumption | (simp <;> omega)) hb2.size; have hcC := fun (o : Nat) => hb2.cell (p := ⟨C, o, none⟩) (by first | assumption | (simp <;> omega)); have hfC := fun (o : Nat) => hb2.frozen (p := ⟨C, o, none⟩) (by first | assumption | (simp <;> omega)); have hzC : C < w2.heap.size := Nat.lt_of_lt_of_le (by first | assumption | (simp <;> omega)) hb2.size; have hcV := fun (o : Nat) => hb2.cell (p := ⟨V, o, none⟩) (by first | assumption | (simp <;> omega)); have hfV := fun (o : Nat) => hb2.frozen (p := ⟨V, o, none⟩) (by first | assumption | (simp <;> omega)); have hzV : V < w2.heap.size := Nat.lt_of_lt_of_le (by first | assumption | (simp <;> omega)) hb2.size)
    have hB2 := Lib.hid hB1
    refine wp_region_seq (fun _ => False) #[⟨0, 0, 512, 4, 1⟩, ⟨0, 0, 1024, 2, 1⟩, ⟨2, 2, 2048, 1024, 2⟩, ⟨5, 7, 8, 512, 0⟩, ⟨15, 15, 16, 2048, 0⟩] 3 [(0, 1), (1, 1), (2, 2), (3, 0), (4, 0)] (by kernel_rfl) (by kernel_rfl) (by kernel_rfl) (by kernel_rfl) (by kernel_rfl) (by kernel_rfl) (fun c a d v w h => by cases d <;> exact h) ?_
    refine seq_load1 (by simp only [List.getElem?_toArray, List.getElem?_cons_succ, List.getElem?_cons_zero]; rfl) (by rfl) rfl rfl Tryd.underlying3 rfl (by go_simp <;> with_reducible rfl) (by first | exact id | assumption | (simp; done) | (simp; omega)) ?_
    try simp only [Act.put, List.setIfInBounds_toArray, List.set_cons_zero, List.set_cons_succ]
    refine seq_load1 (by simp only [List.getElem?_toArray, List.getElem?_cons_succ, List.getElem?_cons_zero]; rfl) (by rfl) rfl rfl Tryd.underlying3 rfl (by go_simp <;> with_reducible rfl) (by first | exact id | assumption | (simp; done) | (simp; omega)) ?_
    try simp only [Act.put, List.setIfInBounds_toArray, List.set_cons_zero, List.set_cons_succ]
    refine seq_do (by simp only [List.getElem?_toArray, List.getElem?_cons_succ, List.getElem?_cons_zero]; rfl) (by rfl) (fun K hK => ?_); go_wp2_with (go_at_call 42; refine (hE.out _ (HE.out.below (HB.out.trans (hB2.out.drew.mono HB.out.size)))).mono ?_; rintro e w3 ⟨rfl, hb3⟩); refine hK.out _ _ (by first | (with_reducible exact Chg.refl _ _) | (with_reducible assumption) | (refine Chg.of_below ?_; with_reducible assumption) | (with_reducible exact (Chg.refl _ _).alloc _) | (with_reducible exact (Chg.refl _ _).drewN _) | (with_reducible exact (Chg.refl _ _).drew) | exact ⟨rfl, rfl, rfl, Nat.le_refl _, fun _ _ _ => rfl⟩) ?_; clear hK K
    try simp only [Act.put, List.setIfInBounds_toArray, List.set_cons_zero, List.set_cons_succ]
    refine seq_calc (by simp only [List.getElem?_toArray, List.getElem?_cons_succ, List.getElem?_cons_zero]; rfl) (by rfl) (fun u => by go_simp <;> with_reducible rfl) ?_
    try simp only [Act.put, List.setIfInBounds_toArray, List.set_cons_zero, List.set_cons_succ]
    refine seq_calc (by simp only [List.getElem?_toArray, List.getElem?_cons_succ, List.getElem?_cons_zero]; rfl) (by rfl) (fun u => by go_simp <;> with_reducible rfl) ?_
    try simp only [Act.put, List.setIfInBounds_toArray, List.set_cons_zero, List.set_cons_succ]
    refine seq_nil ?_
    go_wp2
    go_ret2
    exact ⟨rfl, hB2.out.drew.trans (hb3.mono hB2.out.size)⟩
  · refine .inr (.inl ⟨h1, h2, fun w hb => ?_⟩)
    obtain ⟨c0, c1, c2, he1, z0, z1, z2⟩ := KEY.out w hb
    have HF := Lib.hid (hF w.heap.size _ ((Blk.new w _ _).cell 0) he1)
    clear hF he1 hb
    go_enter Tryd.func41, Tryd.ntmps41
    go_wp2_with (go_at_call 34; refine HF.out.mono ?_; rintro e w2 ⟨rfl, hb2⟩)
    exact ⟨rfl, rfl, Below.trans (by go_grown) (hb2.mono (by simp))⟩
  · refine .inr (.inr ⟨h0, fun w hb => ?_⟩)
    replace h0 := Lib.hid h0
    obtain ⟨c0, c1, c2, he1, z0, z1, z2⟩ := KEY.out w hb
    have HF := Lib.hid (hF w.heap.size _ ((Blk.new w _ _).cell 0) he1)
    clear hF he1 hb
    go_enter Tryd.func41, Tryd.ntmps41
    go_wp2_with (go_at_call 34; refine HF.out.mono ?_; rintro e w2 ⟨⟨u, y, hu, rfl⟩, hb2⟩)
    exact ⟨rfl, ⟨u, y, hu, rfl⟩, Below.trans (by go_grown) (hb2.mono (by simp))⟩
theorem tries2_case (C V : Nat) (n v : Int) (E : Nat → Addr) (w0 : World) (hc : Blk w0 C 3 #[.int .i64 n]) (hv : Blk w0 V 3 #[.int .i64 v]) (he : ErrsAre w0 E) :
    CaseV 43 #[.pointer (some ⟨V, 0, none⟩), .pointer (some ⟨C, 0, none⟩)] E w0 (errK n) v 0 := by
  have key : ∀ w, Below w0.heap.size w0 w → w.cell? ⟨C, 0, none⟩ = some (.int .i64 n) ∧ w.cell? ⟨V, 0, none⟩ = some (.int .i64 v) ∧ ErrsAre w.drew E := fun w hb =>
    ⟨(hc.below hb hc.lt).cell 0, (hv.below hb hv.lt).cell 0, he.below hb.drew⟩
  have KEY := Lib.hid key
  have hE := Lib.hid (fun (w : World) h => err_any n E w h)
  have hl := errK_le n
  generalize errK n = j at *
  clear hc hv he key
  by_cases h0 : j = 0
  · subst h0
    refine .inl ⟨rfl, fun w hb => ?_⟩
    obtain ⟨c0, c1, he1⟩ := KEY.out w hb
    have HE1 := Lib.hid (hE.out _ he1)
    rw [show errN E 0 = .nilIface from rfl] at HE1 ⊢
    clear he1 hb
    go_enter Tryd.func43, Tryd.ntmps43
    go_wp2
    refine wp_region_seq (fun _ => False) #[⟨0, 0, 16, 1, 1⟩, ⟨0, 0, 32, 2, 1⟩, ⟨2, 2, 64, 32, 2⟩, ⟨5, 7, 128, 80, 3⟩, ⟨15, 15, 4, 128, 0⟩, ⟨31, 31, 8, 0, 0⟩] 3 [(0, 1), (1, 1), (2, 2), (3, 3), (4, 0), (5, 0)] (by kernel_rfl) (by kernel_rfl) (by kernel_rfl) (by kernel_rfl) (by kernel_rfl) (by kernel_rfl) (fun c a d v w h => by cases d <;> exact h) ?_
    refine seq_load1 (by simp only [List.getElem?_toArray, List.getElem?_cons_succ, List.getElem?_cons_zero]; rfl) (by rfl) rfl rfl Tryd.underlying3 rfl (by go_simp <;> with_reducible rfl) (by first | exact id | assumption | (simp; done) | (simp; omega)) ?_
    try simp only [Act.put, List.setIfInBounds_toArray, List.set_cons_zero, List.set_cons_succ]
    refine seq_load1 (by simp only [List.getElem?_toArray, List.getElem?_cons_succ, List.getElem?_cons_zero]; rfl) (by rfl) rfl rfl Tryd.underlying3 rfl (by go_simp <;> with_reducible rfl) (by first | exact id | assumption | (simp; done) | (simp; omega)) ?_
    try simp only [Act.put, List.setIfInBounds_toArray, List.set_cons_zero, List.set_cons_succ]
    refine seq_do (by simp only [List.getElem?_toArray, List.getElem?_cons_succ, List.getElem?_cons_zero]; rfl) (by rfl) (fun K hK => ?_); go_wp2_with (first | (go_at_call 42; refine HE1.out.mono ?_; rintro e w3 ⟨rfl, hb3⟩) | (go_at_call 44; refine (must_ok _ _).mono ?_; rintro e w' ⟨rfl, rfl⟩)); refine hK.out _ _ (by first | (with_reducible exact Chg.refl _ _) | (with_reducible assumption) | (refine Chg.of_below ?_; with_reducible assumption) | (with_reducible exact (Chg.refl _ _).alloc _) | (with_reducible exact (Chg.refl _ _).drewN _) | (with_reducible exact (Chg.refl _ _).drew) | exact ⟨rfl, rfl, rfl, Nat.le_refl _, fun _ _ _ => rfl⟩) ?_; clear hK K
    try simp only [Act.put, List.setIfInBounds_toArray, List.set_cons_zero, List.set_cons_succ]
    refine seq_last (by simp only [List.getElem?_toArray, List.getElem?_cons_succ, List.getElem?_cons_zero]; rfl) (by rfl) (fun K hK => ?_); go_wp2_with (first | (go_at_call 42; refine HE1.out.mono ?_; rintro e w3 ⟨rfl, hb3⟩) | (go_at_call 44; refine (must_ok _ _).mono ?_; rintro e w' ⟨rfl, rfl⟩)); refine hK.out _ _ ?_; clear hK K
    try simp only [Act.put, List.setIfInBounds_toArray, List.set_cons_zero, List.set_cons_succ]
    refine seq_calc (by simp only [List.getElem?_toArray, List.getElem?_cons_succ, List.getElem?_cons_zero]; rfl) (by rfl) (fun u => by go_simp <;> with_reducible rfl) ?_
    try simp only [Act.put, List.setIfInBounds_toArray, List.set_cons_zero, List.set_cons_succ]
    refine seq_calc (by simp only [List.getElem?_toArray, List.getElem?_cons_succ, List.getElem?_cons_zero]; rfl) (by rfl) (fun u => by go_simp <;> with_reducible rfl) ?_
    try simp only [Act.put, List.setIfInBounds_toArray, List.set_cons_zero, List.set_cons_succ]
    refine seq_nil ?_
    go_wp2
    go_ret2
    exact ⟨rfl, Below.undrew hb3⟩
  · refine .inr (.inl ⟨by omega, hl, fun w hb => ?_⟩)
    obtain ⟨c0, c1, he1⟩ := KEY.out w hb
    have HE1 := Lib.hid (hE.out _ he1)
    rw [show errN E j = errAt E j by unfold errN; rw [if_neg h0]] at HE1
    clear he1 hb h0
    go_enter Tryd.func43, Tryd.ntmps43
    go_wp2
    refine wp_region_seq (fun _ => False) #[⟨0, 0, 16, 1, 1⟩, ⟨0, 0, 32, 2, 1⟩, ⟨2, 2, 64, 32, 2⟩, ⟨5, 7, 128, 80, 3⟩, ⟨15, 15, 4, 128, 0⟩, ⟨31, 31, 8, 0, 0⟩] 3 [(0, 1), (1, 1), (2, 2), (3, 3), (4, 0), (5, 0)] (by kernel_rfl) (by kernel_rfl) (by kernel_rfl) (by kernel_rfl) (by kernel_rfl) (by kernel_rfl) (fun c a d v w h => by cases d <;> exact h) ?_
    refine seq_load1 (by simp only [List.getElem?_toArray, List.getElem?_cons_succ, List.getElem?_cons_zero]; rfl) (by rfl) rfl rfl Tryd.underlying3 rfl (by go_simp <;> with_reducible rfl) (by first | exact id | assumption | (simp; done) | (simp; omega)) ?_
    try simp only [Act.put, List.setIfInBounds_toArray, List.set_cons_zero, List.set_cons_succ]
    refine seq_load1 (by simp only [List.getElem?_toArray, List.getElem?_cons_succ, List.getElem?_cons_zero]; rfl) (by rfl) rfl rfl Tryd.underlying3 rfl (by go_simp <;> with_reducible rfl) (by first | exact id | assumption | (simp; done) | (simp; omega)) ?_
    try simp only [Act.put, List.setIfInBounds_toArray, List.set_cons_zero, List.set_cons_succ]
    refine seq_do (by simp only [List.getElem?_toArray, List.getElem?_cons_succ, List.getElem?_cons_zero]; rfl) (by rfl) (fun K hK => ?_); go_wp2_with (first | (go_at_call 42; refine HE1.out.mono ?_; rintro e w3 ⟨rfl, hb3⟩) | (go_at_call 44; refine (must_err _ E j _).mono ?_; rintro e w' ⟨rfl, rfl⟩)); refine hK.out _ _ (by first | (with_reducible exact Chg.refl _ _) | (with_reducible assumption) | (refine Chg.of_below ?_; with_reducible assumption) | (with_reducible exact (Chg.refl _ _).alloc _) | (with_reducible exact (Chg.refl _ _).drewN _) | (with_reducible exact (Chg.refl _ _).drew) | exact ⟨rfl, rfl, rfl, Nat.le_refl _, fun _ _ _ => rfl⟩) ?_; clear hK K
    try simp only [Act.put, List.setIfInBounds_toArray, List.set_cons_zero, List.set_cons_succ]
    refine seq_last (by simp only [List.getElem?_toArray, List.getElem?_cons_succ, List.getElem?_cons_zero]; rfl) (by rfl) (fun K hK => ?_); clear hK; go_wp2_with (first | (go_at_call 42; refine HE1.out.mono ?_; rintro e w3 ⟨rfl, hb3⟩) | (go_at_call 44; refine (must_err _ E j _).mono ?_; rintro e w' ⟨rfl, rfl⟩))
    exact ⟨rfl, rfl, Below.undrew hb3⟩
end Go.Proofs.YtaegjdkmnkjggaaDoor
