/- Package trap: Catch, whatever the function that it calls does; Raise, Need. Condition: the errors' cells. -/
import Derived.Test.YtplimhllfbdocaaDoorErrCells
import Derived.Test.YtplimhllfbdocaaDoorChg
import Derived.Test.YtplimhllfbdocaaDoorMem
import Derived.Defers
import Derived.Recover
import Derived.WalkLawsBesides
namespace Go.Proofs.YtplimhllfbdocaaDoor
set_option linter.unusedVariables false
set_option linter.unusedSimpArgs false
open Go.RowKit Go.Proofs

/-- what Raise panics with -/
def raisedV (v : Value) : Value := .iface 215 (.agg #[v])
theorem assert_raised (x : Value) (w : World) : (Instr.typeAssert (.iface 215 x) 20 215 true).run Tryd.prog w = .ok (.tuple #[x, .bool true]) w := by kernel_rfl
theorem assert_other (u : TypeId) (x : Value) (hu : u ≠ 215) (w : World) : (Instr.typeAssert (.iface u x) 20 215 true).run Tryd.prog w = .ok (.tuple #[.agg #[.nilIface], .bool false]) w := by
  have hz : (zeroValue 215).run Tryd.prog w = .ok (.agg #[.nilIface]) w := by kernel_rfl
  unfold Instr.typeAssert
  rw [Sem.run_bind, run_underlying Tryd.underlying215 w]
  simp [Result.andThen, hu, Sem.run_bind, hz]

theorem raise_nil (w : World) : Calls Tryd.prog 154 #[.nilIface] w fun e w' => e = .returned (.tuple #[]) ∧ w = w' := by
  go_enter Tryd.func154, Tryd.ntmps154
  go_wp2
  go_end0
  exact ⟨rfl, rfl⟩
set_option maxRecDepth 100000 in
theorem raise_err (E : Nat → Addr) (k : Nat) (w : World) : Calls Tryd.prog 154 #[errAt E k] w fun e w' => e = .panicked [{ v := raisedV (errAt E k), recovered := false }] ∧ w = w' := by
  unfold errAt raisedV
  go_enter Tryd.func154, Tryd.ntmps154
  go_wp2
  exact ⟨rfl, rfl, rfl⟩
theorem need_yes (w : World) : Calls Tryd.prog 160 #[.bool true] w fun e w' => e = .returned (.tuple #[]) ∧ w = w' := by
  go_enter Tryd.func160, Tryd.ntmps160
  go_wp2
  go_end0
  exact ⟨rfl, rfl⟩

theorem catch1_idle (p : Addr) (w : World) :
    CallsD Tryd.prog 156 #[.pointer (some p)] .returning w fun e u' w' => e = .returned (.tuple #[]) ∧ u' = .returning ∧ w' = w := by
  refine callsD_of_wpS Tryd.func156 rfl fun c₀ cs hu => ?_
  apply wpS_seq
  apply wpS_region
  simp [wpOpsS, go_sem, recoverD, hu, Tryd.ntmps156, Exit.thenS]
  simp only [show (Array.replicate 11 undef) = #[undef, undef, undef, undef, undef, undef, undef, undef, undef, undef, undef] from rfl, List.append_toArray, List.nil_append, List.cons_append, List.setIfInBounds_toArray, List.set_cons_succ, List.set_cons_zero]
  refine wpS_of_wp ?_
  go_wp2
  cases c₀
  simp_all [bodyPostS, results, Tryd.results156]
set_option maxHeartbeats 800000 in
theorem catch1_raised (B : Nat) (t : TypeId) (y x : Value) (w : World) (hc : w.cell? ⟨B, 0, none⟩ = some x) (hz : w.frozen? ⟨B, 0, none⟩ = false) (hp : B < w.heap.size) :
    CallsD Tryd.prog 156 #[.pointer (some ⟨B, 0, none⟩)] (.panicking [{ v := raisedV (.iface t y), recovered := false }]) w fun e u' w' =>
      e = .returned (.tuple #[]) ∧ u' = .panicking [{ v := raisedV (.iface t y), recovered := true }] ∧ w' = (w.setCell ⟨B, 0, none⟩ (.iface t y)).alloc (.cells #[.iface t y] 215) := by
  unfold raisedV
  have ha := assert_raised
  refine callsD_of_wpS Tryd.func156 rfl fun c₀ cs hu => ?_
  apply wpS_seq
  apply wpS_region
  simp [wpOpsS, go_sem, recoverD, hu, Tryd.ntmps156, Exit.thenS]
  simp only [show (Array.replicate 11 undef) = #[undef, undef, undef, undef, undef, undef, undef, undef, undef, undef, undef] from rfl, List.append_toArray, List.nil_append, List.cons_append, List.setIfInBounds_toArray, List.set_cons_succ, List.set_cons_zero]
  refine wpS_of_wp ?_
  go_wp2
  cases c₀
  simp_all [bodyPostS, results, Tryd.results156]
set_option maxHeartbeats 800000 in
theorem catch1_other (B : Nat) (u : TypeId) (hu' : u ≠ 215) (y x : Value) (E : Nat → Addr) (w : World) (hc : w.cell? ⟨B, 0, none⟩ = some x) (hz : w.frozen? ⟨B, 0, none⟩ = false) (hp : B < w.heap.size) (he : w.cell? ⟨13, 0, none⟩ = some (errAt E 10)) :
    CallsD Tryd.prog 156 #[.pointer (some ⟨B, 0, none⟩)] (.panicking [{ v := .iface u y, recovered := false }]) w fun e u' w' =>
      e = .returned (.tuple #[]) ∧ u' = .panicking [{ v := .iface u y, recovered := true }] ∧ w' = w.setCell ⟨B, 0, none⟩ (errAt E 10) := by
  unfold errAt at *
  have ha := fun w => assert_other u y hu' w
  refine callsD_of_wpS Tryd.func156 rfl fun c₀ cs hu => ?_
  apply wpS_seq
  apply wpS_region
  simp [wpOpsS, go_sem, recoverD, hu, Tryd.ntmps156, Exit.thenS]
  simp only [show (Array.replicate 11 undef) = #[undef, undef, undef, undef, undef, undef, undef, undef, undef, undef, undef] from rfl, List.append_toArray, List.nil_append, List.cons_append, List.setIfInBounds_toArray, List.set_cons_succ, List.set_cons_zero]
  refine wpS_of_wp ?_
  go_wp2
  cases c₀
  simp_all [bodyPostS, results, Tryd.results156]

/-- it panics with something that is no raised error -/
def Broke (e : Ending) : Prop := ∃ u y, u ≠ 215 ∧ e = .panicked [{ v := .iface u y, recovered := false }]
/-- what Catch is asked: the function that it calls -/
def Enters (g : Nat) : Prop := ∀ args w, (callFunc g args).run Tryd.prog w = .ok (.enter g args) w
set_option maxRecDepth 100000 in
/-- Catch of a function that comes back -/
theorem catch_ok (g : Nat) (lb : Array Value) (Q : World → Prop) (w : World) (eg : Enters g)
    (hF : Calls Tryd.prog g lb (w.alloc (.cells #[.nilIface] 25)) fun e w2 => e = .returned (.tuple #[]) ∧ Q w2) (hQ : ∀ w2, Q w2 → Blk w2 w.heap.size 25 #[.nilIface]) :
    Calls Tryd.prog 114 #[.func (.func g) #[] lb] w fun e w' => e = .returned .nilIface ∧ ∃ w2, Q w2 ∧ w2.setCell ⟨w.heap.size, 0, none⟩ .nilIface = w' := by
  have eg' : ∀ args w, (callFunc g args).run Tryd.prog w = .ok (.enter g args) w := eg
  have hmf : ∀ (fn : Fn) (first cap : Array Value) (w : World), (Instr.makeFunc fn first cap).run Tryd.prog w = .ok (.func fn first cap) w := fun _ _ _ _ => rfl
  have hnf : ∀ w : World, (binOp .eql 1 (.func (.func g) #[] lb) .nilFunc).run Tryd.prog w = .ok (.bool false) w := fun _ => by kernel_rfl
  clear eg
  go_enter_defers Tryd.func114, Tryd.ntmps114
  go_wp2_with ((with_reducible refine hF.mono ?_); rintro e w2 ⟨rfl, hq⟩; have hb := hQ _ hq; have c0 := hb.cell 0; have f0 := hb.frozen 0)
  have hc := (hb.set 0 .nilIface).cell 0
  refine leaves_cons (f := 156) (args := #[.pointer (some ⟨w.heap.size, 0, none⟩)]) (by simp) (by simp [go_sem]) ?_
  refine (catch1_idle ⟨w.heap.size, 0, none⟩ _).mono ?_
  rintro e u' w'' ⟨rfl, rfl, rfl⟩
  have hr := results_cell1 (P := Tryd.prog) (fn := Tryd.f114) (p := 2) (ty := 25) (tmps := #[.func (.func g) #[] lb, undef, .pointer (some ⟨w.heap.size, 0, none⟩), .func (.func g) #[] lb, .bool false, undef, .func (.func 156) #[] #[.pointer (some ⟨w.heap.size, 0, none⟩)], .func (.func g) #[] lb, .tuple #[]]) rfl rfl hc Tryd.isAgg25
  simp [Leaves, settle]
  exact ⟨_, hr, rfl, w2, hq, rfl⟩

set_option maxRecDepth 100000 in
/-- .. of one that raises an error -/
theorem catch_raised (g : Nat) (lb : Array Value) (t : TypeId) (y : Value) (Q : World → Prop) (w : World) (eg : Enters g)
    (hF : Calls Tryd.prog g lb (w.alloc (.cells #[.nilIface] 25)) fun e w2 => e = .panicked [{ v := raisedV (.iface t y), recovered := false }] ∧ Q w2) (hQ : ∀ w2, Q w2 → Blk w2 w.heap.size 25 #[.nilIface]) :
    Calls Tryd.prog 114 #[.func (.func g) #[] lb] w fun e w' => e = .returned (.iface t y) ∧ ∃ w2, Q w2 ∧ (w2.setCell ⟨w.heap.size, 0, none⟩ (.iface t y)).alloc (.cells #[.iface t y] 215) = w' := by
  have eg' : ∀ args w, (callFunc g args).run Tryd.prog w = .ok (.enter g args) w := eg
  have hmf : ∀ (fn : Fn) (first cap : Array Value) (w : World), (Instr.makeFunc fn first cap).run Tryd.prog w = .ok (.func fn first cap) w := fun _ _ _ _ => rfl
  have hnf : ∀ w : World, (binOp .eql 1 (.func (.func g) #[] lb) .nilFunc).run Tryd.prog w = .ok (.bool false) w := fun _ => by kernel_rfl
  clear eg
  go_enter_defers Tryd.func114, Tryd.ntmps114
  go_wp2_with ((with_reducible refine hF.mono ?_); rintro e w2 ⟨rfl, hq⟩; have hb := hQ _ hq; have c0 := hb.cell 0; have f0 := hb.frozen 0)
  have hlt := hb.lt
  have hc := ((hb.set 0 (.iface t y)).alloc (.cells #[.iface t y] 215)).cell 0
  refine leaves_cons (f := 156) (args := #[.pointer (some ⟨w.heap.size, 0, none⟩)]) (by simp) (by simp [go_sem]) ?_
  refine (catch1_raised w.heap.size t y _ _ c0 f0 hlt).mono ?_
  rintro e u' w'' ⟨rfl, rfl, rfl⟩
  have hr := results_cell1 (P := Tryd.prog) (fn := Tryd.f114) (p := 2) (ty := 25) (tmps := #[.func (.func g) #[] lb, undef, .pointer (some ⟨w.heap.size, 0, none⟩), .func (.func g) #[] lb, .bool false, undef, .func (.func 156) #[] #[.pointer (some ⟨w.heap.size, 0, none⟩)], .func (.func g) #[] lb, undef]) rfl rfl hc Tryd.isAgg25
  simp [Leaves, settle]
  exact ⟨_, hr, rfl, w2, hq, rfl⟩
set_option maxRecDepth 100000 in
/-- .. of one that panics in another way -/
theorem catch_broken (g : Nat) (lb : Array Value) (E : Nat → Addr) (Q : World → Prop) (w : World) (eg : Enters g)
    (hF : Calls Tryd.prog g lb (w.alloc (.cells #[.nilIface] 25)) fun e w2 => Broke e ∧ Q w2) (hQ : ∀ w2, Q w2 → Blk w2 w.heap.size 25 #[.nilIface] ∧ w2.cell? ⟨13, 0, none⟩ = some (errAt E 10)) :
    Calls Tryd.prog 114 #[.func (.func g) #[] lb] w fun e w' => e = .returned (errAt E 10) ∧ ∃ w2, Q w2 ∧ w2.setCell ⟨w.heap.size, 0, none⟩ (errAt E 10) = w' := by
  have eg' : ∀ args w, (callFunc g args).run Tryd.prog w = .ok (.enter g args) w := eg
  have hmf : ∀ (fn : Fn) (first cap : Array Value) (w : World), (Instr.makeFunc fn first cap).run Tryd.prog w = .ok (.func fn first cap) w := fun _ _ _ _ => rfl
  have hnf : ∀ w : World, (binOp .eql 1 (.func (.func g) #[] lb) .nilFunc).run Tryd.prog w = .ok (.bool false) w := fun _ => by kernel_rfl
  clear eg
  go_enter_defers Tryd.func114, Tryd.ntmps114
  go_wp2_with ((with_reducible refine hF.mono ?_); rintro e w2 ⟨⟨u, y, hu, rfl⟩, hq⟩; obtain ⟨hb, he⟩ := hQ _ hq; have c0 := hb.cell 0; have f0 := hb.frozen 0)
  have hlt := hb.lt
  have hc := (hb.set 0 (errAt E 10)).cell 0
  refine leaves_cons (f := 156) (args := #[.pointer (some ⟨w.heap.size, 0, none⟩)]) (by simp) (by simp [go_sem]) ?_
  refine (catch1_other w.heap.size u hu y _ E _ c0 f0 hlt he).mono ?_
  rintro e u' w'' ⟨rfl, rfl, rfl⟩
  have hr := results_cell1 (P := Tryd.prog) (fn := Tryd.f114) (p := 2) (ty := 25) (tmps := #[.func (.func g) #[] lb, undef, .pointer (some ⟨w.heap.size, 0, none⟩), .func (.func g) #[] lb, .bool false, undef, .func (.func 156) #[] #[.pointer (some ⟨w.heap.size, 0, none⟩)], .func (.func g) #[] lb, undef]) rfl rfl hc Tryd.isAgg25
  simp [Leaves, settle]
  exact ⟨_, hr, rfl, w2, hq, rfl⟩
theorem catch_nil (E : Nat → Addr) (w : World) (he : w.cell? ⟨15, 0, none⟩ = some (errAt E 12)) :
    Calls Tryd.prog 114 #[.nilFunc] w fun e w' => e = .returned (errAt E 12) ∧ Below w.heap.size w w' := by
  unfold errAt at *
  have hnf : ∀ w : World, (binOp .eql 1 .nilFunc .nilFunc).run Tryd.prog w = .ok (.bool true) w := fun _ => by kernel_rfl
  have hg := World.block_lt_of_cell? _ _ he
  go_enter_defers Tryd.func114, Tryd.ntmps114
  go_wp2
  have hc := (Blk.new w 25 #[.iface 243 (.pointer (some (E 12)))]).cell 0
  have hr := results_cell1 (P := Tryd.prog) (fn := Tryd.f114) (p := 2) (ty := 25) (tmps := #[.nilFunc, undef, .pointer (some ⟨w.heap.size, 0, none⟩), .nilFunc, .bool true, .iface 243 (.pointer (some (E 12))), undef, undef, undef]) rfl rfl hc Tryd.isAgg25
  simp [bodyPostD, Leaves, settle]
  exact ⟨_, hr, rfl, (Below.refl _ _).alloc (Nat.le_refl _) _⟩
end Go.Proofs.YtplimhllfbdocaaDoor
