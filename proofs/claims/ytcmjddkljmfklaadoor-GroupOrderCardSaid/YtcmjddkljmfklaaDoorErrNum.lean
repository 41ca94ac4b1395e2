/- amblernum.Num. Condition: the sixteen errors' cells, all apart. -/
import Derived.Test.YtcmjddkljmfklaaDoorErrs
import Derived.Handy
import Derived.Lib.Hide
import Derived.WalkSmall
namespace Go.Proofs.YtcmjddkljmfklaaDoor
set_option linter.unusedVariables false
set_option linter.unusedSimpArgs false
open Go.RowKit Go.Proofs

/-- the value of error number n -/
def errAt (E : Nat → Addr) (n : Nat) : Value := .iface 187 (.pointer (some (E n)))

structure ErrsAre (w : World) (E : Nat → Addr) : Prop where
  c1 : w.cell? ⟨0, 0, none⟩ = some (errAt E 1)
  c2 : w.cell? ⟨1, 0, none⟩ = some (errAt E 2)
  c3 : w.cell? ⟨2, 0, none⟩ = some (errAt E 3)
  c4 : w.cell? ⟨3, 0, none⟩ = some (errAt E 4)
  c5 : w.cell? ⟨4, 0, none⟩ = some (errAt E 5)
  c6 : w.cell? ⟨5, 0, none⟩ = some (errAt E 6)
  c7 : w.cell? ⟨6, 0, none⟩ = some (errAt E 7)
  c8 : w.cell? ⟨7, 0, none⟩ = some (errAt E 8)
  c9 : w.cell? ⟨8, 0, none⟩ = some (errAt E 9)
  c10 : w.cell? ⟨9, 0, none⟩ = some (errAt E 10)
  c11 : w.cell? ⟨10, 0, none⟩ = some (errAt E 11)
  c12 : w.cell? ⟨11, 0, none⟩ = some (errAt E 12)
  c13 : w.cell? ⟨12, 0, none⟩ = some (errAt E 13)
  c14 : w.cell? ⟨13, 0, none⟩ = some (errAt E 14)
  c15 : w.cell? ⟨14, 0, none⟩ = some (errAt E 15)
  c16 : w.cell? ⟨15, 0, none⟩ = some (errAt E 16)
  blk : ∀ n, 1 ≤ n → n ≤ 16 → ∃ c t, w.heap[(E n).block]? = some (.cells c t (0, 0))
  apart : ∀ m n, 1 ≤ m → m ≤ 16 → 1 ≤ n → n ≤ 16 → E m = E n → m = n

theorem ErrsAre.below {w w' : World} {E : Nat → Addr} (h : ErrsAre w E) (hb : Below w.heap.size w w') : ErrsAre w' E := by
  have k : ∀ {a : Addr} {v : Value}, w.cell? a = some v → w'.cell? a = some v := fun c => (hb.cell (World.block_lt_of_cell? _ _ c)).trans c
  refine ⟨k h.c1, k h.c2, k h.c3, k h.c4, k h.c5, k h.c6, k h.c7, k h.c8, k h.c9, k h.c10, k h.c11, k h.c12, k h.c13, k h.c14, k h.c15, k h.c16, ?_, h.apart⟩
  intro n h1 h2
  obtain ⟨c, t, hc⟩ := h.blk n h1 h2
  exact ⟨c, t, (hb.block _ (Array.getElem?_eq_some_iff.1 hc).1).trans hc⟩

/-- the list of all -/
def errRow (E : Nat → Addr) : Array Value := #[errAt E 1, errAt E 2, errAt E 3, errAt E 4, errAt E 5, errAt E 6, errAt E 7, errAt E 8, errAt E 9, errAt E 10, errAt E 11, errAt E 12, errAt E 13, errAt E 14, errAt E 15, errAt E 16]
theorem errRow_get (E : Nat → Addr) (k : Nat) (hk : k < 16) : (errRow E)[k]? = some (errAt E (k + 1)) := by
  match k, hk with
  | 0, _ => rfl
  | 1, _ => rfl
  | 2, _ => rfl
  | 3, _ => rfl
  | 4, _ => rfl
  | 5, _ => rfl
  | 6, _ => rfl
  | 7, _ => rfl
  | 8, _ => rfl
  | 9, _ => rfl
  | 10, _ => rfl
  | 11, _ => rfl
  | 12, _ => rfl
  | 13, _ => rfl
  | 14, _ => rfl
  | 15, _ => rfl
  | k + 16, h => exact absurd h (by omega)

section laws
variable {P : Program} {ops : Array Oper} {rest : List Oper} {o : Oper} {a : Act} {Q : Exit → Act → World → Prop} {w w' : World} {v : Value}
theorem wpList_val (hgd : o.guard = none) (hrun : (execOp a.eval o).run P w = .ok (.value v) w')
    (h : wpList P ops Q rest (a.put o.dst v) w') : wpList P ops Q (o :: rest) a w := by
  refine wpList_plain hgd fun K hK => ?_
  unfold Oper.wp
  rw [hrun]
  exact hK _ _ h
/-- a slice of all its parts, each of one cell -/
theorem exec_buildSlice {ρ : Operand → Value} {t e : TypeId} {len : Nat} {parts : Array (Nat × Operand)} {cs : Array Value} (hop : o.op = .buildSlice t len parts) (hu : P.underlying t = some (.slice e)) (hs : ∀ w, (sizeOf e).run P w = .ok 1 w)
    (hz : ∀ w, (zeroValue e).run P w = .ok .nilIface w) (h0 : len ≠ 0) (h1 : len ≤ 1000)
    (hf : Instr.fill (fun i => some (i * 1, 1)) ((Array.range (len * 1)).map (Value.nilIface.cells[· % Value.nilIface.cells.size]!)) (parts.map fun (i, x) => (i, ρ x)).toList = some cs) :
    (execOp ρ o).run P w = .ok (.value (.slice (some ⟨w.heap.size, 0, none⟩) len len)) (w.alloc (.cells cs e)) := by
  have h2 : ¬ len * 1 > 2 ^ 24 := by omega
  have h3 : ¬ len * 1 = 0 := by omega
  have hb : ∀ ps : Array (Nat × Value), Instr.fill (fun i => some (i * 1, 1)) ((Array.range (len * 1)).map (Value.nilIface.cells[· % Value.nilIface.cells.size]!)) ps.toList = some cs → (Instr.buildSlice t len ps).run P w = .ok (.slice (some ⟨w.heap.size, 0, none⟩) len len) (w.alloc (.cells cs e)) := by
    intro ps hps
    unfold Instr.buildSlice
    rw [Sem.run_bind, run_underlying hu]
    simp only [Result.andThen]
    rw [Sem.run_bind, hs]
    simp only [Result.andThen, if_neg h2, if_neg h3]
    simp [-Nat.mul_one, -Array.size_range, Sem.run_bind, hz, Result.andThen, hps, newRow, run_newObj_alloc]
  simp [execOp, hop, Sem.run_bind, hb _ hf, Result.andThen]
end laws

set_option maxRecDepth 100000 in
set_option maxHeartbeats 400000 in
theorem all_any (w : World) (E : Nat → Addr) (h : ErrsAre w E) :
    Calls Tryd.prog 75 #[] w fun e w' => e = .returned (.slice (some ⟨w.heap.size, 0, none⟩) 16 16) ∧ w.alloc (.cells (errRow E) 25) = w' := by
  have c1 := h.c1
  have c2 := h.c2
  have c3 := h.c3
  have c4 := h.c4
  have c5 := h.c5
  have c6 := h.c6
  have c7 := h.c7
  have c8 := h.c8
  have c9 := h.c9
  have c10 := h.c10
  have c11 := h.c11
  have c12 := h.c12
  have c13 := h.c13
  have c14 := h.c14
  have c15 := h.c15
  have c16 := h.c16
  clear h
  go_enter Tryd.func75, Tryd.ntmps75
  go_wp2_with (refine wpList_val rfl (exec_buildSlice (t := 121) (cs := errRow E) rfl Tryd.underlying121 (fun w => Tryd.sizeOf25 w) (fun w => by kernel_rfl) (by decide) (by decide) (by kernel_rfl)) ?_)
  go_ret
  exact ⟨rfl, rfl⟩

set_option maxHeartbeats 1600000 in
theorem num_nil (w : World) : Calls Tryd.prog 16 #[.nilIface] w fun e w' => e = .returned (.int .i64 0) ∧ w = w' := by
  go_enter Tryd.func16, Tryd.ntmps16
  go_wp2
  go_ret
  exact ⟨rfl, rfl⟩

set_option maxHeartbeats 1600000 in
theorem num_err (w : World) (E : Nat → Addr) (h : ErrsAre w E) (n : Nat) (h1 : 1 ≤ n) (h16 : n ≤ 16) :
    Calls Tryd.prog 16 #[errAt E n] w fun e w' => e = .returned (.int .i64 (n : Int)) ∧ w.alloc (.cells (errRow E) 25) = w' := by
  have hall := all_any w E h
  have h' : ErrsAre (w.alloc (.cells (errRow E) 25)) E := h.below ((Below.refl _ w).alloc (Nat.le_refl _) _)
  have hcell : ∀ k : Nat, k < 16 → (w.alloc (.cells (errRow E) 25)).cell? ⟨w.heap.size, k, none⟩ = some (errAt E (k + 1)) := by
    intro k hk
    have := errRow_get E k hk
    have hb : (w.alloc (.cells (errRow E) 25)).heap[w.heap.size]? = some (.cells (errRow E) 25 (0, 0)) := by unfold World.alloc; simp
    unfold World.cell?
    rw [hb]
    simpa using this
  obtain ⟨W, hW⟩ : ∃ W, W = w.alloc (.cells (errRow E) 25) := ⟨_, rfl⟩
  rw [← hW] at hall h' hcell
  simp only [errAt] at hcell ⊢
  have HC := Lib.hid hcell
  have HE := Lib.hid h'
  have hW' := Lib.hid hW
  clear hcell h' hW h
  go_enter Tryd.func16, Tryd.ntmps16
  go_wp2_with (go_at_call 75; refine hall.mono ?_; rintro e w' ⟨rfl, rfl⟩)
  go_loop [9] (fun v9 => ∃ k : Nat, k < n ∧ v9 = .int .i64 (k : Int)) (fun v9 => n - (intOf v9).toNat)
  case atStart => exact ⟨0, by omega, rfl⟩
  case round =>
    obtain ⟨k, hk, rfl⟩ := hrel
    have hc := HC.out k (by omega)
    by_cases he : k + 1 = n
    · subst he
      have hs := is_same (E (k + 1)) W
      go_wp2_with (go_at_call 76; refine hs.mono ?_; rintro e w' ⟨rfl, rfl⟩)
      go_ret
      exact ⟨by simp, hW'.out.symm⟩
    · have ho := is_other (E n) (E (k + 1)) W (fun h => he (HE.out.apart _ _ (by omega) (by omega) (by omega) (by omega) h).symm) (HE.out.blk _ (by omega) (by omega)) (HE.out.blk _ (by omega) (by omega))
      go_wp2_with (go_at_call 76; refine ho.mono ?_; rintro e w' ⟨rfl, rfl⟩)
      go_round
      case rel => exact ⟨k + 1, by omega, by go_num⟩
      case measure => simp [intOf]; omega
end Go.Proofs.YtcmjddkljmfklaaDoor
