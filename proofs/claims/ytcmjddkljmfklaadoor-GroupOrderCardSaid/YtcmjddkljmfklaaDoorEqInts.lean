/- Arrays of integers, compared. No condition. -/
import Derived.WalkKit
import Derived.ChangeKeysEq
namespace Go.Proofs.YtcmjddkljmfklaaDoor
set_option linter.unusedVariables false
set_option linter.unusedSimpArgs false
open Go.RowKit

theorem run_equalIn_int {P : Program} {w : World} {d : Nat} {e : TypeId} {k j : IntKind} (h : P.underlying e = some (.int j)) (a b : Int) : (Op.equalIn (d + 1) e (.int k a) (.int k b)).run P w = .ok (a == b) w := by
  simp [Op.equalIn, Sem.run_bind, run_underlying h, Result.andThen]
theorem run_part_one {P : Program} {w : World} {e : TypeId} {d : TypeDesc} {cs : Array Value} {off : Nat} {v : Value} (h : P.underlying e = some d) (hd : (match d with | .struct _ | .array _ _ => false | _ => true) = true) (hc : cs[off]? = some v) : (part e cs off).run P w = .ok v w := by
  have hag : (isAgg e).run P w = .ok false w := by
    unfold isAgg
    rw [Sem.run_bind, run_underlying h w]
    cases d <;> simp_all
  simp [part, Sem.run_bind, hag, Result.andThen, hc]
theorem run_eqItems_ints {P : Program} {w : World} {d : Nat} {e : TypeId} {k j : IntKind} (h : P.underlying e = some (.int j)) (xs ys : List Int) :
    ∀ (is : List Nat), (∀ i ∈ is, i < xs.length ∧ i < ys.length) → (Op.eqItems (d + 1) e 1 (xs.map (Value.int k)).toArray (ys.map (Value.int k)).toArray is).run P w = .ok (decide (∀ i ∈ is, xs[i]? = ys[i]?)) w := by
  intro is
  induction is with
  | nil => intro _; simp [Op.eqItems]
  | cons i is ih =>
    intro hi
    obtain ⟨h1, h2⟩ := hi i (by simp)
    have p1 : (part e (xs.map (Value.int k)).toArray (i * 1)).run P w = .ok (.int k xs[i]) w := run_part_one h rfl (by simp [h1])
    have p2 : (part e (ys.map (Value.int k)).toArray (i * 1)).run P w = .ok (.int k ys[i]) w := run_part_one h rfl (by simp [h2])
    simp only [Op.eqItems, Sem.run_bind, p1, p2, Result.andThen, run_equalIn_int h]
    by_cases hxy : xs[i] = ys[i]
    · simp only [hxy, beq_self_eq_true, Bool.not_true, Bool.false_eq_true, if_false]
      rw [ih (fun j hj => hi j (by simp [hj]))]
      congr 1
      simp [List.getElem?_eq_getElem h1, List.getElem?_eq_getElem h2, hxy]
    · have : (xs[i] == ys[i]) = false := by simpa using hxy
      simp only [this, Bool.not_false, if_true, Sem.run_pure]
      congr 1
      symm
      rw [decide_eq_false_iff_not]
      intro hall
      have := hall i (by simp)
      rw [List.getElem?_eq_getElem h1, List.getElem?_eq_getElem h2] at this
      exact hxy (by simpa using this)
/-- two arrays of integers -/
theorem run_eq_ints {P : Program} {w : World} {d : Nat} {t e : TypeId} {n : Nat} {i : TypeInfo} {k j : IntKind} (hu : P.underlying t = some (.array n e)) (hi : P.info? e = some i) (h : P.underlying e = some (.int j)) (hc : P.cellsOf e = 1)
    (xs ys : List Int) (hx : xs.length = n) (hy : ys.length = n) : (Op.equalIn (d + 2) t (.agg (xs.map (Value.int k)).toArray) (.agg (ys.map (Value.int k)).toArray)).run P w = .ok (decide (xs = ys)) w := by
  rw [run_equalIn_array w (d + 1) _ _ hu hi, hc, run_eqItems_ints h xs ys _ (fun i hi => by simp at hi; omega)]
  congr 1
  rw [decide_eq_decide]
  constructor
  · intro hall
    apply List.ext_getElem?
    intro i
    by_cases hin : i < n
    · exact hall i (by simpa using hin)
    · rw [List.getElem?_eq_none (by omega), List.getElem?_eq_none (by omega)]
  · rintro rfl i _; rfl
/-- an array's element, by its number -/
theorem run_index_one {P : Program} {w : World} {t e : TypeId} {n k : Nat} {d : TypeDesc} {cs : Array Value} {v : Value} {kd : IntKind} (hu : P.underlying t = some (.array n e)) (he : P.underlying e = some d) (hd : (match d with | .struct _ | .array _ _ => false | _ => true) = true)
    (hs : (sizeOf e).run P w = .ok 1 w) (hk : k < n) (hc : cs[k]? = some v) : (Instr.index t (.agg cs) (.int kd (k : Int))).run P w = .ok v w := by
  have hp : (part e cs ((k : Int).toNat * 1)).run P w = .ok v w := run_part_one he hd (by simpa using hc)
  have h1 : 0 ≤ (k : Int) ∧ (k : Int) < (n : Int) := by omega
  simp only [Instr.index, asIntOf, Sem.run_bind, Sem.run_pure, Result.andThen, run_underlying hu, if_pos h1, hs, hp]
end Go.Proofs.YtcmjddkljmfklaaDoor
