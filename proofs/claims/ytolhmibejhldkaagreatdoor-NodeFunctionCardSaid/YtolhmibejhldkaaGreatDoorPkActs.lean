/- Texts joined: SortP. No condition but those that stand within. -/
import Derived.Test.YtolhmibejhldkaaGreatDoorPkSwar
import Derived.Test.YtolhmibejhldkaaGreatDoorPkMeter
import Derived.Test.YtolhmibejhldkaaGreatDoorPkErrs
import Derived.Test.YtolhmibejhldkaaGreatDoorPkGroup
import Derived.Test.YtolhmibejhldkaaGreatDoorPkTab
import Derived.Test.YtolhmibejhldkaaGreatDoorPkTab2
import Derived.Test.YtolhmibejhldkaaGreatDoorPkTab3
import Derived.Test.YtolhmibejhldkaaGreatDoorPkTab4
import Derived.Test.YtolhmibejhldkaaGreatDoorPkTake
import Derived.Test.YtolhmibejhldkaaGreatDoorPkTabM
import Derived.Test.YtolhmibejhldkaaGreatDoorPkBuild
import Derived.Test.YtolhmibejhldkaaGreatDoorPkEvac
import Derived.Test.YtolhmibejhldkaaGreatDoorPkRef09
import Derived.Test.YtolhmibejhldkaaGreatDoorPkEvac2
set_option linter.unusedVariables false
set_option linter.unusedSimpArgs false
namespace Go.Proofs.YtolhmibejhldkaaGreatDoor
def insE (e : EntS) : List EntS → List EntS
  | [] => [e]
  | b :: l => if lessB e b = true then e :: b :: l else b :: insE e l
theorem less_trans {a b c : EntS} (h1 : lessB a b = true) (h2 : lessB b c = true) : lessB a c = true := by
  unfold lessB at *
  simp only [decide_eq_true_eq] at *
  omega
def firstE (l : List EntS) (f : EntS) : Option EntS := l.find? (fun e => !lessB e f)
theorem firstE_ins (f e : EntS) : ∀ l, firstE (insE e l) f = if lessB e f = true then firstE l f else (match firstE l f with | none => some e | some a => if lessB e a = true then some e else some a)
  | [] => by
    unfold insE firstE
    cases h : lessB e f <;> simp [h]
  | b :: l => by
    have ih := firstE_ins f e l
    unfold firstE at *
    unfold insE
    by_cases hb : lessB e b = true
    · rw [if_pos hb]
      by_cases hf : lessB e f = true
      · rw [if_pos hf, List.find?_cons]
        simp [hf]
      · have hf' : lessB e f = false := by simpa using hf
        have hbf : lessB b f = false := by
          cases h : lessB b f with
          | false => rfl
          | true => exact absurd (less_trans hb h) hf
        rw [if_neg hf, List.find?_cons, List.find?_cons]
        simp [hf', hbf, hb]
    · rw [if_neg hb, List.find?_cons, List.find?_cons]
      cases hbf : lessB b f with
      | false => simp [hb]
      | true => simp only [Bool.not_true]; exact ih
def FirstI (s : List EntS) (f : EntS) (a : EntS × Bool) : Prop := firstE s f = (if a.2 = true then some a.1 else none) ∧ (a.2 = false → a.1 = EntS.zero)
theorem FirstI.step {s : List EntS} {f : EntS} {a : EntS × Bool} (h : FirstI s f a) (e : EntS) : FirstI (insE e s) f (leastStep f a e) := by
  obtain ⟨h1, h2⟩ := h
  unfold FirstI
  rw [firstE_ins, h1]
  unfold leastStep
  obtain ⟨x, b⟩ := a
  cases hf : lessB e f <;> cases b <;> simp_all
  cases hx : lessB e x <;> simp
theorem FirstI.all {f : EntS} (l : List EntS) : ∀ (s : List EntS) (a : EntS × Bool), FirstI s f a → FirstI (l.foldl (fun acc e => insE e acc) s) f (l.foldl (leastStep f) a) := by
  induction l with
  | nil => intro s a h; exact h
  | cons e l ih => intro s a h; exact ih _ _ (h.step e)
end Go.Proofs.YtolhmibejhldkaaGreatDoor
