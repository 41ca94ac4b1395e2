/- A region that draws its order, walked once: what only computes or loads comes as soon as it may, what is left comes in one order alone. No condition but the plan's own check. -/
import Derived.Test.YtcmjddkljmfklaaDoorChg
import Derived.OrdersHeld
import Derived.Deep.MidRow
import Derived.Deep.RegionHeld3
import Derived.KernelRfl
namespace Go.Proofs.YtcmjddkljmfklaaDoor
set_option linter.unusedVariables false
set_option linter.unusedSimpArgs false
open Go.RowKit

/-- what is known of an operation: whom it waits for; whoever is ahead of it at any rate; its temporary; those that it looks at; its kind (0: it computes, 1: it loads, 2: it does something, 3: it does something behind all loads) -/
structure Note where
  direct : Nat
  ahead : Nat
  dst : Nat
  looks : Nat
  kind : Nat

def maskL (l : List Nat) : Nat := l.foldl (fun m i => m ||| 2 ^ i) 0
theorem maskL_acc (l : List Nat) (m i : Nat) : (l.foldl (fun m i => m ||| 2 ^ i) m).testBit i = (m.testBit i || l.contains i) := by
  induction l generalizing m with
  | nil => simp
  | cons x l ih =>
    rw [List.foldl_cons, ih, Nat.testBit_or, Nat.testBit_two_pow, List.contains_cons, Bool.or_assoc]
    congr 2
    rw [Bool.eq_iff_iff, decide_eq_true_iff, beq_iff_eq]
    exact eq_comm
theorem maskL_bit (l : List Nat) (i : Nat) : (maskL l).testBit i = l.contains i := by rw [maskL, maskL_acc]; simp

def bound (md : Region.Mode) (o : Oper) : List Nat := o.after.toList.filterMap fun e => if Region.binds md e then some e.on else none
def dstL (o : Oper) : List Nat := o.dst.toList

/-- the notes are right -/
def notesOk (md : Region.Mode) (ops : Array Oper) (ns : Array Note) : Bool :=
  ns.size == ops.size && (List.range ops.size).all fun j => match ops[j]?, ns[j]? with
    | some o, some n =>
      let b := bound md o
      n.direct == maskL b && b.all (· < ops.size) &&
      n.ahead == b.foldl (fun m i => m ||| 2 ^ i ||| (if i < j then (ns[i]?.map (·.ahead)).getD 0 else 0)) 0 &&
      n.dst == maskL (dstL o) && n.looks == maskL (o.looksAt ops)
    | _, _ => false

def ready (n : Note) (L j : Nat) : Bool := !L.testBit j && (n.direct &&& L == n.direct)
def flagged (n : Note) (loads j : Nat) : Bool := (loads &&& (n.ahead ||| 2 ^ j)) != loads
def apartN (x y : Note) : Bool := (x.dst &&& (y.looks ||| y.dst) == 0) && (y.dst &&& x.looks == 0)

/-- the plan goes -/
def planOk (ns : Array Note) (loads : Nat) : List Nat → Nat → Bool
  | [], L => (List.range ns.size).all fun j => L.testBit j
  | i :: rest, L => match ns[i]? with
    | none => false
    | some n => ready n L i && (n.kind != 1 || loads.testBit i) &&
      (if n.kind < 2 then (List.range ns.size).all fun j => j == i || L.testBit j || (match ns[j]? with | some m => m.ahead.testBit i || apartN n m | none => true)
       else (List.range ns.size).all fun j => j == i || match ns[j]? with | some m => !ready m L j | none => true) &&
      (n.kind < 3 || !flagged n loads i) &&
      planOk ns loads rest (L ||| 2 ^ i)

section
variable {P : Program} {ops : Array Oper} {Q : Exit → Act → World → Prop} {md : Region.Mode} {X : Nat → Prop}

/-- the walk: in the plan's order -/
def wpSeq (P : Program) (ops : Array Oper) (Q : Exit → Act → World → Prop) (X : Nat → Prop) : List (Nat × Nat) → Act → World → Prop
  | [], a, w => Q .normal a w
  | (i, k) :: rest, a, w =>
    if k = 0 then ∃ o v, ops[i]? = some o ∧ Yields P ops o v a ∧ wpSeq P ops Q X rest (a.put o.dst v) w
    else if k = 1 then ∃ o v, ops[i]? = some o ∧ YieldsIf P ops (Chg X w) o v a ∧ wpSeq P ops Q X rest (a.put o.dst v) w
    else if k = 2 then wpOp P ops Q i (fun a' w' => Chg X w w' ∧ wpSeq P ops Q X rest a' w') a w
    else wpOp P ops Q i (wpSeq P ops Q X rest) a w

/-- whatever comes up; what is flagged leaves what was there as it was, but for X -/
def wpAnyF (P : Program) (ops : Array Oper) (ns : Array Note) (fl : Nat → Bool) (Q : Exit → Act → World → Prop) (X : Nat → Prop) : Nat → Nat → Act → World → Prop
  | 0, L, a, w => (∀ j n, ns[j]? = some n → ready n L j = false) ∧ Q .normal a w
  | fuel + 1, L, a, w =>
    ((∀ j n, ns[j]? = some n → ready n L j = false) → Q .normal a w) ∧
    ∀ j n, ns[j]? = some n → ready n L j = true → wpOp P ops Q j (fun a' w' => (fl j = true → Chg X w w') ∧ wpAnyF P ops ns fl Q X fuel (L ||| 2 ^ j) a' w') a w

variable {ns : Array Note} {fl : Nat → Bool}

theorem bit_or {L i j : Nat} : (L ||| 2 ^ i).testBit j = (L.testBit j || decide (i = j)) := by rw [Nat.testBit_or, Nat.testBit_two_pow]

theorem and_eq_left_iff {x L : Nat} : (x &&& L == x) = true ↔ ∀ i, x.testBit i = true → L.testBit i = true := by
  rw [beq_iff_eq]
  constructor
  · intro h i hi
    have := congrArg (·.testBit i) h
    simp only [Nat.testBit_and, hi, Bool.true_and] at this
    exact this
  · intro h
    apply Nat.eq_of_testBit_eq
    intro i
    rw [Nat.testBit_and]
    cases hx : x.testBit i
    · simp
    · simp [h i hx]

theorem ready_iff {n : Note} {L j : Nat} : ready n L j = true ↔ L.testBit j = false ∧ ∀ i, n.direct.testBit i = true → L.testBit i = true := by
  simp only [ready, Bool.and_eq_true, Bool.not_eq_true', and_eq_left_iff]

theorem ready_more {n : Note} {L i j : Nat} (h : ready n L j = true) (hne : j ≠ i) : ready n (L ||| 2 ^ i) j = true := by
  rw [ready_iff] at *
  refine ⟨by rw [bit_or, h.1]; simp [Ne.symm hne], fun k hk => by rw [bit_or, h.2 k hk]; rfl⟩

/-- all that are ahead of what is listed are listed -/
def closedL (ns : Array Note) (L : Nat) : Prop := ∀ j n, ns[j]? = some n → L.testBit j = true → ∀ i, n.direct.testBit i = true → L.testBit i = true

theorem closed_more {L j : Nat} {n : Note} (hc : closedL ns L) (hn : ns[j]? = some n) (hr : ready n L j = true) : closedL ns (L ||| 2 ^ j) := by
  intro k m hk hL i hi
  rw [bit_or] at hL ⊢
  rw [ready_iff] at hr
  rcases Bool.or_eq_true _ _ ▸ hL with h | h
  · rw [hc k m hk h i hi]; rfl
  · have : j = k := of_decide_eq_true h
    subst this
    rw [hn] at hk; cases hk
    rw [hr.2 i hi]; rfl

/-- the notes' 'ahead' says just what is ahead -/
def AheadOk (ns : Array Note) : Prop := ∀ (j : Nat) (n : Note), ns[j]? = some n → ∀ i, n.ahead.testBit i = true → n.direct.testBit i = true ∨ ∃ (k : Nat) (m : Note), k < j ∧ ns[k]? = some m ∧ n.direct.testBit k = true ∧ m.ahead.testBit i = true

theorem ahead_listed (ha : AheadOk ns) {L : Nat} (hc : closedL ns L) : ∀ (j : Nat) (n : Note), ns[j]? = some n → (∀ i, n.direct.testBit i = true → L.testBit i = true) → ∀ i, n.ahead.testBit i = true → L.testBit i = true := by
  intro j
  induction j using Nat.strongRecOn with
  | ind j ih =>
    intro n hn hd i hi
    rcases ha j n hn i hi with h | ⟨k, m, hk, hm, hdk, hmi⟩
    · exact hd i h
    · exact ih k hk m hm (fun x hx => hc k m hm (hd k hdk) x hx) i hmi

/-- **What computes or loads may come first.** T: the worlds in which it yields. -/
theorem wpAnyF_first {T : World → Prop} {i : Nat} {oi : Oper} {v : Value} (ha : AheadOk ns) (hsz : ns.size = ops.size) (hi : ops[i]? = some oi) (hsel : ∀ (j : Nat) (o : Oper) cs b, ops[j]? = some o → o.op ≠ .select cs b)
    (hQ : ∀ c a w, Q (.panic c) (a.put oi.dst v) w → Q (.panic c) a w) :
    ∀ (fuel L : Nat) (a : Act) (w : World), closedL ns L → L.testBit i = false →
      (∀ (j : Nat) (n : Note) (oj : Oper), ns[j]? = some n → ops[j]? = some oj → j ≠ i → L.testBit j = false → n.ahead.testBit i = false → oi.apart ops oj = true ∧ ∀ u u', (fl j = true → Chg X u u') → T u → T u') →
      (∀ n, ns[i]? = some n → ready n L i = true) → YieldsIf P ops T oi v a → T w →
      wpAnyF P ops ns fl Q X fuel (L ||| 2 ^ i) (a.put oi.dst v) w → wpAnyF P ops ns fl Q X (fuel + 1) L a w := by
  intro fuel
  induction fuel with
  | zero =>
    intro L a w hc hLi hfree hr hy hT H
    have hlt : i < ns.size := by rw [hsz]; exact (Array.getElem?_eq_some_iff.1 hi).1
    refine ⟨fun h => absurd (h i _ (Array.getElem?_eq_getElem hlt)) (by rw [hr _ (Array.getElem?_eq_getElem hlt)]; simp), fun j n hn hj => ?_⟩
    by_cases hji : j = i
    · subst hji; exact hy.wpOp hi hT ⟨fun _ => Chg.refl _ _, H⟩
    · have := H.1 j n hn
      rw [ready_more hj hji] at this
      cases this
  | succ fuel ih =>
    intro L a w hc hLi hfree hr hy hT H
    have hlt : i < ns.size := by rw [hsz]; exact (Array.getElem?_eq_some_iff.1 hi).1
    refine ⟨fun h => absurd (h i _ (Array.getElem?_eq_getElem hlt)) (by rw [hr _ (Array.getElem?_eq_getElem hlt)]; simp), fun j n hn hj => ?_⟩
    by_cases hji : j = i
    · subst hji; exact hy.wpOp hi hT ⟨fun _ => Chg.refl _ _, H⟩
    · have h1 := H.2 j n hn (ready_more hj hji)
      have hjl : j < ops.size := by rw [← hsz]; exact (Array.getElem?_eq_some_iff.1 hn).1
      obtain ⟨oj, hoj⟩ : ∃ oj, ops[j]? = some oj := ⟨_, Array.getElem?_eq_getElem hjl⟩
      have hjun := (ready_iff.1 hj).1
      have hahead : n.ahead.testBit i = false := by
        cases hb : n.ahead.testBit i
        · rfl
        · have := ahead_listed ha hc j n hn (ready_iff.1 hj).2 i hb
          rw [hLi] at this; cases this
      obtain ⟨hap, hTj⟩ := hfree j n oj hn hoj hji hjun hahead
      have h2 := wpOp_putIf hoj hap (fun cs b => hsel i oi cs b hi) (fun cs b => hsel j oj cs b hoj) hQ hy h1
      refine wpOp_mono (fun a' w' h3 => ⟨h3.2.1, ?_⟩) h2
      have hLi' : (L ||| 2 ^ j).testBit i = false := by rw [bit_or, hLi]; simp [hji]
      refine ih (L ||| 2 ^ j) a' w' (closed_more hc hn hj) hLi' (fun k m ok hk hok hki hun hah => hfree k m ok hk hok hki ?_ hah) (fun m hm => ready_more (hr m hm) (Ne.symm hji)) h3.1 (hTj w w' h3.2.1 hT) ?_
      · rw [bit_or, Bool.or_eq_false_iff] at hun; exact hun.1
      · rw [show (L ||| 2 ^ j) ||| 2 ^ i = (L ||| 2 ^ i) ||| 2 ^ j by rw [Nat.or_assoc, Nat.or_comm (2 ^ j), ← Nat.or_assoc]]
        exact h3.2.2

theorem wpAnyF_only {i : Nat} {fuel L : Nat} {a : Act} {w : World} (hi : i < ns.size)
    (hr : ∀ n, ns[i]? = some n → ready n L i = true) (ho : ∀ (j : Nat) (n : Note), ns[j]? = some n → j ≠ i → ready n L j = false)
    (h : wpOp P ops Q i (fun a' w' => (fl i = true → Chg X w w') ∧ wpAnyF P ops ns fl Q X fuel (L ||| 2 ^ i) a' w') a w) : wpAnyF P ops ns fl Q X (fuel + 1) L a w := by
  refine ⟨fun hn => absurd (hn i _ (Array.getElem?_eq_getElem hi)) (by rw [hr _ (Array.getElem?_eq_getElem hi)]; simp), fun j n hn hj => ?_⟩
  by_cases hji : j = i
  · subst hji; exact h
  · rw [ho j n hn hji] at hj; cases hj

/-! ### The checks, and what they give -/
theorem notesOk_spec (h : notesOk md ops ns = true) : ns.size = ops.size ∧ AheadOk ns ∧
    (∀ (j : Nat) (n : Note) (o : Oper), ns[j]? = some n → ops[j]? = some o → n.direct = maskL (bound md o) ∧ n.dst = maskL (dstL o) ∧ n.looks = maskL (o.looksAt ops) ∧ ∀ i ∈ bound md o, i < ops.size) := by
  simp only [notesOk, Bool.and_eq_true, beq_iff_eq, List.all_eq_true, List.mem_range] at h
  obtain ⟨hs, hall⟩ := h
  have key : ∀ (j : Nat) (n : Note) (o : Oper), ns[j]? = some n → ops[j]? = some o → (n.direct = maskL (bound md o) ∧ (∀ i ∈ bound md o, i < ops.size)) ∧
      n.ahead = (bound md o).foldl (fun m i => m ||| 2 ^ i ||| (if i < j then (ns[i]?.map (·.ahead)).getD 0 else 0)) 0 ∧ n.dst = maskL (dstL o) ∧ n.looks = maskL (o.looksAt ops) := by
    intro j n o hn ho
    have h1 := hall j (Array.getElem?_eq_some_iff.1 ho).1
    simp only [hn, ho, Bool.and_eq_true, beq_iff_eq, List.all_eq_true, decide_eq_true_eq] at h1
    obtain ⟨⟨⟨⟨a, b⟩, c⟩, d⟩, e⟩ := h1
    exact ⟨⟨a, b⟩, c, d, e⟩
  refine ⟨hs, fun j n hn i hi => ?_, fun j n o hn ho => ⟨(key j n o hn ho).1.1, (key j n o hn ho).2.2.1, (key j n o hn ho).2.2.2, (key j n o hn ho).1.2⟩⟩
  have hjl : j < ops.size := by rw [← hs]; exact (Array.getElem?_eq_some_iff.1 hn).1
  obtain ⟨⟨hd, _⟩, ha, _, _⟩ := key j n _ hn (Array.getElem?_eq_getElem hjl)
  rw [ha] at hi
  have gen : ∀ (l : List Nat) (m : Nat), (l.foldl (fun m i => m ||| 2 ^ i ||| (if i < j then (ns[i]?.map (·.ahead)).getD 0 else 0)) m).testBit i = true →
      m.testBit i = true ∨ i ∈ l ∨ ∃ (k : Nat) (x : Note), k ∈ l ∧ k < j ∧ ns[k]? = some x ∧ x.ahead.testBit i = true := by
    intro l
    induction l with
    | nil => intro m h; exact .inl h
    | cons y l ih =>
      intro m h
      rw [List.foldl_cons] at h
      rcases ih _ h with h | h | ⟨k, x, hk, h1, h2, h3⟩
      · rw [Nat.testBit_or, bit_or, Bool.or_eq_true, Bool.or_eq_true] at h
        rcases h with (h | h) | h
        · exact .inl h
        · exact .inr (.inl (by simp [of_decide_eq_true h]))
        · split at h
          · rename_i hy
            cases hx : ns[y]? with
            | none => simp [hx] at h
            | some x => exact .inr (.inr ⟨y, x, by simp, hy, hx, by simpa [hx] using h⟩)
          · simp at h
      · exact .inr (.inl (by simp [h]))
      · exact .inr (.inr ⟨k, x, by simp [hk], h1, h2, h3⟩)
  rcases gen _ _ hi with h | h | ⟨k, x, hk, h1, h2, h3⟩
  · simp at h
  · exact .inl (by rw [hd, maskL_bit]; simpa using h)
  · exact .inr ⟨k, x, h1, h2, by rw [hd, maskL_bit]; simpa using hk, h3⟩

theorem and_zero {a b i : Nat} (h : a &&& b = 0) (ha : a.testBit i = true) : b.testBit i = false := by
  have := congrArg (·.testBit i) h
  simpa [Nat.testBit_and, ha] using this

theorem apart_of {x y : Oper} {m n : Note} (hm : m.dst = maskL (dstL x)) (hm' : m.looks = maskL (x.looksAt ops)) (hn : n.dst = maskL (dstL y)) (hn' : n.looks = maskL (y.looksAt ops))
    (h : apartN m n = true) : x.apart ops y = true := by
  simp only [apartN, Bool.and_eq_true, beq_iff_eq] at h
  obtain ⟨h1, h2⟩ := h
  have a1 : ∀ d, x.dst = some d → ¬ (y.looksAt ops).contains d = true ∧ y.dst ≠ some d := fun d hd => by
    have hb : m.dst.testBit d = true := by rw [hm, maskL_bit]; simp [dstL, hd]
    have := and_zero h1 hb
    rw [Nat.testBit_or, Bool.or_eq_false_iff, hn, hn', maskL_bit, maskL_bit] at this
    refine ⟨by rw [this.1]; simp, fun hy => ?_⟩
    have h' := this.2
    simp [dstL, hy] at h'
  have a2 : ∀ d, y.dst = some d → ¬ (x.looksAt ops).contains d = true := fun d hd => by
    have hb : n.dst.testBit d = true := by rw [hn, maskL_bit]; simp [dstL, hd]
    have := and_zero h2 hb
    rw [hm', maskL_bit] at this
    rw [this]; simp
  unfold Oper.apart
  rw [Bool.and_eq_true]
  constructor
  · cases hx : x.dst with
    | none => rfl
    | some d =>
      have := a1 d hx
      simp only [Bool.and_eq_true, Bool.not_eq_true', bne_iff_ne, ne_eq]
      exact ⟨by simpa using this.1, this.2⟩
  · cases hy : y.dst with
    | none => rfl
    | some d => have := a2 d hy; simpa using this

theorem yieldsT {o : Oper} {v : Value} {a : Act} (h : Yields P ops o v a) : YieldsIf P ops (fun _ => True) o v a :=
  h.imp (fun ⟨hw, hv⟩ => ⟨hw, fun w _ => hv w⟩) id

/-- the plan's order serves for all -/
theorem wpAnyF_of_seq {loads : Nat} (hn : notesOk md ops ns = true) (hsel : Region.noSelect ops = true) (hQ : ∀ c (a : Act) d v w, Q (.panic c) (a.put d v) w → Q (.panic c) a w) :
    ∀ (pl : List (Nat × Nat)) (L : Nat) (a : Act) (w : World), closedL ns L → (∀ x ∈ pl, ∀ n, ns[x.1]? = some n → n.kind = x.2) → planOk ns loads (pl.map (·.1)) L = true →
      wpSeq P ops Q X pl a w → wpAnyF P ops ns (fun j => match ns[j]? with | some n => flagged n loads j | none => false) Q X pl.length L a w := by
  obtain ⟨hsz, hah, hnote⟩ := notesOk_spec hn
  have hsel' := Region.noSelect_spec hsel
  intro pl
  induction pl with
  | nil =>
    intro L a w hc hk hp h
    simp only [List.map_nil, planOk, List.all_eq_true, List.mem_range] at hp
    refine ⟨fun j n hj => ?_, h⟩
    have := hp j (Array.getElem?_eq_some_iff.1 hj).1
    simp [ready, this]
  | cons x pl ih =>
    intro L a w hc hk hp h
    obtain ⟨i, k⟩ := x
    simp only [List.map_cons, planOk] at hp
    cases hni : ns[i]? with
    | none => simp [hni] at hp
    | some n =>
      have hkn : n.kind = k := hk (i, k) (by simp) n hni
      simp only [hni, Bool.and_eq_true] at hp
      obtain ⟨⟨⟨⟨hr, hld⟩, hcase⟩, hfl⟩, hrest⟩ := hp
      have hiL := (ready_iff.1 hr).1
      have hil : i < ns.size := (Array.getElem?_eq_some_iff.1 hni).1
      have hr' : ∀ m, ns[i]? = some m → ready m L i = true := fun m hm => by rw [hni] at hm; cases hm; exact hr
      have hc' : closedL ns (L ||| 2 ^ i) := closed_more hc hni hr
      have hk' : ∀ x ∈ pl, ∀ n, ns[x.1]? = some n → n.kind = x.2 := fun x hx => hk x (by simp [hx])
      have hfree : n.kind < 2 → ∀ (j : Nat) (m : Note) (oi oj : Oper), ns[j]? = some m → ops[i]? = some oi → ops[j]? = some oj → j ≠ i → L.testBit j = false → m.ahead.testBit i = false → oi.apart ops oj = true := by
        intro hlt j m oi oj hm hoi hoj hji hjL hja
        rw [if_pos hlt] at hcase
        have := List.all_eq_true.1 hcase j (List.mem_range.2 (Array.getElem?_eq_some_iff.1 hm).1)
        simp only [hm, hjL, hja, Bool.or_false, Bool.false_or, Bool.or_eq_true, beq_iff_eq, hji, false_or] at this
        obtain ⟨_, d1, d2, _⟩ := hnote i n oi hni hoi
        obtain ⟨_, e1, e2, _⟩ := hnote j m oj hm hoj
        exact apart_of d1 d2 e1 e2 this
      unfold wpSeq at h
      by_cases k0 : k = 0
      · rw [if_pos k0] at h
        obtain ⟨o, v, ho, hy, h⟩ := h
        exact wpAnyF_first (T := fun _ => True) hah hsz ho hsel' (fun c a w => hQ c a _ _ w) _ L a w hc hiL (fun j m oj hm hoj hji hjL hja => ⟨hfree (by omega) j m o oj hm ho hoj hji hjL hja, fun _ _ _ _ => trivial⟩) hr' (yieldsT hy) trivial
          (ih _ _ _ hc' hk' hrest h)
      · rw [if_neg k0] at h
        by_cases k1 : k = 1
        · rw [if_pos k1] at h
          obtain ⟨o, v, ho, hy, h⟩ := h
          have hlb : loads.testBit i = true := by
            rcases Bool.or_eq_true _ _ ▸ hld with h' | h'
            · rw [bne_iff_ne] at h'; exact absurd (hkn.trans k1) h'
            · exact h'
          refine wpAnyF_first (T := Chg X w) hah hsz ho hsel' (fun c a w => hQ c a _ _ w) _ L a w hc hiL (fun j m oj hm hoj hji hjL hja => ⟨hfree (by omega) j m o oj hm ho hoj hji hjL hja, fun u u' hf hT => hT.trans (hf ?_)⟩) hr' hy (Chg.refl _ _)
            (ih _ _ _ hc' hk' hrest h)
          simp only [hm, flagged, bne_iff_ne, ne_eq]
          intro e
          have := congrArg (·.testBit i) e
          simp [Nat.testBit_and, Nat.testBit_or, hlb, hja, Nat.testBit_two_pow, hji] at this
        · rw [if_neg k1] at h
          have ho : ∀ (j : Nat) (m : Note), ns[j]? = some m → j ≠ i → ready m L j = false := by
            intro j m hm hji
            by_cases h2 : n.kind < 2
            · exact absurd (by omega : k = 0 ∨ k = 1) (by omega)
            · rw [if_neg h2] at hcase
              have := List.all_eq_true.1 hcase j (List.mem_range.2 (Array.getElem?_eq_some_iff.1 hm).1)
              simpa [hm, hji] using this
          by_cases k2 : k = 2
          · rw [if_pos k2] at h
            exact wpAnyF_only hil hr' ho (wpOp_mono (fun a' w' h' => ⟨fun _ => h'.1, ih _ _ _ hc' hk' hrest h'.2⟩) h)
          · rw [if_neg k2] at h
            refine wpAnyF_only hil hr' ho (wpOp_mono (fun a' w' h' => ⟨fun hf => ?_, ih _ _ _ hc' hk' hrest h'⟩) h)
            have h3 : ¬ n.kind < 3 := by omega
            rw [hni] at hf
            simp only [h3, decide_false, Bool.false_or, Bool.not_eq_true'] at hfl
            simp only [hfl] at hf
            cases hf

theorem wpAny_of_F (hn : notesOk md ops ns = true) : ∀ (fuel : Nat) (listed : Array Bool) (L : Nat) (a : Act) (w : World), (∀ j, j < ops.size → listed[j]? = some (L.testBit j)) →
    wpAnyF P ops ns fl Q X fuel L a w → wpAny P md ops Q fuel listed a w := by
  obtain ⟨hsz, hah, hnote⟩ := notesOk_spec hn
  have key : ∀ (listed : Array Bool) (L : Nat), (∀ j, j < ops.size → listed[j]? = some (L.testBit j)) → ∀ j, j ∈ Region.ready md ops listed ↔ ∃ n, ns[j]? = some n ∧ ready n L j = true := by
    intro listed L hl j
    rw [mem_ready]
    constructor
    · rintro ⟨h0, o, ho, h1⟩
      have hjl : j < ops.size := (Array.getElem?_eq_some_iff.1 ho).1
      obtain ⟨n, hnj⟩ : ∃ n, ns[j]? = some n := ⟨_, Array.getElem?_eq_getElem (by omega)⟩
      refine ⟨n, hnj, ready_iff.2 ⟨?_, fun i hi => ?_⟩⟩
      · simpa [hl j hjl] using h0
      · obtain ⟨hd, _, _, hb⟩ := hnote j n o hnj ho
        rw [hd, maskL_bit] at hi
        have hi' : i ∈ bound md o := by simpa using hi
        have hil := hb i hi'
        simp only [bound, List.mem_filterMap] at hi'
        obtain ⟨e, he, hb'⟩ := hi'
        split at hb'
        · rename_i hbd
          cases hb'
          have := h1 e (by simpa using he) hbd
          simpa [hl _ hil] using this
        · cases hb'
    · rintro ⟨n, hnj, hr⟩
      have hjl : j < ops.size := by rw [← hsz]; exact (Array.getElem?_eq_some_iff.1 hnj).1
      obtain ⟨h0, h1⟩ := ready_iff.1 hr
      refine ⟨by simp [hl j hjl, h0], _, Array.getElem?_eq_getElem hjl, fun e he hb => ?_⟩
      obtain ⟨hd, _, _, hbl⟩ := hnote j n _ hnj (Array.getElem?_eq_getElem hjl)
      have hm : e.on ∈ bound md ops[j] := by
        simp only [bound, List.mem_filterMap]
        exact ⟨e, by simpa using he, by simp [hb]⟩
      have := h1 e.on (by rw [hd, maskL_bit]; simpa using hm)
      simp [hl _ (hbl _ hm), this]
  have knil : ∀ (listed : Array Bool) (L : Nat), (∀ j, j < ops.size → listed[j]? = some (L.testBit j)) → (Region.ready md ops listed = [] ↔ ∀ (j : Nat) (n : Note), ns[j]? = some n → ready n L j = false) := by
    intro listed L hl
    rw [List.eq_nil_iff_forall_not_mem]
    constructor
    · intro h j n hnj
      cases hr : ready n L j
      · rfl
      · exact absurd ((key listed L hl j).2 ⟨n, hnj, hr⟩) (h j)
    · intro h j hj
      obtain ⟨n, hnj, hr⟩ := (key listed L hl j).1 hj
      rw [h j n hnj] at hr; cases hr
  intro fuel
  induction fuel with
  | zero => intro listed L a w hl h; exact ⟨(knil listed L hl).2 h.1, h.2⟩
  | succ fuel ih =>
    intro listed L a w hl h
    refine ⟨fun hr => h.1 ((knil listed L hl).1 hr), fun j hj => ?_⟩
    obtain ⟨n, hnj, hr⟩ := (key listed L hl j).1 hj
    refine wpOp_mono (fun a' w' h' => ih _ _ a' w' (fun k hk => ?_) h'.2) (h.2 j n hnj hr)
    rw [Array.getElem?_setIfInBounds, bit_or]
    by_cases hjk : j = k
    · subst hjk
      have := hl j hk
      have hs : j < listed.size := (Array.getElem?_eq_some_iff.1 this).1
      simp [hs]
    · simp [hjk, hl k hk]

/-- **THE RULE.** -/
theorem wp_region_seq {id : Nat} {a : Act} {w : World} (X : Nat → Prop) (ns : Array Note) (loads : Nat) (pl : List (Nat × Nat)) (hm : P.follows .mixedOrders = true)
    (hn : notesOk .any ops ns = true) (hsel : Region.noSelect ops = true) (hlen : pl.length = ops.size) (hk : (pl.all fun x => (ns[x.1]?.map (·.kind)).getD x.2 == x.2) = true) (hp : planOk ns loads (pl.map (·.1)) 0 = true)
    (hQ : ∀ c (a : Act) d v w, Q (.panic c) (a.put d v) w → Q (.panic c) a w) (h : wpSeq P ops Q X pl a w.drew) : (Code.region id ops true).wp P Q a w := by
  refine wp_region_any hm ?_
  rw [← hlen]
  refine wpAny_of_F hn pl.length _ 0 a _ (fun j hj => ?_) (wpAnyF_of_seq hn hsel hQ pl 0 a w.drew (fun j n _ h0 => by simp at h0) (fun x hx n hxn => ?_) hp h)
  · rw [Array.getElem?_replicate]; simp [hlen, hj]
  · have := List.all_eq_true.1 hk x hx
    simpa [hxn] using this

/-- the world under a name -/
theorem wp_at {c : Code} {a : Act} {w : World} (h : ∀ W, W = w → c.wp P Q a W) : c.wp P Q a w := h w rfl
theorem seq_at {pl : List (Nat × Nat)} {a : Act} {w : World} (h : ∀ W, W = w → wpSeq P ops Q X pl a W) : wpSeq P ops Q X pl a w := h w rfl
theorem Blk.range {w : World} {B : Nat} {T : TypeId} {c : Array Value} (h : Blk w B T c) (off : Nat) (cs : List Value) (hc : ∀ j v, cs[j]? = some v → c[off + j]? = some v) : w.rangeAt B off cs := fun j v hj => (h.cell (off + j)).trans (hc j v hj)
theorem Blk.whole {w : World} {B : Nat} {T : TypeId} {cs : List Value} (h : Blk w B T cs.toArray) : w.rangeAt B 0 cs := h.range 0 cs fun j v hj => by simpa using hj

/-! ### The steps of the walk -/
theorem seq_nil {a : Act} {w : World} (h : Q .normal a w) : wpSeq P ops Q X [] a w := h
theorem seq_calc {i : Nat} {rest : List (Nat × Nat)} {o : Oper} {v : Value} {a : Act} {w : World} (ho : ops[i]? = some o) (hw : Region.wanted o (yielded ops a.tmps) = true)
    (hy : ∀ u, (execOp a.eval o).run P u = .ok (.value v) u) (h : wpSeq P ops Q X rest (a.put o.dst v) w) : wpSeq P ops Q X ((i, 0) :: rest) a w := by
  unfold wpSeq; rw [if_pos rfl]; exact ⟨o, v, ho, .inl ⟨hw, hy⟩, h⟩
theorem seq_skip {i k : Nat} {rest : List (Nat × Nat)} {o : Oper} {a : Act} {w : World} (ho : ops[i]? = some o) (hw : Region.wanted o (yielded ops a.tmps) = false)
    (h : wpSeq P ops Q X rest (a.put o.dst undef) w) : wpSeq P ops Q X ((i, k) :: rest) a w := by
  unfold wpSeq
  split
  · exact ⟨o, undef, ho, .inr ⟨hw, rfl⟩, h⟩
  split
  · exact ⟨o, undef, ho, .inr ⟨hw, rfl⟩, h⟩
  split
  · unfold wpOp; simp only [ho, hw, Bool.false_eq_true, if_false]; exact ⟨Chg.refl _ _, h⟩
  · unfold wpOp; simp only [ho, hw, Bool.false_eq_true, if_false]; exact h
theorem seq_load {i : Nat} {rest : List (Nat × Nat)} {o : Oper} {v : Value} {a : Act} {w : World} (ho : ops[i]? = some o) (hw : Region.wanted o (yielded ops a.tmps) = true)
    (hy : ∀ u, Chg X w u → (execOp a.eval o).run P u = .ok (.value v) u) (h : wpSeq P ops Q X rest (a.put o.dst v) w) : wpSeq P ops Q X ((i, 1) :: rest) a w := by
  unfold wpSeq; rw [if_neg (by decide), if_pos rfl]; exact ⟨o, v, ho, .inl ⟨hw, hy⟩, h⟩
theorem run_load_agg {t : TypeId} {b off : Nat} {cs : List Value} {d : TypeDesc} {w : World} (hu : P.underlying t = some d) (hd : d.isRow = true) (hi : (P.info? t).map (·.size) = some cs.length)
    (hc : w.rangeAt b off cs) : (Instr.loadAt t (.pointer (some ⟨b, off, none⟩))).run P w = .ok (.agg cs.toArray) w := run_loadAt_mid (P := P) w b off t cs d hc hu hd hi
theorem run_load_one {t : TypeId} {p : Addr} {v : Value} {d : TypeDesc} {w : World} (hu : P.underlying t = some d) (hd : d.isRow = false) (hc : w.cell? p = some v) :
    (Instr.loadAt t (.pointer (some p))).run P w = .ok v w := by
  have hag : (isAgg t).run P w = .ok false w := by
    unfold isAgg
    rw [Sem.run_bind, run_underlying hu w]
    cases d <;> simp_all [TypeDesc.isRow]
  simp [Instr.loadAt, Instr.sureAddr, loadVar, Sem.run_bind, hag, Result.andThen, hc]
/-- these cells lie there, one by one -/
def cellsAre (w : World) (b off : Nat) : List Value → Prop
  | [] => True
  | c :: cs => w.cell? ⟨b, off, none⟩ = some c ∧ cellsAre w b (off + 1) cs
theorem cellsAre_range {w : World} {b : Nat} : ∀ {cs : List Value} {off : Nat}, cellsAre w b off cs → w.rangeAt b off cs := by
  intro cs
  induction cs with
  | nil => intro off _ j v h; simp at h
  | cons c cs ih =>
    intro off h j v hj
    cases j with
    | zero => simp at hj; subst hj; exact h.1
    | succ j => have := ih h.2 j v (by simpa using hj); rwa [show off + 1 + j = off + (j + 1) by omega] at this
theorem range_chg {w u : World} {b off : Nat} {cs : List Value} (h : w.rangeAt b off cs) (hu : Chg X w u) (hX : ¬ X b) : u.rangeAt b off cs := fun j v hj => hu.keep (h j v hj) hX
theorem seq_load1 {i : Nat} {rest : List (Nat × Nat)} {o : Oper} {v : Value} {a : Act} {w : World} {t : TypeId} {x : Operand} {p : Addr} {d : TypeDesc} (ho : ops[i]? = some o) (hw : Region.wanted o (yielded ops a.tmps) = true)
    (hop : o.op = .load t x) (hx : a.eval x = .pointer (some p)) (hu : P.underlying t = some d) (hd : d.isRow = false) (hc : w.cell? p = some v) (hX : ¬ X p.block)
    (h : wpSeq P ops Q X rest (a.put o.dst v) w) : wpSeq P ops Q X ((i, 1) :: rest) a w :=
  seq_load ho hw (fun u hc' => by simp [execOp, hop, hx, Sem.run_bind, run_load_one (P := P) hu hd (hc'.keep hc hX), Result.andThen]) h
theorem seq_loads {i : Nat} {rest : List (Nat × Nat)} {o : Oper} (cs : List Value) {a : Act} {w : World} {t : TypeId} {x : Operand} {b off : Nat} {d : TypeDesc} (ho : ops[i]? = some o) (hw : Region.wanted o (yielded ops a.tmps) = true)
    (hop : o.op = .load t x) (hx : a.eval x = .pointer (some ⟨b, off, none⟩)) (hu : P.underlying t = some d) (hd : d.isRow = true) (hi : (P.info? t).map (·.size) = some cs.length) (hc : w.rangeAt b off cs) (hX : ¬ X b)
    (h : wpSeq P ops Q X rest (a.put o.dst (.agg cs.toArray)) w) : wpSeq P ops Q X ((i, 1) :: rest) a w :=
  seq_load ho hw (fun u hc' => by simp [execOp, hop, hx, Sem.run_bind, run_load_agg (P := P) hu hd hi (range_chg hc hc' hX), Result.andThen]) h
theorem seq_do {i : Nat} {rest : List (Nat × Nat)} {o : Oper} {a : Act} {w : World} (ho : ops[i]? = some o) (hw : Region.wanted o (yielded ops a.tmps) = true)
    (h : ∀ K : Act → World → Prop, Hid (∀ a' w', Chg X w w' → wpSeq P ops Q X rest a' w' → K a' w') → o.wp P a w K Q) : wpSeq P ops Q X ((i, 2) :: rest) a w := by
  unfold wpSeq; rw [if_neg (by decide), if_neg (by decide), if_pos rfl]
  unfold wpOp; simp only [ho, hw, if_true]; exact .inl (h _ (fun _ _ h1 h2 => ⟨h1, h2⟩))
theorem seq_last {i : Nat} {rest : List (Nat × Nat)} {o : Oper} {a : Act} {w : World} (ho : ops[i]? = some o) (hw : Region.wanted o (yielded ops a.tmps) = true)
    (h : ∀ K : Act → World → Prop, Hid (∀ a' w', wpSeq P ops Q X rest a' w' → K a' w') → o.wp P a w K Q) : wpSeq P ops Q X ((i, 3) :: rest) a w := by
  unfold wpSeq; rw [if_neg (by decide), if_neg (by decide), if_neg (by decide)]
  unfold wpOp; simp only [ho, hw, if_true]; exact .inl (h _ (fun _ _ h => h))
end
end Go.Proofs.YtcmjddkljmfklaaDoor
