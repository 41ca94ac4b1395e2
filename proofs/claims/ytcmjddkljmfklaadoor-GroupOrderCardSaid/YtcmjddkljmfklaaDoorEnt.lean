/- Lists of entries: rows of three cells each. No condition. -/
import Derived.Test.YtcmjddkljmfklaaDoorGroup
import Derived.Test.YtcmjddkljmfklaaDoorOwn
import Derived.Test.YtcmjddkljmfklaaDoorRangeM
import Derived.Test.YtcmjddkljmfklaaDoorSeqIn
namespace Go.Proofs.YtcmjddkljmfklaaDoor
set_option linter.unusedVariables false
set_option linter.unusedSimpArgs false
open Go.RowKit Go.Proofs

def e3 (e : EntS) : List Value := [.int .u64 e.key, .int .u64 e.val, .int .u64 e.hash]
def entV (l : List EntS) : List Value := l.flatMap e3
theorem entV_nil : entV [] = [] := rfl
theorem entV_append (l k : List EntS) : entV (l ++ k) = entV l ++ entV k := by simp [entV]
theorem entV_snoc (l : List EntS) (e : EntS) : entV (l ++ [e]) = entV l ++ e3 e := by simp [entV]
theorem entV_length (l : List EntS) : (entV l).length = l.length * 3 := by
  induction l with
  | nil => rfl
  | cons a l ih => rw [show entV (a :: l) = e3 a ++ entV l from rfl, List.length_append, ih]; simp [e3]; omega
theorem entV_at (l : List EntS) (i : Nat) (h : i < l.length) (j : Nat) (hj : j < 3) : (entV l)[i * 3 + j]? = (e3 l[i])[j]? := by
  induction l generalizing i with
  | nil => simp at h
  | cons a l ih =>
    rw [show entV (a :: l) = e3 a ++ entV l from rfl]
    have h3 : (e3 a).length = 3 := rfl
    cases i with
    | zero => rw [List.getElem?_append_left (by omega)]; simp
    | succ i =>
      rw [List.getElem?_append_right (by omega), h3, show (i + 1) * 3 + j - 3 = i * 3 + j by omega, ih i (by simpa using h)]
      rfl
/-- the slice value v reads as these entries -/
def ReadsEnts (w : World) (v : Value) (l : List EntS) : Prop :=
  ∃ a cap, v = .slice a l.length cap ∧ (l ≠ [] → ∃ b off, a = some ⟨b, off, none⟩ ∧ b < w.heap.size ∧ ∀ i (h : i < l.length), w.cell? ⟨b, off + i * 3, none⟩ = some (.int .u64 l[i].key) ∧ w.cell? ⟨b, off + i * 3 + 1, none⟩ = some (.int .u64 l[i].val) ∧ w.cell? ⟨b, off + i * 3 + 2, none⟩ = some (.int .u64 l[i].hash))
theorem readsEnts_own {w : World} {base n : Nat} {e : TypeId} {v : Value} {l : List EntS} (h : w.ownsRow base e 3 v n (entV l)) : ReadsEnts w v l := by
  have hl : l.length = n := by have := h.1; rw [entV_length] at this; omega
  rcases h.2 with ⟨rfl, h0⟩ | ⟨g, cap, cur, rfl, hb, hg, h1, h2, h3, h4⟩
  · subst h0
    obtain rfl : l = [] := by simpa using hl
    exact ⟨none, 0, rfl, fun h => absurd rfl h⟩
  · subst hl
    have hc : ∀ i (hi : i < l.length) j, j < 3 → w.cell? ⟨g, i * 3 + j, none⟩ = (e3 l[i])[j]? := by
      intro i hi j hj
      have h5 := h.cells (g := g) rfl (i * 3 + j)
      rw [entV_at l i hi j hj] at h5
      have h6 : (⟨g, 0, none⟩ : Addr).add (i * 3 + j) = ⟨g, i * 3 + j, none⟩ := by
        simp only [Addr.add]; split
        · rename_i e; rw [e]
        · simp
      rw [h6] at h5
      obtain ⟨u, hu⟩ : ∃ u, (e3 l[i])[j]? = some u := ⟨_, List.getElem?_eq_getElem (show j < (e3 l[i]).length from hj)⟩
      rw [hu]; exact h5 u hu
    refine ⟨_, cap, rfl, fun _ => ⟨g, 0, rfl, (Array.getElem?_eq_some_iff.1 hg).1, fun i hi => ?_⟩⟩
    rw [Nat.zero_add]
    exact ⟨hc i hi 0 (by decide), hc i hi 1 (by decide), hc i hi 2 (by decide)⟩
theorem ReadsEnts.later {w w' : World} {v : Value} {l : List EntS} (h : ReadsEnts w v l) (hb : Below w.heap.size w w') : ReadsEnts w' v l := by
  obtain ⟨a, cap, rfl, hx⟩ := h
  refine ⟨a, cap, rfl, fun hne => ?_⟩
  obtain ⟨b, off, rfl, hlt, hc⟩ := hx hne
  exact ⟨b, off, rfl, Nat.lt_of_lt_of_le hlt hb.size, fun i hi => ⟨(hb.cell (p := ⟨b, _, none⟩) hlt).trans (hc i hi).1, (hb.cell (p := ⟨b, _, none⟩) hlt).trans (hc i hi).2.1, (hb.cell (p := ⟨b, _, none⟩) hlt).trans (hc i hi).2.2⟩⟩
theorem cell3_new (w : World) (x y z : Value) (t : TypeId) : ∀ j u, [x, y, z][j]? = some u → (w.alloc (.cells #[x, y, z] t)).cell? ((⟨w.heap.size, 0, none⟩ : Addr).add j) = some u := by
  intro j u hj
  have h6 : (⟨w.heap.size, 0, none⟩ : Addr).add j = ⟨w.heap.size, j, none⟩ := by
    simp only [Addr.add]; split
    · rename_i e; rw [e]
    · simp
  rw [h6, (Blk.new w t _).cell]
  simpa using hj
theorem own_ne {W : World} {n C : Nat} {e : TypeId} {size : Nat} {v : Value} {k : Nat} {xs : List Value} (h : W.ownsRow n e size v k xs) (hC : C < n) : some C ≠ v.ownBlock := by
  rcases h.2 with ⟨rfl, _⟩ | ⟨g, cap, cur, rfl, hb, _⟩
  · simp [Value.ownBlock]
  · simp only [Value.ownBlock]; intro e'; cases e'; omega
theorem wp_append_own2 {P : Program} {w : World} {o : Oper} {a : Act} {K : Act → World → Prop} {Q : Exit → Act → World → Prop} (s x : Operand) (t : TypeId)
    (ho : o.op = .call { callee := .builtin .append, args := #[s, x], argTypes := #[t, t] })
    (base : Nat) (e : TypeId) (i : TypeInfo) (z : Value) (size bytes : Nat) (ht : P.underlying t = some (.slice e)) (hi : P.info? e = some i) (hz : i.zero = some z)
    (hsize : i.size = size) (hby : i.bytes = bytes) (hzs : z.cells.size = size) (hsz : 0 < size)
    (v : Value) (n : Nat) (xs : List Value) (hs : a.eval s = v) (hown : w.ownsRow base e size v n xs)
    (ad : Addr) (m c : Nat) (news : List Value) (hx : a.eval x = .slice (some ad) m c) (hl : news.length = m * size) (hnews : ∀ j u, news[j]? = some u → w.cell? (ad.add j) = some u) (h1 : ∀ u ∈ news, u.oneCell' = true)
    (h63 : n + m ≤ maxLen) (hbytes : (n + m) * bytes ≤ 140737488355328) (hbase : base ≤ w.heap.size) (hm : 0 < m)
    (h : ∀ v' w', w'.ownsRow base e size v' (n + m) (xs ++ news) → w.grownBy w' v.ownBlock → (v'.ownBlock = v.ownBlock ∨ v'.ownBlock = some w.heap.size) → K (a.put o.dst v') w') : o.wp P a w K Q := by
  obtain ⟨v', w', hr, r1, r2, r3⟩ := run_append_own2 (P := P) w base t o.type e i z size bytes ht hi hz hsize hby hzs hsz v n xs hown ad m c news hl hnews h1 h63 hbytes hbase hm
  unfold Oper.wp execOp
  simp only [ho, resolve, invoke, builtin, Sem.run_bind, Sem.run_pure, Result.andThen_ok, List.map_toArray, List.map_cons, List.map_nil, hs, hx, hr]
  exact h v' w' r1 r2 r3
/-- 'Boxed.appended', the rows beyond n₁ -/
theorem appended3 {W w1 : World} {n₀ n₁ B : Nat} {t e : TypeId} {size : Nat} {v v' : Value} {k m : Nat} {xs ys : List Value} {tmp : Obj}
    (hv : Boxed W B t v) (hte : t ≠ e) (hrow : W.ownsRow n₁ e size v k xs) (h01 : n₀ ≤ n₁) (hn₀ : n₀ ≤ W.heap.size) (hB : n₀ ≤ B)
    (hown' : w1.ownsRow n₁ e size v' m ys) (hgrow : (W.alloc tmp).grownBy w1 v.ownBlock) :
    Boxed w1 B t v ∧ Boxed (w1.setCell ⟨B, 0, none⟩ v') B t v' ∧ (w1.setCell ⟨B, 0, none⟩ v').ownsRow n₁ e size v' m ys ∧ KeepsOthers W (w1.setCell ⟨B, 0, none⟩ v') ∧ Below n₀ W (w1.setCell ⟨B, 0, none⟩ v') := by
  obtain ⟨h1, h2, -, h4, h5⟩ := hv.appended hte (ownsRow_base hrow h01) hn₀ hB (ownsRow_base hown' h01) hgrow
  exact ⟨h1, h2, hown'.kept (grownBy_setCell' w1 B v') (.inr (h1.not_row hte hown').symm), h4, h5⟩
theorem infoE : (Tryd.prog.info? 62).map (fun i => (i.zero, i.size, i.bytes)) = some (some (.agg #[.int .u64 0, .int .u64 0, .int .u64 0]), 3, 24) := by kernel_rfl
end Go.Proofs.YtcmjddkljmfklaaDoor
