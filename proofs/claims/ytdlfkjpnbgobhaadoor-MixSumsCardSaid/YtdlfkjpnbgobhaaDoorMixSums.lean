/- The walk of MixSums. Condition: the errors' cells and the table of words. -/
import Derived.Test.YtdlfkjpnbgobhaaDoorMixSpreads
namespace Go.Proofs.YtdlfkjpnbgobhaaDoor
set_option linter.unusedVariables false
set_option linter.unusedSimpArgs false
open Go.RowKit Go.Proofs

theorem topN_half (h d : Nat) (hd : d < 64) : topN h d = topN h (d + 1) / 2 := by
  unfold topN
  rw [Nat.div_div_eq_div_mul, ← Nat.pow_succ, show (64 - (d + 1)).succ = 64 - d by omega]
theorem cntF_half (key : Nat → Nat) (k d : Nat) (hd : d < 64) (m : Nat) : ∀ i, cntF key k d m i = cntF key k (d + 1) m (2 * i) + cntF key k (d + 1) m (2 * i + 1) := by
  induction m with
  | zero => intro i; rfl
  | succ m ih =>
    intro i
    have h := topN_half (mixN k (key m)) d hd
    show (if i = topN (mixN k (key m)) d then cntF key k d m i + 1 else cntF key k d m i) = (if 2 * i = topN (mixN k (key m)) (d + 1) then cntF key k (d + 1) m (2 * i) + 1 else cntF key k (d + 1) m (2 * i)) + (if 2 * i + 1 = topN (mixN k (key m)) (d + 1) then cntF key k (d + 1) m (2 * i + 1) + 1 else cntF key k (d + 1) m (2 * i + 1))
    rw [ih i, h]
    generalize topN (mixN k (key m)) (d + 1) = t
    generalize cntF key k (d + 1) m (2 * i) = a
    generalize cntF key k (d + 1) m (2 * i + 1) = b
    repeat' split
    all_goals omega
/-- the first n numbers' sum -/
def sumF (f : Nat → Nat) : Nat → Nat
  | 0 => 0
  | n + 1 => sumF f n + f n
theorem sumF_upd (f : Nat → Nat) (t n : Nat) : sumF (fun i => if i = t then f i + 1 else f i) n = sumF f n + (if t < n then 1 else 0) := by
  induction n with
  | zero => rfl
  | succ n ih =>
    simp only [sumF, ih]
    by_cases e : n = t
    · subst e; rw [if_pos rfl, if_neg (Nat.lt_irrefl _), if_pos (by omega)]; omega
    · rw [if_neg e]
      by_cases c : t < n
      · rw [if_pos c, if_pos (by omega)]; omega
      · rw [if_neg c, if_neg (by omega)]; omega
theorem cntF_sum (key : Nat → Nat) (k d : Nat) (hd : d ≤ 64) (hkey : ∀ i, key i < 18446744073709551616) (m : Nat) : sumF (cntF key k d m) (2 ^ d) = m := by
  induction m with
  | zero =>
    have : ∀ n, sumF (cntF key k d 0) n = 0 := fun n => by
      induction n with
      | zero => rfl
      | succ n ih => simp only [sumF, ih]; rfl
    exact this _
  | succ m ih =>
    have h : cntF key k d (m + 1) = fun i => if i = topN (mixN k (key m)) d then cntF key k d m i + 1 else cntF key k d m i := rfl
    rw [h, sumF_upd, ih, if_pos (topN_lt (mixN_lt k _ (hkey m)) hd)]
theorem sumF_le (f : Nat → Nat) (i n : Nat) (h : i ≤ n) : sumF f i ≤ sumF f n := by
  induction n with
  | zero => obtain rfl : i = 0 := by omega
            exact Nat.le_refl _
  | succ n ih =>
    by_cases e : i = n + 1
    · subst e; exact Nat.le_refl _
    · exact Nat.le_trans (ih (by omega)) (Nat.le_add_right _ _)
theorem cntF_one (key : Nat → Nat) (d m : Nat) : cntF key 1 d m 0 = m := by
  induction m with
  | zero => rfl
  | succ m ih =>
    show (if 0 = topN (mixN 1 (key m)) d then cntF key 1 d m 0 + 1 else cntF key 1 d m 0) = m + 1
    rw [if_pos (by rw [mixN_1]; unfold topN; simp), ih]
theorem modU8 (x : Int) : ∃ A : Nat, A < 8 ∧ IntKind.i64.wrap ((IntKind.u64.wrap x).tmod 8) = (A : Int) := by
  have h0 : 0 ≤ IntKind.u64.wrap x := by rw [IntKind.wrap_u64]; omega
  rw [Int.tmod_eq_emod_of_nonneg h0]
  generalize IntKind.u64.wrap x = y at *
  exact ⟨(y % 8).toNat, by omega, by rw [IntWalk.i64_in _ (by omega)]; omega⟩
theorem modU6 (x : Int) : ∃ A : Nat, A < 6 ∧ IntKind.i64.wrap ((IntKind.u64.wrap x).tmod 6) = (A : Int) := by
  have h0 : 0 ≤ IntKind.u64.wrap x := by rw [IntKind.wrap_u64]; omega
  rw [Int.tmod_eq_emod_of_nonneg h0]
  generalize IntKind.u64.wrap x = y at *
  exact ⟨(y % 6).toNat, by omega, by rw [IntWalk.i64_in _ (by omega)]; omega⟩
set_option maxRecDepth 100000 in
set_option maxHeartbeats 4000000 in
theorem mixSums_any (k d : Int) (v : Value) (n : Nat) (f : Nat → Nat → Int) (w0 : World) (hW : MixW w0) (h1 : RowsAt w0 v n 1 .u64 f) :
    Calls Tryd.prog 4 #[.int .i64 k, v, .int .i64 d] w0 fun e w' => e = .returned (.bool true) ∧ Below w0.heap.size w0 w' := by
  have m1 := h1.2.2
  unfold maxLen at m1
  obtain ⟨a, cap, key, rfl, hkey, hK⟩ := h1.keys
  have AL := Lib.hid alive29_any
  clear h1
  by_cases g1 : 100 < n
  · have g1' : (100 : Int) < (n : Int) := by omega
    clear hW hK
    go_enter Tryd.func4, Tryd.ntmps4
    go_wp2_with (go_at_call 31; refine (AL.out _).mono ?_; rintro e w' ⟨rfl, rfl⟩)
    go_ret
    exact ⟨rfl, Below.refl _ _⟩
  have g1' : (n : Int) ≤ 100 := by omega
  obtain ⟨D, hD, eD⟩ := modU8 d
  obtain ⟨K, hK6, eK⟩ := modU6 k
  have hp : 2 ^ (D + 1) = 2 * 2 ^ D := by rw [Nat.pow_succ]; omega
  have S1 := spread_ok K D n a cap key (by omega) (by omega) (by omega) hkey w0 hW hK
  have S2 := fun w h h' => spread_ok K (D + 1) n a cap key (by omega) (by omega) (by omega) hkey w h h'
  unfold GivesC at S1 S2
  rw [hp] at S2
  have HK := Lib.hid hK
  have HW := Lib.hid hW
  have HF := cntF_half key K D (by omega) n
  have SM := cntF_sum key K D (by omega) hkey n
  have CL := cntF_le key K D n
  have CL2 := cntF_le key K (D + 1) n
  have ONE := Lib.hid (fun (h : K = 1) => (show cntF key K D n 0 = n by subst h; exact cntF_one key D n))
  have hs := pow_wrap D (by omega)
  have hs2 := pow_wrapI D (by omega)
  have hshift : ∀ w : World, (Op.shift .shl .i64 1 .i64 (D : Int)).run Tryd.prog w = .ok (.int .i64 ((2 ^ D : Nat) : Int)) w := fun w => by
    have := shl_i64 (P := Tryd.prog) (w := w) 1 D .i64 (by omega) (by have := pow_le16 (d := D) (by omega); omega)
    simpa using this
  have hy : 1 ≤ 2 ^ D ∧ 2 ^ D ≤ 128 := ⟨Nat.one_le_two_pow, Nat.pow_le_pow_right (n := 2) (by decide) (show D ≤ 7 by omega)⟩
  obtain ⟨hy1, hy2⟩ := hy
  obtain ⟨cA, hcA⟩ : ∃ c, c = cntF key K D n := ⟨_, rfl⟩
  obtain ⟨cB, hcB⟩ : ∃ c, c = cntF key K (D + 1) n := ⟨_, rfl⟩
  rw [← hcA] at S1 HF SM CL ONE
  rw [← hcB] at S2 HF CL2
  generalize 2 ^ D = y at *
  replace S1 := Lib.hid S1
  replace S2 := Lib.hid S2
  replace HF := Lib.hid HF
  replace SM := Lib.hid SM
  replace CL := Lib.hid CL
  replace CL2 := Lib.hid CL2
  clear hp hcA hcB hW hK hkey
  have z1 : ((2 * (y : Int)) != (2 * (y : Int))) = false := by simp
  have z2 : ((y : Int) != (y : Int)) = false := by simp
  go_enter Tryd.func4, Tryd.ntmps4
  go_wp2_with (first
    | (go_at_call 31; refine (AL.out _).mono ?_; rintro e w' ⟨rfl, rfl⟩)
    | (go_at_call 32; with_reducible refine S1.out.mono ?_; rintro e w1 ⟨R1, rfl, hr1, hR1, hb1⟩; have HR1 := Lib.hid hr1; clear hr1)
    | (go_at_call 32; refine (S2.out _ (HW.out.below hb1) (HK.out.below hb1)).mono ?_; rintro e w2 ⟨R2, rfl, hr2, hR2, hb2⟩; have H1 := Lib.hid (HR1.out.below hb2 HR1.out.lt); have H2 := Lib.hid hr2; have hb3 := hb1.trans (hb2.mono hb1.size); clear hr2))
  go_loopw [13, 14, 15, 67] (fun v13 _ _ v67 wr => ∃ i : Nat, i ≤ y ∧ v67 = .int .i64 (i : Int) ∧ v13 = .int .i64 ((sumF cA i : Nat) : Int) ∧ Blk wr R1 3 (arrF y cA) ∧ Blk wr R2 3 (arrF (2 * y) cB) ∧ Below w0.heap.size w0 wr) (fun _ _ _ v67 _ => y - (intOf v67).toNat)
  case atStart => exact ⟨0, Nat.zero_le _, rfl, rfl, H1.out, H2.out, hb3⟩
  case round =>
    clear H1 H2 hb3
    obtain ⟨i, hi, rfl, rfl, h1, h2, hB⟩ := hrel
    by_cases hlt : i < y
    · have c1 := h1.cell i
      have c2 := h2.cell (2 * i)
      have c3 := h2.cell (2 * i + 1)
      rw [arrF_get _ _ _ (by omega)] at c1 c2 c3
      have hf := HF.out i
      have cl := CL.out i
      have cl2 := CL2.out (2 * i)
      have cl3 := CL2.out (2 * i + 1)
      have sl := sumF_le cA (i + 1) y hlt
      rw [SM.out] at sl
      have sl' : sumF cA i + cA i ≤ n := sl
      have HN := Lib.hid (show sumF cA (i + 1) = sumF cA i + cA i from rfl)
      have H1 := Lib.hid h1
      have H2 := Lib.hid h2
      clear h1 h2 sl
      rw [hf] at c1 cl sl' HN
      generalize cB (2 * i) = p at *
      generalize cB (2 * i + 1) = q at *
      generalize sumF cA i = u at *
      have z3 : (((p + q : Nat) : Int) != (p : Int) + (q : Int)) = false := by simp
      have hpq : ((p + q : Nat) : Int) = (p : Int) + (q : Int) := by omega
      have hi2 : 2 * (i : Int) + 1 < 2 * (y : Int) := by omega
      have hi3 : 2 * (i : Int) < 2 * (y : Int) := by omega
      have w0' : (0 : Int) ≤ 2 * (i : Int) := by omega
      have w1' : (0 : Int) ≤ 2 * (i : Int) + 1 := by omega
      have w2' : IntKind.i64.wrap (2 * (i : Int)) = 2 * (i : Int) := IntWalk.i64_in _ (by omega)
      have w3' : IntKind.i64.wrap (2 * (i : Int) + 1) = 2 * (i : Int) + 1 := IntWalk.i64_in _ (by omega)
      have w4' : (2 * (i : Int)).toNat = 2 * i := by omega
      have w5' : (2 * (i : Int) + 1).toNat = 2 * i + 1 := by omega
      have w6' : IntKind.i64.wrap ((p : Int) + (q : Int)) = (p : Int) + (q : Int) := IntWalk.i64_in _ (by omega)
      clear hf
      go_wp2
      refine wp_region_seq (fun _ => False) #[⟨0, 0, 4722366482869645213696, 32768, 0⟩, ⟨0, 0, 9444732965739290427392, 2048, 0⟩, ⟨0, 0, 18889465931478580854784, 16384, 0⟩, ⟨4, 4, 37778931862957161709568, 18889465931478580854784, 0⟩, ⟨10, 14, 75557863725914323419136, 47223664828696452136960, 0⟩, ⟨16, 30, 151115727451828646838272, 75557863725914323419136, 1⟩, ⟨0, 0, 302231454903657293676544, 2048, 0⟩, ⟨0, 0, 604462909807314587353088, 16384, 0⟩, ⟨128, 128, 1208925819614629174706176, 604462909807314587353088, 0⟩, ⟨256, 384, 2417851639229258349412352, 1208925819614629174706176, 0⟩, ⟨576, 960, 4835703278458516698824704, 2720083094132915643088896, 0⟩, ⟨1024, 1984, 9671406556917033397649408, 4835703278458516698824704, 1⟩, ⟨2080, 4094, 19342813113834066795298816, 9822522284368862044487680, 0⟩, ⟨4097, 8191, 38685626227668133590597632, 19347535480316936440512512, 0⟩] 2080 [(0, 0), (1, 0), (2, 0), (3, 0), (4, 0), (5, 1), (6, 0), (7, 0), (8, 0), (9, 0), (10, 0), (11, 1), (12, 0), (13, 0)] (by kernel_rfl) (by kernel_rfl) (by kernel_rfl) (by kernel_rfl) (by kernel_rfl) (by kernel_rfl) (fun c a d v w h => by cases d <;> exact h) ?_
      refine seq_calc (by simp only [List.getElem?_toArray, List.getElem?_cons_succ, List.getElem?_cons_zero]; rfl) (by rfl) (fun u => by go_simp <;> with_reducible rfl) ?_
      try simp only [Act.put, List.setIfInBounds_toArray, List.set_cons_zero, List.set_cons_succ]
      refine seq_calc (by simp only [List.getElem?_toArray, List.getElem?_cons_succ, List.getElem?_cons_zero]; rfl) (by rfl) (fun u => by go_simp <;> with_reducible rfl) ?_
      try simp only [Act.put, List.setIfInBounds_toArray, List.set_cons_zero, List.set_cons_succ]
      refine seq_calc (by simp only [List.getElem?_toArray, List.getElem?_cons_succ, List.getElem?_cons_zero]; rfl) (by rfl) (fun u => by go_simp <;> with_reducible rfl) ?_
      try simp only [Act.put, List.setIfInBounds_toArray, List.set_cons_zero, List.set_cons_succ]
      refine seq_calc (by simp only [List.getElem?_toArray, List.getElem?_cons_succ, List.getElem?_cons_zero]; rfl) (by rfl) (fun u => by go_simp <;> with_reducible rfl) ?_
      try simp only [Act.put, List.setIfInBounds_toArray, List.set_cons_zero, List.set_cons_succ]
      refine seq_calc (by simp only [List.getElem?_toArray, List.getElem?_cons_succ, List.getElem?_cons_zero]; rfl) (by rfl) (fun u => by go_simp <;> with_reducible rfl) ?_
      try simp only [Act.put, List.setIfInBounds_toArray, List.set_cons_zero, List.set_cons_succ]
      refine seq_load1 (by simp only [List.getElem?_toArray, List.getElem?_cons_succ, List.getElem?_cons_zero]; rfl) (by rfl) rfl rfl Tryd.underlying3 rfl (by go_simp <;> with_reducible rfl) (by first | exact id | assumption | (simp; done) | (simp; omega)) ?_
      try simp only [Act.put, List.setIfInBounds_toArray, List.set_cons_zero, List.set_cons_succ]
      refine seq_calc (by simp only [List.getElem?_toArray, List.getElem?_cons_succ, List.getElem?_cons_zero]; rfl) (by rfl) (fun u => by go_simp <;> with_reducible rfl) ?_
      try simp only [Act.put, List.setIfInBounds_toArray, List.set_cons_zero, List.set_cons_succ]
      refine seq_calc (by simp only [List.getElem?_toArray, List.getElem?_cons_succ, List.getElem?_cons_zero]; rfl) (by rfl) (fun u => by go_simp <;> with_reducible rfl) ?_
      try simp only [Act.put, List.setIfInBounds_toArray, List.set_cons_zero, List.set_cons_succ]
      refine seq_calc (by simp only [List.getElem?_toArray, List.getElem?_cons_succ, List.getElem?_cons_zero]; rfl) (by rfl) (fun u => by go_simp <;> with_reducible rfl) ?_
      try simp only [Act.put, List.setIfInBounds_toArray, List.set_cons_zero, List.set_cons_succ]
      refine seq_calc (by simp only [List.getElem?_toArray, List.getElem?_cons_succ, List.getElem?_cons_zero]; rfl) (by rfl) (fun u => by go_simp <;> with_reducible rfl) ?_
      try simp only [Act.put, List.setIfInBounds_toArray, List.set_cons_zero, List.set_cons_succ]
      refine seq_calc (by simp only [List.getElem?_toArray, List.getElem?_cons_succ, List.getElem?_cons_zero]; rfl) (by rfl) (fun u => by go_simp <;> with_reducible rfl) ?_
      try simp only [Act.put, List.setIfInBounds_toArray, List.set_cons_zero, List.set_cons_succ]
      refine seq_load1 (by simp only [List.getElem?_toArray, List.getElem?_cons_succ, List.getElem?_cons_zero]; rfl) (by rfl) rfl rfl Tryd.underlying3 rfl (by go_simp <;> with_reducible rfl) (by first | exact id | assumption | (simp; done) | (simp; omega)) ?_
      try simp only [Act.put, List.setIfInBounds_toArray, List.set_cons_zero, List.set_cons_succ]
      refine seq_calc (by simp only [List.getElem?_toArray, List.getElem?_cons_succ, List.getElem?_cons_zero]; rfl) (by rfl) (fun u => by go_simp <;> with_reducible rfl) ?_
      try simp only [Act.put, List.setIfInBounds_toArray, List.set_cons_zero, List.set_cons_succ]
      refine seq_calc (by simp only [List.getElem?_toArray, List.getElem?_cons_succ, List.getElem?_cons_zero]; rfl) (by rfl) (fun u => by go_simp <;> with_reducible rfl) ?_
      try simp only [Act.put, List.setIfInBounds_toArray, List.set_cons_zero, List.set_cons_succ]
      refine seq_nil ?_
      go_wp2
      go_roundw
      case rel => exact ⟨i + 1, by omega, by go_num, by rw [HN.out]; go_num, H1.out, H2.out, hB.drew⟩
      case measure => simp [intOf]; omega
    · obtain rfl : i = y := by omega
      rw [SM.out]
      have nn : ((n : Int) == (n : Int)) = true := by simp
      have c1 := h1.cell 0
      rw [arrF_get _ _ _ (by omega)] at c1
      clear h1 h2
      by_cases hK1 : K = 1
      · subst hK1
        rw [ONE.out rfl] at c1
        go_wp2
        go_ret
        exact ⟨rfl, hB⟩
      · have k1 : ((K : Int) != 1) = true := by simp; omega
        have k2 : (K != 1) = true := by simpa using hK1
        go_wp2
        go_ret
        exact ⟨rfl, hB⟩
end Go.Proofs.YtdlfkjpnbgobhaaDoor
