/- The walk of MixTells. Conditions: the errors' cells and the table of words. -/
import Derived.Test.YtplimhllfbdocaaDoorMixSpreads
namespace Go.Proofs.YtplimhllfbdocaaDoor
set_option linter.unusedVariables false
set_option linter.unusedSimpArgs false
open Go.RowKit Go.Proofs

/-- a word -/
def wordB (k : Nat) : ByteArray := ⟨(wordL k).toArray⟩
/-- two texts are alike -/
def eqS (a b : ByteArray) : Bool := a.toList == b.toList
theorem eqS_iff (a b : ByteArray) : eqS a b = true ↔ a = b := by
  unfold eqS; rw [ByteArray.toList_eq, ByteArray.toList_eq]; obtain ⟨⟨x⟩⟩ := a; obtain ⟨⟨y⟩⟩ := b; simp
theorem eqS_comm (a b : ByteArray) : eqS a b = eqS b a := by
  rw [Bool.eq_iff_iff, eqS_iff, eqS_iff]; exact eq_comm
theorem run_eqS (t : TypeId) (a b : ByteArray) : binOp .eql t (.string a) (.string b) = pure (.bool (eqS a b)) := binOp_string_eql t a b
theorem wordB_inj {i j : Nat} (hi : i < 6) (hj : j < 6) (h : wordB i = wordB j) : i = j := by
  have key : ∀ i j : Fin 6, wordL i.val = wordL j.val → i = j := by decide
  have h1 : (wordL i).toArray = (wordL j).toArray := by unfold wordB at h; injection h
  have h2 : wordL i = wordL j := by have := congrArg Array.toList h1; simpa using this
  have := key ⟨i, hi⟩ ⟨j, hj⟩ h2
  simpa using this
/-- where the words lie: the sixth: nowhere -/
def Hit (s : ByteArray) (H : Nat) : Prop := H ≤ 6 ∧ ∀ i, i < 6 → eqS (wordB i) s = decide (i = H)
theorem hit_ex (s : ByteArray) : ∃ H, Hit s H := by
  by_cases h : ∃ i, i < 6 ∧ wordB i = s
  · obtain ⟨i, hi, rfl⟩ := h
    refine ⟨i, by omega, fun j hj => ?_⟩
    rw [Bool.eq_iff_iff, eqS_iff, decide_eq_true_iff]
    exact ⟨fun e => wordB_inj hj hi e, fun e => by rw [e]⟩
  · refine ⟨6, Nat.le_refl _, fun j hj => ?_⟩
    rw [Bool.eq_iff_iff, eqS_iff, decide_eq_true_iff]
    exact ⟨fun e => (h ⟨j, hj, e⟩).elim, fun e => by omega⟩
def kindZ (H : Nat) : Int := if H < 6 then H else -1
def txtB (K k : Nat) : ByteArray := if K < k then wordB K else ⟨#[]⟩
def atZ (H k : Nat) : Int := if H < k then H else 0
def worseZ (H k : Nat) : Int := if H < k then 0 else 15
theorem txtB_hit (K : Nat) : txtB K (K + 1) = wordB K := if_pos (by omega)
theorem txtB_miss {K k : Nat} (h : k ≠ K) : txtB K (k + 1) = txtB K k := by unfold txtB; by_cases c : K < k; rw [if_pos (by omega), if_pos c]; rw [if_neg (by omega), if_neg c]
theorem atZ_hit (K : Nat) : atZ K (K + 1) = K := if_pos (by omega)
theorem atZ_miss {K k : Nat} (h : k ≠ K) : atZ K (k + 1) = atZ K k := by unfold atZ; by_cases c : K < k; rw [if_pos (by omega), if_pos c]; rw [if_neg (by omega), if_neg c]
theorem worseZ_hit (K : Nat) : worseZ K (K + 1) = 0 := if_pos (by omega)
theorem worseZ_miss {K k : Nat} (h : k ≠ K) : worseZ K (k + 1) = worseZ K k := by unfold worseZ; by_cases c : K < k; rw [if_pos (by omega), if_pos c]; rw [if_neg (by omega), if_neg c]

attribute [local go_sem high] run_eqS
set_option maxHeartbeats 1000000 in
theorem index_any (s : ByteArray) (H : Nat) (hH : Hit s H) (w : World) (hW : MixW w) :
    Calls Tryd.prog 104 #[.slice (some ⟨1, 0, none⟩) 6 6, .string s] w fun e w' => e = .returned (.int .i64 (kindZ H)) ∧ w = w' := by
  obtain ⟨hH6, hH⟩ := hH
  have HH := Lib.hid hH
  have HW := Lib.hid hW
  clear hH hW
  go_enter Tryd.func104, Tryd.ntmps104
  go_wp2
  go_loop [8, 5] (fun v8 _ => ∃ k : Nat, k ≤ 6 ∧ k ≤ H ∧ v8 = .int .i64 (k : Int)) (fun v8 _ => 6 - (intOf v8).toNat)
  case atStart => exact ⟨0, by omega, by omega, rfl⟩
  case round =>
    obtain ⟨k, hk, hkH, rfl⟩ := hrel
    by_cases hlt : k < 6
    · have hc := HW.out k hlt
      rw [show (⟨(wordL k).toArray⟩ : ByteArray) = wordB k from rfl] at hc
      have he := HH.out k hlt
      rw [eqS_comm] at he
      by_cases e : k = H
      · have hz : kindZ H = (k : Int) := by unfold kindZ; rw [if_pos (by omega), e]
        rw [decide_eq_true e] at he
        have HZ := Lib.hid hz
        clear hz e
        go_wp2
        go_ret
        exact ⟨by rw [HZ.out]; rfl, rfl⟩
      · rw [decide_eq_false e] at he
        have e' : k + 1 ≤ H := by omega
        clear e
        go_wp2
        go_round
        case rel => exact ⟨k + 1, by omega, by omega, by go_num⟩
        case measure => simp [intOf]; omega
    · have hz : kindZ H = -1 := by unfold kindZ; rw [if_neg (by omega)]
      have HZ := Lib.hid hz
      clear hz
      go_wp2
      go_ret
      exact ⟨by rw [HZ.out]; rfl, rfl⟩

set_option maxHeartbeats 1000000 in
theorem kind_hit (s : ByteArray) (H : Nat) (hH : Hit s H) (h6 : H < 6) (w : World) (hW : MixW w) :
    Calls Tryd.prog 19 #[.string s] w fun e w' => e = .returned (.tuple #[.int .i64 (H : Int), .nilIface]) ∧ w = w' := by
  have IX := index_any s H hH w hW
  rw [show kindZ H = (H : Int) from if_pos h6] at IX
  replace IX := Lib.hid IX
  have hd : decide ((H : Int) < 0) = false := by simp
  clear hH hW h6
  go_enter Tryd.func19, Tryd.ntmps19
  go_wp2_with (go_at_call 104; refine IX.out.mono ?_; rintro e w' ⟨rfl, rfl⟩)
  go_ret2
  exact ⟨rfl, rfl⟩
set_option maxHeartbeats 1000000 in
theorem kind_miss (s : ByteArray) (hH : Hit s 6) (w : World) (hW : MixW w) (E : Nat → Addr) (he : EC w E [15]) :
    Calls Tryd.prog 19 #[.string s] w fun e w' => e = .returned (.tuple #[.int .i64 0, errAt E 15]) ∧ Below w.heap.size w w' := by
  have hc : w.cell? ⟨2, 0, none⟩ = some (errAt E 15) := he 15 (by decide)
  have IX := index_any s 6 hH w hW
  rw [show kindZ 6 = -1 from rfl] at IX
  replace IX := Lib.hid IX
  unfold errAt at *
  clear hH hW he
  go_enter Tryd.func19, Tryd.ntmps19
  go_wp2_with (go_at_call 104; refine IX.out.mono ?_; rintro e w' ⟨rfl, rfl⟩)
  refine wp_region_seq (fun _ => False) #[⟨0, 0, 1024, 0, 1⟩, ⟨0, 0, 4, 0, 0⟩, ⟨3, 3, 8, 1024, 0⟩] 1 [(0, 1), (1, 0), (2, 0)] (by kernel_rfl) (by kernel_rfl) (by kernel_rfl) (by kernel_rfl) (by kernel_rfl) (by kernel_rfl) (fun c a d v w h => by cases d <;> exact h) ?_
  refine seq_load1 (by simp only [List.getElem?_toArray, List.getElem?_cons_succ, List.getElem?_cons_zero]; rfl) (by rfl) rfl rfl Tryd.underlying25 rfl (by go_simp <;> with_reducible rfl) (by first | exact id | assumption | (simp; done) | (simp; omega)) ?_
  try simp only [Act.put, List.setIfInBounds_toArray, List.set_cons_zero, List.set_cons_succ]
  refine seq_calc (by simp only [List.getElem?_toArray, List.getElem?_cons_succ, List.getElem?_cons_zero]; rfl) (by rfl) (fun u => by go_simp <;> with_reducible rfl) ?_
  try simp only [Act.put, List.setIfInBounds_toArray, List.set_cons_zero, List.set_cons_succ]
  refine seq_calc (by simp only [List.getElem?_toArray, List.getElem?_cons_succ, List.getElem?_cons_zero]; rfl) (by rfl) (fun u => by go_simp <;> with_reducible rfl) ?_
  try simp only [Act.put, List.setIfInBounds_toArray, List.set_cons_zero, List.set_cons_succ]
  refine seq_nil ?_
  go_wp2
  go_ret2
  exact ⟨rfl, by go_grown⟩
/-- all words in a row -/
def wordsA : Array Value := #[.string (wordB 0), .string (wordB 1), .string (wordB 2), .string (wordB 3), .string (wordB 4), .string (wordB 5)]
theorem wordsA_get {i : Nat} (h : i < 6) : wordsA[i]? = some (.string (wordB i)) := by
  match i, h with
  | 0, _ => rfl
  | 1, _ => rfl
  | 2, _ => rfl
  | 3, _ => rfl
  | 4, _ => rfl
  | 5, _ => rfl
set_option maxHeartbeats 1000000 in
theorem words_any (w : World) :
    Calls Tryd.prog 18 #[] w fun e w' => ∃ R, e = .returned (.slice (some ⟨R, 0, none⟩) 6 6) ∧ Blk w' R 9 wordsA ∧ Below w.heap.size w w' := by
  go_enter Tryd.func18, Tryd.ntmps18
  go_wp2
  go_ret
  exact ⟨w.heap.size, rfl, Blk.new _ _ _, by go_grown⟩

/-- a number that names a word, or none: its Nat -/
theorem kind_ex (k : Int) : ∃ K : Nat, (K ≤ 6) ∧ (K < 6 → k = (K : Int)) ∧ (K = 6 → k < 0 ∨ 5 < k) ∧ ∀ i : Nat, i < 6 → ((i : Int) == k) = decide (i = K) := by
  by_cases h : 0 ≤ k ∧ k ≤ 5
  · refine ⟨k.toNat, by omega, fun _ => by omega, fun _ => by omega, fun i hi => ?_⟩
    rw [Bool.eq_iff_iff, decide_eq_true_iff, beq_iff_eq]; omega
  · refine ⟨6, by omega, fun _ => by omega, fun _ => by omega, fun i hi => ?_⟩
    rw [Bool.eq_iff_iff, decide_eq_true_iff, beq_iff_eq]; omega

/-- what a function of two results gives in each later world -/
def Gives2 (w0 : World) (f : Nat) (args : Array Value) (a b : Value) : Prop := ∀ w, Below w0.heap.size w0 w → Calls Tryd.prog f args w fun e w' => e = .returned (.tuple #[a, b]) ∧ Below w.heap.size w w'
def Gives1 (w0 : World) (f : Nat) (args : Array Value) (a : Value) : Prop := ∀ w, Below w0.heap.size w0 w → Calls Tryd.prog f args w fun e w' => e = .returned a ∧ Below w.heap.size w w'
theorem Gives2.of_same {w0 : World} {f : Nat} {args : Array Value} {a b : Value} (h : ∀ w, Below w0.heap.size w0 w → Calls Tryd.prog f args w fun e w' => e = .returned (.tuple #[a, b]) ∧ w = w') : Gives2 w0 f args a b :=
  fun w hb => (h w hb).mono (by rintro e w' ⟨rfl, rfl⟩; exact ⟨rfl, Below.refl _ _⟩)
theorem Gives1.of_same {w0 : World} {f : Nat} {args : Array Value} {a : Value} (h : ∀ w, Below w0.heap.size w0 w → Calls Tryd.prog f args w fun e w' => e = .returned a ∧ w = w') : Gives1 w0 f args a :=
  fun w hb => (h w hb).mono (by rintro e w' ⟨rfl, rfl⟩; exact ⟨rfl, Below.refl _ _⟩)
set_option maxRecDepth 100000 in
set_option maxHeartbeats 4000000 in
theorem mixTells_go (k : Int) (x : Nat) (s : ByteArray) (K H : Nat) (ev ev2 : Value) (y p : Int) (w0 : World) (hK : K ≤ 6) (hk : ∀ i : Nat, i < 6 → ((i : Int) == k) = decide (i = K)) (hH : Hit s H)
    (OF : Gives2 w0 16 #[.int .i64 k, .int .u64 (x : Int)] (.int .u64 y) ev) (RO : Gives2 w0 17 #[.int .i64 k, .int .u64 (x : Int)] (.int .u64 y) (.int .i64 p))
    (NU : Gives1 w0 20 #[ev] (.int .i64 p)) (WD : Gives1 w0 21 #[.int .i64 k] (.string (txtB K 6)))
    (KD : Gives2 w0 19 #[.string s] (.int .i64 (atZ H 6)) ev2) (NU2 : Gives1 w0 20 #[ev2] (.int .i64 (worseZ H 6))) :
    Calls Tryd.prog 3 #[.int .i64 k, .int .u64 (x : Int), .string s] w0 fun e w' => e = .returned (.bool true) ∧ Below w0.heap.size w0 w' := by
  have hHH := Lib.hid hH.2
  have hKK := Lib.hid hk
  have e1 : (y == y) = true := by simp
  have e2 : (p == p) = true := by simp
  have e3 : eqS (txtB K 6) (txtB K 6) = true := (eqS_iff _ _).mpr rfl
  unfold Gives2 at OF RO KD
  unfold Gives1 at NU WD NU2
  replace OF := Lib.hid OF
  replace RO := Lib.hid RO
  replace NU := Lib.hid NU
  replace WD := Lib.hid WD
  replace KD := Lib.hid KD
  replace NU2 := Lib.hid NU2
  clear hk hH
  have T0 := Lib.hid (show txtB K 0 = ⟨#[]⟩ from if_neg (by omega))
  have A0 := Lib.hid (show atZ H 0 = 0 from if_neg (by omega))
  have W0 := Lib.hid (show worseZ H 0 = 15 from if_neg (by omega))
  go_enter Tryd.func3, Tryd.ntmps3
  go_wp2_with (first
    | (go_at_call 15; refine (alive29_any _).mono ?_; rintro e w' ⟨rfl, rfl⟩)
    | (go_at_call 16; with_reducible refine (OF.out _ (Below.refl _ _)).mono ?_; rintro e w1 ⟨rfl, hb1⟩)
    | (go_at_call 17; with_reducible refine (RO.out _ hb1).mono ?_; rintro e w2 ⟨rfl, hb2⟩; have hb3 := hb1.trans (hb2.mono hb1.size))
    | (go_at_call 18; refine (words_any _).mono ?_; rintro e w4 ⟨R, rfl, hR, hb4⟩; have hb5 := hb3.trans (hb4.mono hb3.size); replace hR := Lib.hid hR))
  go_loop [34, 11, 12, 13, 14, 15] (fun v34 v11 v12 v13 _ _ => ∃ i : Nat, i ≤ 6 ∧ v34 = .int .i64 (i : Int) ∧ v11 = .string (txtB K i) ∧ v12 = .int .i64 (atZ H i) ∧ v13 = .int .i64 (worseZ H i)) (fun v34 _ _ _ _ _ => 6 - (intOf v34).toNat)
  case atStart => exact ⟨0, by omega, rfl, by rw [T0.out], by rw [A0.out], by rw [W0.out]⟩
  case round =>
    obtain ⟨i, hi, rfl, rfl, rfl, rfl⟩ := hrel
    by_cases hlt : i < 6
    · have hc := hR.out.cell i
      rw [wordsA_get hlt] at hc
      have q1 := hKK.out i hlt
      have q2 := hHH.out i hlt
      by_cases g1 : i = K <;> by_cases g2 : i = H
      all_goals
        first | rw [decide_eq_true g1] at q1 | rw [decide_eq_false g1] at q1
        first | rw [decide_eq_true g2] at q2 | rw [decide_eq_false g2] at q2
        have G1 := Lib.hid g1
        have G2 := Lib.hid g2
        clear g1 g2
        go_wp2
        go_round
        case rel =>
          refine ⟨i + 1, by omega, by go_num, ?_, ?_, ?_⟩
          · first | (rw [txtB_miss G1.out]; done) | (have := G1.out; subst this; rw [txtB_hit]; done)
          · first | (rw [atZ_miss G2.out]; done) | (have := G2.out; subst this; rw [atZ_hit]; done)
          · first | (rw [worseZ_miss G2.out]; done) | (have := G2.out; subst this; rw [worseZ_hit]; done)
        case measure => simp [intOf]; omega
    · obtain rfl : i = 6 := by omega
      clear hlt hi
      generalize txtB K 6 = tt at *
      generalize atZ H 6 = aa at *
      generalize worseZ H 6 = ww at *
      have e4 : (aa == aa) = true := by simp
      have e5 : (ww == ww) = true := by simp
      go_wp2_with (first
        | (go_at_call 19; with_reducible refine (KD.out _ hb5).mono ?_; rintro e w6 ⟨rfl, hb6⟩; have hb7 := hb5.trans (hb6.mono hb5.size))
        | (go_at_call 20; with_reducible refine (NU.out _ hb7).mono ?_; rintro e w8 ⟨rfl, hb8⟩; have hb9 := hb7.trans (hb8.mono hb7.size))
        | (go_at_call 21; with_reducible refine (WD.out _ hb9).mono ?_; rintro e w10 ⟨rfl, hb10⟩; have hb11 := hb9.trans (hb10.mono hb9.size))
        | (go_at_call 20; with_reducible refine (NU2.out _ hb11).mono ?_; rintro e w12 ⟨rfl, hb12⟩; have hb13 := hb11.trans (hb12.mono hb11.size)))
      go_ret
      exact ⟨rfl, hb13⟩
theorem mixTells_any (k : Int) (x : Nat) (hx : x < 18446744073709551616) (s : ByteArray) (E : Nat → Addr) (w0 : World) (he : ErrsAre w0 E) (hW : MixW w0) :
    Calls Tryd.prog 3 #[.int .i64 k, .int .u64 (x : Int), .string s] w0 fun e w' => e = .returned (.bool true) ∧ Below w0.heap.size w0 w' := by
  obtain ⟨H, hH⟩ := hit_ex s
  obtain ⟨K, hK, hK1, hK2, hk⟩ := kind_ex k
  have nun : Gives1 w0 20 #[.nilIface] (.int .i64 0) := Gives1.of_same fun w _ => num_nil w
  have nue : ∀ q : Nat, 1 ≤ q → q ≤ 16 → Gives1 w0 20 #[errAt E q] (.int .i64 (q : Int)) := fun q h1 h2 w hb => (num_err w E (he.below hb) q h1 h2).mono (by rintro e w' ⟨rfl, rfl⟩; exact ⟨rfl, by go_grown⟩)
  have kd : ∃ ev2, Gives2 w0 19 #[.string s] (.int .i64 (atZ H 6)) ev2 ∧ Gives1 w0 20 #[ev2] (.int .i64 (worseZ H 6)) := by
    by_cases h6 : H < 6
    · refine ⟨.nilIface, Gives2.of_same fun w hb => ?_, ?_⟩
      · rw [show atZ H 6 = (H : Int) from if_pos h6]; exact kind_hit s H hH h6 w (hW.below hb)
      · rw [show worseZ H 6 = 0 from if_pos h6]; exact nun
    · obtain rfl : H = 6 := by have := hH.1; omega
      refine ⟨errAt E 15, fun w hb => ?_, ?_⟩
      · exact kind_miss s hH w (hW.below hb) E ((he.below hb).ec.sub (by decide))
      · exact nue 15 (by decide) (by decide)
  obtain ⟨ev2, kd1, kd2⟩ := kd
  by_cases h6 : K < 6
  · obtain rfl := hK1 h6
    exact mixTells_go _ x s K H .nilIface ev2 ((mixN K x : Nat) : Int) 0 w0 hK hk hH (Gives2.of_same fun w _ => of_ok K x (by omega) hx w) (fun w _ => rofm_ok K x (by omega) hx w) nun
      (Gives1.of_same fun w hb => by rw [show txtB K 6 = ⟨(wordL K).toArray⟩ from if_pos h6]; exact mixWord_ok K (by omega) w (hW.below hb)) kd1 kd2
  · obtain rfl : K = 6 := by omega
    have hb := hK2 rfl
    exact mixTells_go _ x s 6 H (errAt E 14) ev2 0 14 w0 hK hk hH (fun w hw => of_bad k x hb E w ((he.below hw).ec.sub (by decide))) (Gives2.of_same fun w _ => rofm_bad k x hb w) (nue 14 (by decide) (by decide))
      (Gives1.of_same fun w _ => mixWord_bad k hb w) kd1 kd2
end Go.Proofs.YtplimhllfbdocaaDoor
