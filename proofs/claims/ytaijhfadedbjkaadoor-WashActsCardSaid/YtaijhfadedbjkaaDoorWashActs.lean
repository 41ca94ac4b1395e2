/- The walk of WashActs. No condition. -/
import Derived.Test.YtaijhfadedbjkaaDoorWashRef
import Derived.Test.YtaijhfadedbjkaaDoorRows2
namespace Go.Proofs.YtaijhfadedbjkaaDoor
set_option linter.unusedVariables false
set_option linter.unusedSimpArgs false
open Go.RowKit Go.Proofs

theorem RowsAt.cell2 {w : World} {v : Value} {n nf : Nat} {kd : IntKind} {f : Nat → Nat → Int} (h0 : 0 < nf) (h : RowsAt w v n nf kd f) : ∃ a cap, v = .slice a n cap ∧ (n ≠ 0 → ∃ b off, a = some ⟨b, off, none⟩ ∧ b < w.heap.size ∧ ∀ w', Below w.heap.size w w' → ∀ i, i < n → ∀ j, j < nf → w'.cell? ⟨b, off + (i * nf + j), none⟩ = some (.int kd (f i j))) := by
  obtain ⟨⟨a, cap, rfl, hx⟩, hwf, hm⟩ := h
  refine ⟨a, cap, rfl, fun hn => ?_⟩
  obtain ⟨b, off, rfl, hc⟩ := hx hn
  exact ⟨b, off, rfl, World.block_lt_of_cell? _ _ (hc 0 (by omega) 0 (by omega)), fun w' hb i hi j hj => (hb.cell (World.block_lt_of_cell? _ _ (hc i hi j hj))).trans (hc i hi j hj)⟩

theorem allW_any (G : Int) (B : Nat) (T : TypeId) (w : World) (hb : Blk w B T (mtrS G).cells) :
    Calls Tryd.prog 12 #[.pointer (some ⟨B, 0, none⟩)] w fun e w' => e = .returned (.agg #[.int .i64 0, .int .i64 0, .int .i64 G]) ∧ Below w.heap.size w w' := all_any (mtrS G) B T w hb
set_option maxRecDepth 100000 in
set_option maxHeartbeats 8000000 in
theorem washActs_any (v : Value) (n : Nat) (f : Nat → Nat → Int) (w0 : World) (hr : RowsAt w0 v n 2 .i64 f) :
    Calls Tryd.prog 3 #[v] w0 fun e w' => e = .returned (.bool true) ∧ Below w0.heap.size w0 w' := by
  obtain ⟨a, cap, rfl, hx⟩ := hr.cell2 (by decide)
  have hm := hr.2.2
  unfold maxLen at hm
  clear hr
  by_cases hn : 60 < n
  · have hn' : (60 : Int) < (n : Int) := by omega
    go_enter Tryd.func3, Tryd.ntmps3
    go_wp2_with (go_at_call 4; refine (alive22_any _).mono ?_; rintro e w1 ⟨rfl, hb1⟩)
    go_ret
    exact ⟨rfl, hb1⟩
  · have hn' : (n : Int) ≤ 60 := by omega
    have hfu := field_units
    have HX := Lib.hid hx
    clear hx
    go_enter Tryd.func3, Tryd.ntmps3
    go_wp2_with (go_at_call 4; refine (alive22_any _).mono ?_; rintro e w1 ⟨rfl, hb1⟩)
    have hz0 := hb1.size
    obtain ⟨Z, hZ⟩ : ∃ Z, Z = w0.heap.size := ⟨_, rfl⟩
    go_loopw [6, 24] (fun v6 v24 wr => ∃ (k : Nat) (L G : Int), k ≤ n ∧ v24 = .int .i64 (k : Int) ∧ v6 = .int .i64 (L + G) ∧ 0 ≤ L ∧ L ≤ 1099511627776 ∧ 0 ≤ G ∧ G ≤ 5000 * k ∧ WM wr w1.heap.size (w1.heap.size + 1 + 1) 29 37 L G (.float .f64 0) (.float .f64 0) ∧ Blk wr (w1.heap.size + 1) 32 (refC L G) ∧ Below w0.heap.size w0 wr) (fun _ v24 _ => n - (intOf v24).toNat)
    case atStart => 
      refine ⟨0, 0, 0, by omega, rfl, rfl, by omega, by omega, by omega, by omega, ⟨((Blk.new w1 _ _).alloc _).alloc _, Blk.new_at (by simp)⟩, ?_, hb1.trans (by go_grown)⟩
      exact Blk.alloc (Blk.new_at (by simp)) _
    case round =>
      obtain ⟨k, L, G, hk, rfl, rfl, hL0, hL1, hG0, hG1, hWM, hRf, hB⟩ := hrel
      by_cases hlt : k < n
      · have hlt' : (k : Int) < (n : Int) := by omega
        obtain ⟨b, off, rfl, hbz, hcells⟩ := HX.out (by omega)
        have c0 : wr.cell? ⟨b, off + k * 2, none⟩ = some (.int .i64 (f k 0)) := by simpa using hcells wr hB k hlt 0 (by decide)
        have c1 : wr.cell? ⟨b, off + k * 2 + 1, none⟩ = some (.int .i64 (f k 1)) := by simpa [Nat.add_assoc] using hcells wr hB k hlt 1 (by decide)
        generalize f k 0 = q at c0
        generalize f k 1 = N at c1
        have hs1 := hWM.1.lt
        have hs2 := hRf.lt
        have hs3 := hWM.2.lt
        have hs4 := hB.size
        clear hcells
        by_cases q1 : q = 1
        · subst q1
          by_cases q2 : 5000 < N
          · go_wp2
            go_ret
            exact ⟨rfl, by first | exact hB.trans (by go_grown)⟩
          · go_wp2
            have h0 : ∃ s, s = spentZ L N := ⟨_, rfl⟩
            obtain ⟨s, hs⟩ := h0
            have hs0 : 0 ≤ s ∧ s ≤ L ∧ s ≤ 5000 := by rw [hs]; unfold spentZ mnZ mxZ; omega
            obtain ⟨hs0, hs5, hs6⟩ := hs0
            have SP := Lib.hid (fun (w : World) (h : WM w w1.heap.size (w1.heap.size + 1 + 1) _ _ L G _ _) => washSpend_any w1.heap.size (w1.heap.size + 1 + 1) 29 37 L G N (.float .f64 0) (.float .f64 0) (by omega) hL0 hL1 hG0 (by omega) (by omega) w h)
            have RS := Lib.hid (fun (w : World) h => refSpend_any (w1.heap.size + 1) 32 L G N hL0 hL1 hG0 (by omega) w h)
            rw [← hs] at SP RS
            replace hs := Lib.hid hs
            refine wp_at (fun W hW => ?_)
            have mW : Blk W w1.heap.size 29 (washC L G (.float .f64 0) (.float .f64 0)) := by rw [hW]; exact hWM.1.alloc _
            have mR : Blk W (w1.heap.size + 1) 32 (refC L G) := by rw [hW]; exact hRf.alloc _
            have mM : Blk W (w1.heap.size + 1 + 1) 37 (mtrS G).cells := by rw [hW]; exact hWM.2.alloc _
            have m8 : Blk W wr.heap.size 39 #[.int .i64 1, .int .i64 N] := by rw [hW]; exact Blk.new _ _ _
            have hBW : Below w0.heap.size w0 W := by rw [hW]; exact hB.trans (by go_grown)
            have hzW : W.heap.size = wr.heap.size + 1 := by rw [hW]; simp
            replace hW := Lib.hid hW
            have c80 := m8.cell 0
            have c81 := m8.cell 1
            have f80 := m8.frozen 0
            have f81 := m8.frozen 1
            have MW := Lib.hid mW
            have MR := Lib.hid mR
            have MM := Lib.hid mM
            have HBW := Lib.hid hBW
            clear mW mR mM m8 hBW
            refine wp_region_seq ((fun b => b = w1.heap.size ∨ b = w1.heap.size + 1 ∨ b = w1.heap.size + 1 + 1)) #[⟨0, 0, 9007199254740992, 8, 0⟩, ⟨0, 0, 18014398509481984, 32, 0⟩, ⟨0, 0, 36028797018963968, 256, 0⟩, ⟨4, 4, 72057594037927936, 36028797018963968, 1⟩, ⟨11, 15, 144115188075855872, 99079191802150912, 2⟩, ⟨0, 0, 288230376151711744, 16, 0⟩, ⟨0, 0, 576460752303423488, 256, 0⟩, ⟨64, 64, 1152921504606846976, 576460752303423488, 1⟩, ⟨176, 255, 2305843009213693952, 1441151880758558720, 3⟩, ⟨287, 511, 512, 144115188075855872, 0⟩, ⟨1023, 1023, 1024, 2305843009213693952, 0⟩] 136 [(0, 0), (1, 0), (2, 0), (3, 1), (5, 0), (6, 0), (7, 1), (4, 2), (8, 3), (9, 0), (10, 0)] (by kernel_rfl) (by kernel_rfl) (by kernel_rfl) (by kernel_rfl) (by kernel_rfl) (by kernel_rfl) (fun c a d v w h => by cases d <;> exact h) ?_
            refine seq_calc (by simp only [List.getElem?_toArray, List.getElem?_cons_succ, List.getElem?_cons_zero]; rfl) (by rfl) (fun u => by go_simp <;> with_reducible rfl) ?_
            try simp only [Act.put, List.setIfInBounds_toArray, List.set_cons_zero, List.set_cons_succ]
            refine seq_calc (by simp only [List.getElem?_toArray, List.getElem?_cons_succ, List.getElem?_cons_zero]; rfl) (by rfl) (fun u => by go_simp <;> with_reducible rfl) ?_
            try simp only [Act.put, List.setIfInBounds_toArray, List.set_cons_zero, List.set_cons_succ]
            refine seq_calc (by simp only [List.getElem?_toArray, List.getElem?_cons_succ, List.getElem?_cons_zero]; rfl) (by rfl) (fun u => by go_simp <;> with_reducible rfl) ?_
            try simp only [Act.put, List.setIfInBounds_toArray, List.set_cons_zero, List.set_cons_succ]
            refine seq_load1 (by simp only [List.getElem?_toArray, List.getElem?_cons_succ, List.getElem?_cons_zero]; rfl) (by rfl) rfl rfl Tryd.underlying3 rfl (by go_simp <;> with_reducible rfl) (by first | exact id | assumption | (simp; done) | (simp; omega)) ?_
            try simp only [Act.put, List.setIfInBounds_toArray, List.set_cons_zero, List.set_cons_succ]
            refine seq_calc (by simp only [List.getElem?_toArray, List.getElem?_cons_succ, List.getElem?_cons_zero]; rfl) (by rfl) (fun u => by go_simp <;> with_reducible rfl) ?_
            try simp only [Act.put, List.setIfInBounds_toArray, List.set_cons_zero, List.set_cons_succ]
            refine seq_calc (by simp only [List.getElem?_toArray, List.getElem?_cons_succ, List.getElem?_cons_zero]; rfl) (by rfl) (fun u => by go_simp <;> with_reducible rfl) ?_
            try simp only [Act.put, List.setIfInBounds_toArray, List.set_cons_zero, List.set_cons_succ]
            refine seq_load1 (by simp only [List.getElem?_toArray, List.getElem?_cons_succ, List.getElem?_cons_zero]; rfl) (by rfl) rfl rfl Tryd.underlying3 rfl (by go_simp <;> with_reducible rfl) (by first | exact id | assumption | (simp; done) | (simp; omega)) ?_
            try simp only [Act.put, List.setIfInBounds_toArray, List.set_cons_zero, List.set_cons_succ]
            refine seq_do (by simp only [List.getElem?_toArray, List.getElem?_cons_succ, List.getElem?_cons_zero]; rfl) (by rfl) (fun K hK => ?_); go_wp2_with (first | (go_at_call 7; refine (SP.out _ (by exact ⟨MW.out, MM.out⟩)).mono ?_; rintro e w2 ⟨rfl, ⟨MW2, MM2⟩, h2⟩; have MR1 := h2.blk MR.out (by omega); have MB2 := HBW.out.trans (h2.undrew.below HBW.out.size (fun k hk e => by omega)); have hX2 : Chg (fun b => b = w1.heap.size ∨ b = w1.heap.size + 1 ∨ b = w1.heap.size + 1 + 1) _ w2 := h2.mono (fun i _ e => by omega); have c81' := (h2.cells wr.heap.size 1 (by show wr.heap.size < W.heap.size; omega) (by omega)).trans c81; replace MW2 := Lib.hid MW2; replace MM2 := Lib.hid MM2; replace MR1 := Lib.hid MR1; replace MB2 := Lib.hid MB2) | (go_at_call 8; refine (RS.out _ (by exact MR1.out)).mono ?_; rintro e w3 ⟨rfl, MR3, h3⟩; have MW3 := h3.blk MW2.out (by omega); have MM3 := h3.blk MM2.out (by omega); have MB3 := MB2.out.trans (h3.below MB2.out.size (fun k hk e => by omega)))); refine hK.out _ _ (by first | (with_reducible exact Chg.refl _ _) | (with_reducible assumption) | (refine Chg.of_below ?_; with_reducible assumption) | (with_reducible exact (Chg.refl _ _).alloc _) | (with_reducible exact (Chg.refl _ _).drewN _) | (with_reducible exact (Chg.refl _ _).drew) | exact ⟨rfl, rfl, rfl, Nat.le_refl _, fun _ _ _ => rfl⟩) ?_; clear hK K
            try simp only [Act.put, List.setIfInBounds_toArray, List.set_cons_zero, List.set_cons_succ]
            refine seq_last (by simp only [List.getElem?_toArray, List.getElem?_cons_succ, List.getElem?_cons_zero]; rfl) (by rfl) (fun K hK => ?_); go_wp2_with (first | (go_at_call 7; refine (SP.out _ (by exact ⟨MW.out, MM.out⟩)).mono ?_; rintro e w2 ⟨rfl, ⟨MW2, MM2⟩, h2⟩; have MR1 := h2.blk MR.out (by omega); have MB2 := HBW.out.trans (h2.undrew.below HBW.out.size (fun k hk e => by omega)); have hX2 : Chg (fun b => b = w1.heap.size ∨ b = w1.heap.size + 1 ∨ b = w1.heap.size + 1 + 1) _ w2 := h2.mono (fun i _ e => by omega); have c81' := (h2.cells wr.heap.size 1 (by show wr.heap.size < W.heap.size; omega) (by omega)).trans c81; replace MW2 := Lib.hid MW2; replace MM2 := Lib.hid MM2; replace MR1 := Lib.hid MR1; replace MB2 := Lib.hid MB2) | (go_at_call 8; refine (RS.out _ (by exact MR1.out)).mono ?_; rintro e w3 ⟨rfl, MR3, h3⟩; have MW3 := h3.blk MW2.out (by omega); have MM3 := h3.blk MM2.out (by omega); have MB3 := MB2.out.trans (h3.below MB2.out.size (fun k hk e => by omega)))); refine hK.out _ _ ?_; clear hK K
            try simp only [Act.put, List.setIfInBounds_toArray, List.set_cons_zero, List.set_cons_succ]
            refine seq_calc (by simp only [List.getElem?_toArray, List.getElem?_cons_succ, List.getElem?_cons_zero]; rfl) (by rfl) (fun u => by go_simp <;> with_reducible rfl) ?_
            try simp only [Act.put, List.setIfInBounds_toArray, List.set_cons_zero, List.set_cons_succ]
            refine seq_calc (by simp only [List.getElem?_toArray, List.getElem?_cons_succ, List.getElem?_cons_zero]; rfl) (by rfl) (fun u => by go_simp <;> with_reducible rfl) ?_
            try simp only [Act.put, List.setIfInBounds_toArray, List.set_cons_zero, List.set_cons_succ]
            refine seq_nil ?_
            go_wp2
            have hsum : L - s + (G + s) = L + G := by omega
            have hwr : IntKind.i64.wrap (L + G) = L + G := IntWalk.i64_in _ (by omega)
            refine wp_at (fun w hw => ?_)
            have NW : Blk w w1.heap.size 29 (washC (L - s) (G + s) (.float .f64 0) (.float .f64 0)) := by rw [hw]; exact MW3
            have NR : Blk w (w1.heap.size + 1) 32 (refC (L - s) (G + s)) := by rw [hw]; exact MR3
            have NM : Blk w (w1.heap.size + 1 + 1) 37 (mtrS (G + s)).cells := by rw [hw]; exact MM3
            have NB : Below w0.heap.size w0 w := by rw [hw]; exact MB3
            clear hw MW3 MR3 MM3 MB3
            have hlr := NR.lt
            obtain ⟨r0, r1, _, _⟩ := ref_cells NR
            replace NW := Lib.hid NW; replace NR := Lib.hid NR; replace NM := Lib.hid NM; replace NB := Lib.hid NB
            refine wp_region_seq (fun _ => False) #[⟨0, 0, 590295810358705651712, 512, 0⟩, ⟨0, 0, 1180591620717411303424, 1024, 0⟩, ⟨3, 3, 2361183241434822606848, 1770887431076116955136, 0⟩, ⟨4, 7, 4722366482869645213696, 2361183241434822606848, 0⟩, ⟨8, 15, 9444732965739290427392, 4722366482869645213704, 0⟩, ⟨24, 31, 18889465931478580854784, 14167099448608935641088, 2⟩, ⟨8, 15, 37778931862957161709568, 4722366482869645213712, 0⟩, ⟨72, 79, 75557863725914323419136, 42501298345826806923264, 0⟩, ⟨136, 207, 151115727451828646838272, 80280230208783968632832, 0⟩, ⟨264, 463, 302231454903657293676544, 155838093934698292051968, 1⟩, ⟨552, 1023, 604462909807314587353088, 325843287318005519745024, 0⟩, ⟨1032, 2047, 1208925819614629174706176, 609185276290184232566784, 0⟩, ⟨2080, 4095, 2417851639229258349412352, 1208925819614629174706176, 0⟩, ⟨4096, 8191, 4835703278458516698824704, 2417851639229258349412360, 0⟩, ⟨12288, 16383, 9671406556917033397649408, 7253554917687775048237056, 2⟩, ⟨4096, 8191, 19342813113834066795298816, 2417851639229258349412368, 0⟩, ⟨36864, 40959, 38685626227668133590597632, 21760664753063325144711168, 0⟩, ⟨69632, 106495, 77371252455336267181195264, 41103477866897391940009984, 0⟩, ⟨135168, 237567, 154742504910672534362390528, 79789104094565525530607616, 1⟩, ⟨282624, 524287, 309485009821345068724781056, 166831763106818826109452288, 0⟩, ⟨528384, 1048575, 618970019642690137449562112, 311902861460574327074193408, 0⟩, ⟨1064960, 2097151, 1237940039285380274899124224, 618970019642690137449562112, 0⟩, ⟨2097152, 4194303, 2475880078570760549798248448, 1237940039285380274899124256, 0⟩, ⟨6291456, 8388607, 4951760157141521099596496896, 3713820117856140824697372672, 2⟩, ⟨10485760, 16777215, 9903520314283042199192993792, 6189700196426901374495621120, 0⟩, ⟨2097152, 4194303, 19807040628566084398385987584, 1237940039285380274899124240, 0⟩, ⟨35651584, 37748735, 39614081257132168796771975168, 21044980667851464673285111808, 0⟩, ⟨69206016, 104857599, 79228162514264337593543950336, 40852021296417549071671099392, 0⟩, ⟨136314880, 239075327, 158456325028528675187087900672, 80466102553549717868443074560, 1⟩, ⟨287309824, 536870911, 316912650057057350374175801344, 169597785382097097661180018688, 0⟩, ⟨538968064, 1073741823, 633825300114114700748351602688, 318150590096342730649074925568, 0⟩, ⟨1082130432, 2147483647, 1267650600228229401496703205376, 633825300114114700748351602688, 0⟩, ⟨2147483648, 4294967295, 2535301200456458802993406410752, 1267650600228229401496703205384, 0⟩, ⟨6442450944, 8589934591, 5070602400912917605986812821504, 3802951800684688204490109616128, 3⟩, ⟨2147483648, 4294967295, 10141204801825835211973625643008, 1267650600228229401496703205384, 0⟩, ⟨27917287424, 34359738367, 20282409603651670423947251286016, 11408855402054064613470328848384, 3⟩, ⟨45097156608, 68719476735, 40564819207303340847894502572032, 26620662604792817431430767312896, 0⟩, ⟨2147483648, 4294967295, 81129638414606681695789005144064, 1267650600228229401496703205440, 0⟩, ⟨208305913856, 274877906943, 162259276829213363391578010288128, 122962108222138251945180210921472, 0⟩, ⟨277025390592, 549755813887, 324518553658426726783156020576256, 163526927429441592793074713493504, 0⟩] 268698112 [(0, 0), (1, 0), (2, 0), (3, 0), (4, 0), (6, 0), (7, 0), (8, 0), (9, 1), (5, 2), (10, 0), (11, 0), (12, 0), (13, 0), (15, 0), (16, 0), (17, 0), (18, 1), (14, 2), (19, 0), (20, 0), (21, 0), (22, 0), (25, 0), (26, 0), (27, 0), (28, 1), (23, 2), (24, 0), (29, 0), (30, 0), (31, 0), (32, 0), (34, 0), (37, 0), (33, 3), (35, 3), (36, 0), (38, 0), (39, 0)] (by kernel_rfl) (by kernel_rfl) (by kernel_rfl) (by kernel_rfl) (by kernel_rfl) (by kernel_rfl) (fun c a d v w h => by cases d <;> exact h) ?_
            refine seq_calc (by simp only [List.getElem?_toArray, List.getElem?_cons_succ, List.getElem?_cons_zero]; rfl) (by rfl) (fun u => by go_simp <;> with_reducible rfl) ?_
            try simp only [Act.put, List.setIfInBounds_toArray, List.set_cons_zero, List.set_cons_succ]
            refine seq_calc (by simp only [List.getElem?_toArray, List.getElem?_cons_succ, List.getElem?_cons_zero]; rfl) (by rfl) (fun u => by go_simp <;> with_reducible rfl) ?_
            try simp only [Act.put, List.setIfInBounds_toArray, List.set_cons_zero, List.set_cons_succ]
            refine seq_calc (by simp only [List.getElem?_toArray, List.getElem?_cons_succ, List.getElem?_cons_zero]; rfl) (by rfl) (fun u => by go_simp <;> with_reducible rfl) ?_
            try simp only [Act.put, List.setIfInBounds_toArray, List.set_cons_zero, List.set_cons_succ]
            refine seq_calc (by simp only [List.getElem?_toArray, List.getElem?_cons_succ, List.getElem?_cons_zero]; rfl) (by rfl) (fun u => by go_simp <;> with_reducible rfl) ?_
            try simp only [Act.put, List.setIfInBounds_toArray, List.set_cons_zero, List.set_cons_succ]
            first
              | (refine seq_skip (by simp only [List.getElem?_toArray, List.getElem?_cons_succ, List.getElem?_cons_zero]; rfl) (by rfl) ?_)
              | (refine seq_calc (by simp only [List.getElem?_toArray, List.getElem?_cons_succ, List.getElem?_cons_zero]; rfl) (by rfl) (fun u => by go_simp <;> with_reducible rfl) ?_)
            try simp only [Act.put, List.setIfInBounds_toArray, List.set_cons_zero, List.set_cons_succ]
            first
              | (refine seq_skip (by simp only [List.getElem?_toArray, List.getElem?_cons_succ, List.getElem?_cons_zero]; rfl) (by rfl) ?_)
              | (refine seq_calc (by simp only [List.getElem?_toArray, List.getElem?_cons_succ, List.getElem?_cons_zero]; rfl) (by rfl) (fun u => by go_simp <;> with_reducible rfl) ?_)
            try simp only [Act.put, List.setIfInBounds_toArray, List.set_cons_zero, List.set_cons_succ]
            first
              | (refine seq_skip (by simp only [List.getElem?_toArray, List.getElem?_cons_succ, List.getElem?_cons_zero]; rfl) (by rfl) ?_)
              | (refine seq_calc (by simp only [List.getElem?_toArray, List.getElem?_cons_succ, List.getElem?_cons_zero]; rfl) (by rfl) (fun u => by go_simp <;> with_reducible rfl) ?_)
            try simp only [Act.put, List.setIfInBounds_toArray, List.set_cons_zero, List.set_cons_succ]
            first
              | (refine seq_skip (by simp only [List.getElem?_toArray, List.getElem?_cons_succ, List.getElem?_cons_zero]; rfl) (by rfl) ?_)
              | (refine seq_calc (by simp only [List.getElem?_toArray, List.getElem?_cons_succ, List.getElem?_cons_zero]; rfl) (by rfl) (fun u => by go_simp <;> with_reducible rfl) ?_)
            try simp only [Act.put, List.setIfInBounds_toArray, List.set_cons_zero, List.set_cons_succ]
            first
              | (refine seq_skip (by simp only [List.getElem?_toArray, List.getElem?_cons_succ, List.getElem?_cons_zero]; rfl) (by rfl) ?_)
              | (refine seq_load1 (by simp only [List.getElem?_toArray, List.getElem?_cons_succ, List.getElem?_cons_zero]; rfl) (by rfl) rfl rfl Tryd.underlying3 rfl (by go_simp <;> with_reducible rfl) (by first | exact id | assumption | (simp; done) | (simp; omega)) ?_)
            try simp only [Act.put, List.setIfInBounds_toArray, List.set_cons_zero, List.set_cons_succ]
            first
              | (refine seq_skip (by simp only [List.getElem?_toArray, List.getElem?_cons_succ, List.getElem?_cons_zero]; rfl) (by rfl) ?_)
              | (refine seq_do (by simp only [List.getElem?_toArray, List.getElem?_cons_succ, List.getElem?_cons_zero]; rfl) (by rfl) (fun K hK => ?_); go_wp2_with (first | (go_at_call 10; refine (left_any w1.heap.size _ (L - s) (G + s) _ _ _ (by first | exact NW.out | exact NW.out.below hB1 NW.out.lt)).mono ?_; rintro e w' ⟨rfl, rfl⟩) | (go_at_call 11; refine (gone_any w1.heap.size _ (L - s) (G + s) _ _ _ (by first | exact NW.out | exact NW.out.below hB1 NW.out.lt)).mono ?_; rintro e w' ⟨rfl, rfl⟩) | (go_at_call 12; refine (allW_any (G + s) (w1.heap.size + 1 + 1) _ _ (by exact NM.out)).mono ?_; rintro e w4 ⟨rfl, hb4⟩; have hB1 : Below w.heap.size w w4 := (by first | exact hB1.trans (hb4.mono hB1.size) | exact Below.trans (by go_grown) (hb4.mono (by simp <;> omega))); have hcw1heapsize__1 := fun (o : Nat) => hb4.cell (p := ⟨w1.heap.size + 1, o, none⟩) (by first | assumption | (simp <;> omega)); have hfw1heapsize__1 := fun (o : Nat) => hb4.frozen (p := ⟨w1.heap.size + 1, o, none⟩) (by first | assumption | (simp <;> omega)); have hzw1heapsize__1 : w1.heap.size + 1 < w4.heap.size := Nat.lt_of_lt_of_le (by first | assumption | (simp <;> omega)) hb4.size)); refine hK.out _ _ (by first | (with_reducible exact Chg.refl _ _) | (with_reducible assumption) | (refine Chg.of_below ?_; with_reducible assumption) | (with_reducible exact (Chg.refl _ _).alloc _) | (with_reducible exact (Chg.refl _ _).drewN _) | (with_reducible exact (Chg.refl _ _).drew) | exact ⟨rfl, rfl, rfl, Nat.le_refl _, fun _ _ _ => rfl⟩) ?_; clear hK K)
            try simp only [Act.put, List.setIfInBounds_toArray, List.set_cons_zero, List.set_cons_succ]
            first
              | (refine seq_skip (by simp only [List.getElem?_toArray, List.getElem?_cons_succ, List.getElem?_cons_zero]; rfl) (by rfl) ?_)
              | (refine seq_calc (by simp only [List.getElem?_toArray, List.getElem?_cons_succ, List.getElem?_cons_zero]; rfl) (by rfl) (fun u => by go_simp <;> with_reducible rfl) ?_)
            try simp only [Act.put, List.setIfInBounds_toArray, List.set_cons_zero, List.set_cons_succ]
            refine seq_calc (by simp only [List.getElem?_toArray, List.getElem?_cons_succ, List.getElem?_cons_zero]; rfl) (by rfl) (fun u => by go_simp <;> with_reducible rfl) ?_
            try simp only [Act.put, List.setIfInBounds_toArray, List.set_cons_zero, List.set_cons_succ]
            refine seq_calc (by simp only [List.getElem?_toArray, List.getElem?_cons_succ, List.getElem?_cons_zero]; rfl) (by rfl) (fun u => by go_simp <;> with_reducible rfl) ?_
            try simp only [Act.put, List.setIfInBounds_toArray, List.set_cons_zero, List.set_cons_succ]
            first
              | (refine seq_skip (by simp only [List.getElem?_toArray, List.getElem?_cons_succ, List.getElem?_cons_zero]; rfl) (by rfl) ?_)
              | (refine seq_calc (by simp only [List.getElem?_toArray, List.getElem?_cons_succ, List.getElem?_cons_zero]; rfl) (by rfl) (fun u => by go_simp <;> with_reducible rfl) ?_)
            try simp only [Act.put, List.setIfInBounds_toArray, List.set_cons_zero, List.set_cons_succ]
            first
              | (refine seq_skip (by simp only [List.getElem?_toArray, List.getElem?_cons_succ, List.getElem?_cons_zero]; rfl) (by rfl) ?_)
              | (refine seq_calc (by simp only [List.getElem?_toArray, List.getElem?_cons_succ, List.getElem?_cons_zero]; rfl) (by rfl) (fun u => by go_simp <;> with_reducible rfl) ?_)
            try simp only [Act.put, List.setIfInBounds_toArray, List.set_cons_zero, List.set_cons_succ]
            first
              | (refine seq_skip (by simp only [List.getElem?_toArray, List.getElem?_cons_succ, List.getElem?_cons_zero]; rfl) (by rfl) ?_)
              | (refine seq_calc (by simp only [List.getElem?_toArray, List.getElem?_cons_succ, List.getElem?_cons_zero]; rfl) (by rfl) (fun u => by go_simp <;> with_reducible rfl) ?_)
            try simp only [Act.put, List.setIfInBounds_toArray, List.set_cons_zero, List.set_cons_succ]
            first
              | (refine seq_skip (by simp only [List.getElem?_toArray, List.getElem?_cons_succ, List.getElem?_cons_zero]; rfl) (by rfl) ?_)
              | (refine seq_calc (by simp only [List.getElem?_toArray, List.getElem?_cons_succ, List.getElem?_cons_zero]; rfl) (by rfl) (fun u => by go_simp <;> with_reducible rfl) ?_)
            try simp only [Act.put, List.setIfInBounds_toArray, List.set_cons_zero, List.set_cons_succ]
            first
              | (refine seq_skip (by simp only [List.getElem?_toArray, List.getElem?_cons_succ, List.getElem?_cons_zero]; rfl) (by rfl) ?_)
              | (refine seq_load1 (by simp only [List.getElem?_toArray, List.getElem?_cons_succ, List.getElem?_cons_zero]; rfl) (by rfl) rfl rfl Tryd.underlying3 rfl (by go_simp <;> with_reducible rfl) (by first | exact id | assumption | (simp; done) | (simp; omega)) ?_)
            try simp only [Act.put, List.setIfInBounds_toArray, List.set_cons_zero, List.set_cons_succ]
            first
              | (refine seq_skip (by simp only [List.getElem?_toArray, List.getElem?_cons_succ, List.getElem?_cons_zero]; rfl) (by rfl) ?_)
              | (refine seq_do (by simp only [List.getElem?_toArray, List.getElem?_cons_succ, List.getElem?_cons_zero]; rfl) (by rfl) (fun K hK => ?_); go_wp2_with (first | (go_at_call 10; refine (left_any w1.heap.size _ (L - s) (G + s) _ _ _ (by first | exact NW.out | exact NW.out.below hB1 NW.out.lt)).mono ?_; rintro e w' ⟨rfl, rfl⟩) | (go_at_call 11; refine (gone_any w1.heap.size _ (L - s) (G + s) _ _ _ (by first | exact NW.out | exact NW.out.below hB1 NW.out.lt)).mono ?_; rintro e w' ⟨rfl, rfl⟩) | (go_at_call 12; refine (allW_any (G + s) (w1.heap.size + 1 + 1) _ _ (by exact NM.out)).mono ?_; rintro e w4 ⟨rfl, hb4⟩; have hB1 : Below w.heap.size w w4 := (by first | exact hB1.trans (hb4.mono hB1.size) | exact Below.trans (by go_grown) (hb4.mono (by simp <;> omega))); have hcw1heapsize__1 := fun (o : Nat) => hb4.cell (p := ⟨w1.heap.size + 1, o, none⟩) (by first | assumption | (simp <;> omega)); have hfw1heapsize__1 := fun (o : Nat) => hb4.frozen (p := ⟨w1.heap.size + 1, o, none⟩) (by first | assumption | (simp <;> omega)); have hzw1heapsize__1 : w1.heap.size + 1 < w4.heap.size := Nat.lt_of_lt_of_le (by first | assumption | (simp <;> omega)) hb4.size)); refine hK.out _ _ (by first | (with_reducible exact Chg.refl _ _) | (with_reducible assumption) | (refine Chg.of_below ?_; with_reducible assumption) | (with_reducible exact (Chg.refl _ _).alloc _) | (with_reducible exact (Chg.refl _ _).drewN _) | (with_reducible exact (Chg.refl _ _).drew) | exact ⟨rfl, rfl, rfl, Nat.le_refl _, fun _ _ _ => rfl⟩) ?_; clear hK K)
            try simp only [Act.put, List.setIfInBounds_toArray, List.set_cons_zero, List.set_cons_succ]
            first
              | (refine seq_skip (by simp only [List.getElem?_toArray, List.getElem?_cons_succ, List.getElem?_cons_zero]; rfl) (by rfl) ?_)
              | (refine seq_calc (by simp only [List.getElem?_toArray, List.getElem?_cons_succ, List.getElem?_cons_zero]; rfl) (by rfl) (fun u => by go_simp <;> with_reducible rfl) ?_)
            try simp only [Act.put, List.setIfInBounds_toArray, List.set_cons_zero, List.set_cons_succ]
            refine seq_calc (by simp only [List.getElem?_toArray, List.getElem?_cons_succ, List.getElem?_cons_zero]; rfl) (by rfl) (fun u => by go_simp <;> with_reducible rfl) ?_
            try simp only [Act.put, List.setIfInBounds_toArray, List.set_cons_zero, List.set_cons_succ]
            refine seq_calc (by simp only [List.getElem?_toArray, List.getElem?_cons_succ, List.getElem?_cons_zero]; rfl) (by rfl) (fun u => by go_simp <;> with_reducible rfl) ?_
            try simp only [Act.put, List.setIfInBounds_toArray, List.set_cons_zero, List.set_cons_succ]
            first
              | (refine seq_skip (by simp only [List.getElem?_toArray, List.getElem?_cons_succ, List.getElem?_cons_zero]; rfl) (by rfl) ?_)
              | (refine seq_calc (by simp only [List.getElem?_toArray, List.getElem?_cons_succ, List.getElem?_cons_zero]; rfl) (by rfl) (fun u => by go_simp <;> with_reducible rfl) ?_)
            try simp only [Act.put, List.setIfInBounds_toArray, List.set_cons_zero, List.set_cons_succ]
            first
              | (refine seq_skip (by simp only [List.getElem?_toArray, List.getElem?_cons_succ, List.getElem?_cons_zero]; rfl) (by rfl) ?_)
              | (refine seq_calc (by simp only [List.getElem?_toArray, List.getElem?_cons_succ, List.getElem?_cons_zero]; rfl) (by rfl) (fun u => by go_simp <;> with_reducible rfl) ?_)
            try simp only [Act.put, List.setIfInBounds_toArray, List.set_cons_zero, List.set_cons_succ]
            first
              | (refine seq_skip (by simp only [List.getElem?_toArray, List.getElem?_cons_succ, List.getElem?_cons_zero]; rfl) (by rfl) ?_)
              | (refine seq_calc (by simp only [List.getElem?_toArray, List.getElem?_cons_succ, List.getElem?_cons_zero]; rfl) (by rfl) (fun u => by go_simp <;> with_reducible rfl) ?_)
            try simp only [Act.put, List.setIfInBounds_toArray, List.set_cons_zero, List.set_cons_succ]
            first
              | (refine seq_skip (by simp only [List.getElem?_toArray, List.getElem?_cons_succ, List.getElem?_cons_zero]; rfl) (by rfl) ?_)
              | (refine seq_calc (by simp only [List.getElem?_toArray, List.getElem?_cons_succ, List.getElem?_cons_zero]; rfl) (by rfl) (fun u => by go_simp <;> with_reducible rfl) ?_)
            try simp only [Act.put, List.setIfInBounds_toArray, List.set_cons_zero, List.set_cons_succ]
            first
              | (refine seq_skip (by simp only [List.getElem?_toArray, List.getElem?_cons_succ, List.getElem?_cons_zero]; rfl) (by rfl) ?_)
              | (refine seq_load1 (by simp only [List.getElem?_toArray, List.getElem?_cons_succ, List.getElem?_cons_zero]; rfl) (by rfl) rfl rfl Tryd.underlying3 rfl (by go_simp <;> with_reducible rfl) (by first | exact id | assumption | (simp; done) | (simp; omega)) ?_)
            try simp only [Act.put, List.setIfInBounds_toArray, List.set_cons_zero, List.set_cons_succ]
            first
              | (refine seq_skip (by simp only [List.getElem?_toArray, List.getElem?_cons_succ, List.getElem?_cons_zero]; rfl) (by rfl) ?_)
              | (refine seq_do (by simp only [List.getElem?_toArray, List.getElem?_cons_succ, List.getElem?_cons_zero]; rfl) (by rfl) (fun K hK => ?_); go_wp2_with (first | (go_at_call 10; refine (left_any w1.heap.size _ (L - s) (G + s) _ _ _ (by first | exact NW.out | exact NW.out.below hB1 NW.out.lt)).mono ?_; rintro e w' ⟨rfl, rfl⟩) | (go_at_call 11; refine (gone_any w1.heap.size _ (L - s) (G + s) _ _ _ (by first | exact NW.out | exact NW.out.below hB1 NW.out.lt)).mono ?_; rintro e w' ⟨rfl, rfl⟩) | (go_at_call 12; refine (allW_any (G + s) (w1.heap.size + 1 + 1) _ _ (by exact NM.out)).mono ?_; rintro e w4 ⟨rfl, hb4⟩; have hB1 : Below w.heap.size w w4 := (by first | exact hB1.trans (hb4.mono hB1.size) | exact Below.trans (by go_grown) (hb4.mono (by simp <;> omega))); have hcw1heapsize__1 := fun (o : Nat) => hb4.cell (p := ⟨w1.heap.size + 1, o, none⟩) (by first | assumption | (simp <;> omega)); have hfw1heapsize__1 := fun (o : Nat) => hb4.frozen (p := ⟨w1.heap.size + 1, o, none⟩) (by first | assumption | (simp <;> omega)); have hzw1heapsize__1 : w1.heap.size + 1 < w4.heap.size := Nat.lt_of_lt_of_le (by first | assumption | (simp <;> omega)) hb4.size)); refine hK.out _ _ (by first | (with_reducible exact Chg.refl _ _) | (with_reducible assumption) | (refine Chg.of_below ?_; with_reducible assumption) | (with_reducible exact (Chg.refl _ _).alloc _) | (with_reducible exact (Chg.refl _ _).drewN _) | (with_reducible exact (Chg.refl _ _).drew) | exact ⟨rfl, rfl, rfl, Nat.le_refl _, fun _ _ _ => rfl⟩) ?_; clear hK K)
            try simp only [Act.put, List.setIfInBounds_toArray, List.set_cons_zero, List.set_cons_succ]
            first
              | (refine seq_skip (by simp only [List.getElem?_toArray, List.getElem?_cons_succ, List.getElem?_cons_zero]; rfl) (by rfl) ?_)
              | (refine seq_calc (by simp only [List.getElem?_toArray, List.getElem?_cons_succ, List.getElem?_cons_zero]; rfl) (by rfl) (fun u => by go_simp <;> with_reducible rfl) ?_)
            try simp only [Act.put, List.setIfInBounds_toArray, List.set_cons_zero, List.set_cons_succ]
            first
              | (refine seq_skip (by simp only [List.getElem?_toArray, List.getElem?_cons_succ, List.getElem?_cons_zero]; rfl) (by rfl) ?_)
              | (refine seq_calc (by simp only [List.getElem?_toArray, List.getElem?_cons_succ, List.getElem?_cons_zero]; rfl) (by rfl) (fun u => by go_simp <;> with_reducible rfl) ?_)
            try simp only [Act.put, List.setIfInBounds_toArray, List.set_cons_zero, List.set_cons_succ]
            refine seq_calc (by simp only [List.getElem?_toArray, List.getElem?_cons_succ, List.getElem?_cons_zero]; rfl) (by rfl) (fun u => by go_simp <;> with_reducible rfl) ?_
            try simp only [Act.put, List.setIfInBounds_toArray, List.set_cons_zero, List.set_cons_succ]
            refine seq_calc (by simp only [List.getElem?_toArray, List.getElem?_cons_succ, List.getElem?_cons_zero]; rfl) (by rfl) (fun u => by go_simp <;> with_reducible rfl) ?_
            try simp only [Act.put, List.setIfInBounds_toArray, List.set_cons_zero, List.set_cons_succ]
            first
              | (refine seq_skip (by simp only [List.getElem?_toArray, List.getElem?_cons_succ, List.getElem?_cons_zero]; rfl) (by rfl) ?_)
              | (refine seq_calc (by simp only [List.getElem?_toArray, List.getElem?_cons_succ, List.getElem?_cons_zero]; rfl) (by rfl) (fun u => by go_simp <;> with_reducible rfl) ?_)
            try simp only [Act.put, List.setIfInBounds_toArray, List.set_cons_zero, List.set_cons_succ]
            first
              | (refine seq_skip (by simp only [List.getElem?_toArray, List.getElem?_cons_succ, List.getElem?_cons_zero]; rfl) (by rfl) ?_)
              | (refine seq_calc (by simp only [List.getElem?_toArray, List.getElem?_cons_succ, List.getElem?_cons_zero]; rfl) (by rfl) (fun u => by go_simp <;> with_reducible rfl) ?_)
            try simp only [Act.put, List.setIfInBounds_toArray, List.set_cons_zero, List.set_cons_succ]
            first
              | (refine seq_skip (by simp only [List.getElem?_toArray, List.getElem?_cons_succ, List.getElem?_cons_zero]; rfl) (by rfl) ?_)
              | (refine seq_calc (by simp only [List.getElem?_toArray, List.getElem?_cons_succ, List.getElem?_cons_zero]; rfl) (by rfl) (fun u => by go_simp <;> with_reducible rfl) ?_)
            try simp only [Act.put, List.setIfInBounds_toArray, List.set_cons_zero, List.set_cons_succ]
            first
              | (refine seq_skip (by simp only [List.getElem?_toArray, List.getElem?_cons_succ, List.getElem?_cons_zero]; rfl) (by rfl) ?_)
              | (refine seq_last (by simp only [List.getElem?_toArray, List.getElem?_cons_succ, List.getElem?_cons_zero]; rfl) (by rfl) (fun K hK => ?_); go_wp2_with (first | (go_at_call 10; refine (left_any w1.heap.size _ (L - s) (G + s) _ _ _ (by first | exact NW.out | exact NW.out.below hB1 NW.out.lt)).mono ?_; rintro e w' ⟨rfl, rfl⟩) | (go_at_call 11; refine (gone_any w1.heap.size _ (L - s) (G + s) _ _ _ (by first | exact NW.out | exact NW.out.below hB1 NW.out.lt)).mono ?_; rintro e w' ⟨rfl, rfl⟩) | (go_at_call 12; refine (allW_any (G + s) (w1.heap.size + 1 + 1) _ _ (by exact NM.out)).mono ?_; rintro e w4 ⟨rfl, hb4⟩; have hB1 : Below w.heap.size w w4 := (by first | exact hB1.trans (hb4.mono hB1.size) | exact Below.trans (by go_grown) (hb4.mono (by simp <;> omega))); have hcw1heapsize__1 := fun (o : Nat) => hb4.cell (p := ⟨w1.heap.size + 1, o, none⟩) (by first | assumption | (simp <;> omega)); have hfw1heapsize__1 := fun (o : Nat) => hb4.frozen (p := ⟨w1.heap.size + 1, o, none⟩) (by first | assumption | (simp <;> omega)); have hzw1heapsize__1 : w1.heap.size + 1 < w4.heap.size := Nat.lt_of_lt_of_le (by first | assumption | (simp <;> omega)) hb4.size)); refine hK.out _ _ ?_; clear hK K)
            try simp only [Act.put, List.setIfInBounds_toArray, List.set_cons_zero, List.set_cons_succ]
            first
              | (refine seq_skip (by simp only [List.getElem?_toArray, List.getElem?_cons_succ, List.getElem?_cons_zero]; rfl) (by rfl) ?_)
              | (refine seq_last (by simp only [List.getElem?_toArray, List.getElem?_cons_succ, List.getElem?_cons_zero]; rfl) (by rfl) (fun K hK => ?_); go_wp2_with (first | (go_at_call 10; refine (left_any w1.heap.size _ (L - s) (G + s) _ _ _ (by first | exact NW.out | exact NW.out.below hB1 NW.out.lt)).mono ?_; rintro e w' ⟨rfl, rfl⟩) | (go_at_call 11; refine (gone_any w1.heap.size _ (L - s) (G + s) _ _ _ (by first | exact NW.out | exact NW.out.below hB1 NW.out.lt)).mono ?_; rintro e w' ⟨rfl, rfl⟩) | (go_at_call 12; refine (allW_any (G + s) (w1.heap.size + 1 + 1) _ _ (by exact NM.out)).mono ?_; rintro e w4 ⟨rfl, hb4⟩; have hB1 : Below w.heap.size w w4 := (by first | exact hB1.trans (hb4.mono hB1.size) | exact Below.trans (by go_grown) (hb4.mono (by simp <;> omega))); have hcw1heapsize__1 := fun (o : Nat) => hb4.cell (p := ⟨w1.heap.size + 1, o, none⟩) (by first | assumption | (simp <;> omega)); have hfw1heapsize__1 := fun (o : Nat) => hb4.frozen (p := ⟨w1.heap.size + 1, o, none⟩) (by first | assumption | (simp <;> omega)); have hzw1heapsize__1 : w1.heap.size + 1 < w4.heap.size := Nat.lt_of_lt_of_le (by first | assumption | (simp <;> omega)) hb4.size)); refine hK.out _ _ ?_; clear hK K)
            try simp only [Act.put, List.setIfInBounds_toArray, List.set_cons_zero, List.set_cons_succ]
            first
              | (refine seq_skip (by simp only [List.getElem?_toArray, List.getElem?_cons_succ, List.getElem?_cons_zero]; rfl) (by rfl) ?_)
              | (refine seq_calc (by simp only [List.getElem?_toArray, List.getElem?_cons_succ, List.getElem?_cons_zero]; rfl) (by rfl) (fun u => by go_simp <;> with_reducible rfl) ?_)
            try simp only [Act.put, List.setIfInBounds_toArray, List.set_cons_zero, List.set_cons_succ]
            first
              | (refine seq_skip (by simp only [List.getElem?_toArray, List.getElem?_cons_succ, List.getElem?_cons_zero]; rfl) (by rfl) ?_)
              | (refine seq_calc (by simp only [List.getElem?_toArray, List.getElem?_cons_succ, List.getElem?_cons_zero]; rfl) (by rfl) (fun u => by go_simp <;> with_reducible rfl) ?_)
            try simp only [Act.put, List.setIfInBounds_toArray, List.set_cons_zero, List.set_cons_succ]
            refine seq_calc (by simp only [List.getElem?_toArray, List.getElem?_cons_succ, List.getElem?_cons_zero]; rfl) (by rfl) (fun u => by go_simp <;> with_reducible rfl) ?_
            try simp only [Act.put, List.setIfInBounds_toArray, List.set_cons_zero, List.set_cons_succ]
            refine seq_nil ?_
            go_wp2
            case roundEnd =>
              exact ⟨⟨k + 1, L - s, G + s, by omega, by go_num, by rw [hsum], by omega, by omega, by omega, by omega, ⟨NW.out.below hB1 NW.out.lt, NM.out.below hB1 NM.out.lt⟩, NR.out.below hB1 NR.out.lt, NB.out.trans (hB1.mono NB.out.size)⟩, by simp [intOf]; omega⟩
        · by_cases q2 : q = 0
          · subst q2
            have h0 : ∃ d, d = depZ L N := ⟨_, rfl⟩
            obtain ⟨d, hd⟩ := h0
            have hd0 : 0 ≤ d ∧ L + d ≤ 1099511627776 := by rw [hd]; exact depZ_bd hL0 hL1
            obtain ⟨hd0, hd1⟩ := hd0
            have SP := Lib.hid (fun (w : World) h => washAdd_any w1.heap.size 29 L G N (.float .f64 0) (.float .f64 0) hL0 hL1 w h)
            have RS := Lib.hid (fun (w : World) h => refAdd_any (w1.heap.size + 1) 32 L G N hL0 hL1 w h)
            rw [← hd] at SP RS
            replace hd := Lib.hid hd
            go_wp2
            refine wp_at (fun W hW => ?_)
            have mW : Blk W w1.heap.size 29 (washC L G (.float .f64 0) (.float .f64 0)) := by rw [hW]; exact hWM.1.alloc _
            have mR : Blk W (w1.heap.size + 1) 32 (refC L G) := by rw [hW]; exact hRf.alloc _
            have mM : Blk W (w1.heap.size + 1 + 1) 37 (mtrS G).cells := by rw [hW]; exact hWM.2.alloc _
            have m8 : Blk W wr.heap.size 39 #[.int .i64 0, .int .i64 N] := by rw [hW]; exact Blk.new _ _ _
            have hBW : Below w0.heap.size w0 W := by rw [hW]; exact hB.trans (by go_grown)
            have hzW : W.heap.size = wr.heap.size + 1 := by rw [hW]; simp
            replace hW := Lib.hid hW
            have c80 := m8.cell 0
            have c81 := m8.cell 1
            have f80 := m8.frozen 0
            have f81 := m8.frozen 1
            have MW := Lib.hid mW
            have MR := Lib.hid mR
            have MM := Lib.hid mM
            have HBW := Lib.hid hBW
            clear mW mR mM m8 hBW
            refine wp_region_seq ((fun b => b = w1.heap.size ∨ b = w1.heap.size + 1 ∨ b = w1.heap.size + 1 + 1)) #[⟨0, 0, 1099511627776, 8, 0⟩, ⟨0, 0, 2199023255552, 256, 0⟩, ⟨2, 2, 4398046511104, 2199023255552, 1⟩, ⟨5, 7, 8796093022208, 5497558138880, 2⟩, ⟨0, 0, 17592186044416, 16, 0⟩, ⟨0, 0, 35184372088832, 256, 0⟩, ⟨32, 32, 70368744177664, 35184372088832, 1⟩, ⟨88, 127, 140737488355328, 87960930222080, 3⟩, ⟨143, 255, 512, 8796093022208, 0⟩, ⟨511, 511, 1024, 140737488355328, 0⟩] 68 [(0, 0), (1, 0), (2, 1), (4, 0), (5, 0), (6, 1), (3, 2), (7, 3), (8, 0), (9, 0)] (by kernel_rfl) (by kernel_rfl) (by kernel_rfl) (by kernel_rfl) (by kernel_rfl) (by kernel_rfl) (fun c a d v w h => by cases d <;> exact h) ?_
            refine seq_calc (by simp only [List.getElem?_toArray, List.getElem?_cons_succ, List.getElem?_cons_zero]; rfl) (by rfl) (fun u => by go_simp <;> with_reducible rfl) ?_
            try simp only [Act.put, List.setIfInBounds_toArray, List.set_cons_zero, List.set_cons_succ]
            refine seq_calc (by simp only [List.getElem?_toArray, List.getElem?_cons_succ, List.getElem?_cons_zero]; rfl) (by rfl) (fun u => by go_simp <;> with_reducible rfl) ?_
            try simp only [Act.put, List.setIfInBounds_toArray, List.set_cons_zero, List.set_cons_succ]
            refine seq_load1 (by simp only [List.getElem?_toArray, List.getElem?_cons_succ, List.getElem?_cons_zero]; rfl) (by rfl) rfl rfl Tryd.underlying3 rfl (by go_simp <;> with_reducible rfl) (by first | exact id | assumption | (simp; done) | (simp; omega)) ?_
            try simp only [Act.put, List.setIfInBounds_toArray, List.set_cons_zero, List.set_cons_succ]
            refine seq_calc (by simp only [List.getElem?_toArray, List.getElem?_cons_succ, List.getElem?_cons_zero]; rfl) (by rfl) (fun u => by go_simp <;> with_reducible rfl) ?_
            try simp only [Act.put, List.setIfInBounds_toArray, List.set_cons_zero, List.set_cons_succ]
            refine seq_calc (by simp only [List.getElem?_toArray, List.getElem?_cons_succ, List.getElem?_cons_zero]; rfl) (by rfl) (fun u => by go_simp <;> with_reducible rfl) ?_
            try simp only [Act.put, List.setIfInBounds_toArray, List.set_cons_zero, List.set_cons_succ]
            refine seq_load1 (by simp only [List.getElem?_toArray, List.getElem?_cons_succ, List.getElem?_cons_zero]; rfl) (by rfl) rfl rfl Tryd.underlying3 rfl (by go_simp <;> with_reducible rfl) (by first | exact id | assumption | (simp; done) | (simp; omega)) ?_
            try simp only [Act.put, List.setIfInBounds_toArray, List.set_cons_zero, List.set_cons_succ]
            refine seq_do (by simp only [List.getElem?_toArray, List.getElem?_cons_succ, List.getElem?_cons_zero]; rfl) (by rfl) (fun K hK => ?_); go_wp2_with (first | (go_at_call 5; refine (SP.out _ (by exact MW.out)).mono ?_; rintro e w2 ⟨rfl, MW2, h2⟩; have MR1 := h2.blk MR.out (by omega); have MM2 := h2.blk MM.out (by omega); have MB2 := HBW.out.trans (h2.undrew.below HBW.out.size (fun k hk e => by omega)); have hX2 : Chg (fun b => b = w1.heap.size ∨ b = w1.heap.size + 1 ∨ b = w1.heap.size + 1 + 1) _ w2 := h2.mono (fun i _ e => by omega); have c81' := (h2.cells wr.heap.size 1 (by show wr.heap.size < W.heap.size; omega) (by omega)).trans c81; replace MW2 := Lib.hid MW2; replace MM2 := Lib.hid MM2; replace MR1 := Lib.hid MR1; replace MB2 := Lib.hid MB2) | (go_at_call 6; refine (RS.out _ (by exact MR1.out)).mono ?_; rintro e w3 ⟨rfl, MR3, h3⟩; have MW3 := h3.blk MW2.out (by omega); have MM3 := h3.blk MM2.out (by omega); have MB3 := MB2.out.trans (h3.below MB2.out.size (fun k hk e => by omega)))); refine hK.out _ _ (by first | (with_reducible exact Chg.refl _ _) | (with_reducible assumption) | (refine Chg.of_below ?_; with_reducible assumption) | (with_reducible exact (Chg.refl _ _).alloc _) | (with_reducible exact (Chg.refl _ _).drewN _) | (with_reducible exact (Chg.refl _ _).drew) | exact ⟨rfl, rfl, rfl, Nat.le_refl _, fun _ _ _ => rfl⟩) ?_; clear hK K
            try simp only [Act.put, List.setIfInBounds_toArray, List.set_cons_zero, List.set_cons_succ]
            refine seq_last (by simp only [List.getElem?_toArray, List.getElem?_cons_succ, List.getElem?_cons_zero]; rfl) (by rfl) (fun K hK => ?_); go_wp2_with (first | (go_at_call 5; refine (SP.out _ (by exact MW.out)).mono ?_; rintro e w2 ⟨rfl, MW2, h2⟩; have MR1 := h2.blk MR.out (by omega); have MM2 := h2.blk MM.out (by omega); have MB2 := HBW.out.trans (h2.undrew.below HBW.out.size (fun k hk e => by omega)); have hX2 : Chg (fun b => b = w1.heap.size ∨ b = w1.heap.size + 1 ∨ b = w1.heap.size + 1 + 1) _ w2 := h2.mono (fun i _ e => by omega); have c81' := (h2.cells wr.heap.size 1 (by show wr.heap.size < W.heap.size; omega) (by omega)).trans c81; replace MW2 := Lib.hid MW2; replace MM2 := Lib.hid MM2; replace MR1 := Lib.hid MR1; replace MB2 := Lib.hid MB2) | (go_at_call 6; refine (RS.out _ (by exact MR1.out)).mono ?_; rintro e w3 ⟨rfl, MR3, h3⟩; have MW3 := h3.blk MW2.out (by omega); have MM3 := h3.blk MM2.out (by omega); have MB3 := MB2.out.trans (h3.below MB2.out.size (fun k hk e => by omega)))); refine hK.out _ _ ?_; clear hK K
            try simp only [Act.put, List.setIfInBounds_toArray, List.set_cons_zero, List.set_cons_succ]
            refine seq_calc (by simp only [List.getElem?_toArray, List.getElem?_cons_succ, List.getElem?_cons_zero]; rfl) (by rfl) (fun u => by go_simp <;> with_reducible rfl) ?_
            try simp only [Act.put, List.setIfInBounds_toArray, List.set_cons_zero, List.set_cons_succ]
            refine seq_calc (by simp only [List.getElem?_toArray, List.getElem?_cons_succ, List.getElem?_cons_zero]; rfl) (by rfl) (fun u => by go_simp <;> with_reducible rfl) ?_
            try simp only [Act.put, List.setIfInBounds_toArray, List.set_cons_zero, List.set_cons_succ]
            refine seq_nil ?_
            go_wp2
            have hsum : L + d + G = L + G + d := by omega
            have hwr : IntKind.i64.wrap (L + G + d) = L + G + d := IntWalk.i64_in _ (by omega)
            refine wp_at (fun w hw => ?_)
            have NW : Blk w w1.heap.size 29 (washC (L + d) G (.float .f64 0) (.float .f64 0)) := by rw [hw]; exact MW3
            have NR : Blk w (w1.heap.size + 1) 32 (refC (L + d) G) := by rw [hw]; exact MR3
            have NM : Blk w (w1.heap.size + 1 + 1) 37 (mtrS G).cells := by rw [hw]; exact MM3
            have NB : Below w0.heap.size w0 w := by rw [hw]; exact MB3
            clear hw MW3 MR3 MM3 MB3
            have hlr := NR.lt
            obtain ⟨r0, r1, _, _⟩ := ref_cells NR
            replace NW := Lib.hid NW; replace NR := Lib.hid NR; replace NM := Lib.hid NM; replace NB := Lib.hid NB
            refine wp_region_seq (fun _ => False) #[⟨0, 0, 590295810358705651712, 512, 0⟩, ⟨0, 0, 1180591620717411303424, 1024, 0⟩, ⟨3, 3, 2361183241434822606848, 1770887431076116955136, 0⟩, ⟨4, 7, 4722366482869645213696, 2361183241434822606848, 0⟩, ⟨8, 15, 9444732965739290427392, 4722366482869645213704, 0⟩, ⟨24, 31, 18889465931478580854784, 14167099448608935641088, 2⟩, ⟨8, 15, 37778931862957161709568, 4722366482869645213712, 0⟩, ⟨72, 79, 75557863725914323419136, 42501298345826806923264, 0⟩, ⟨136, 207, 151115727451828646838272, 80280230208783968632832, 0⟩, ⟨264, 463, 302231454903657293676544, 155838093934698292051968, 1⟩, ⟨552, 1023, 604462909807314587353088, 325843287318005519745024, 0⟩, ⟨1032, 2047, 1208925819614629174706176, 609185276290184232566784, 0⟩, ⟨2080, 4095, 2417851639229258349412352, 1208925819614629174706176, 0⟩, ⟨4096, 8191, 4835703278458516698824704, 2417851639229258349412360, 0⟩, ⟨12288, 16383, 9671406556917033397649408, 7253554917687775048237056, 2⟩, ⟨4096, 8191, 19342813113834066795298816, 2417851639229258349412368, 0⟩, ⟨36864, 40959, 38685626227668133590597632, 21760664753063325144711168, 0⟩, ⟨69632, 106495, 77371252455336267181195264, 41103477866897391940009984, 0⟩, ⟨135168, 237567, 154742504910672534362390528, 79789104094565525530607616, 1⟩, ⟨282624, 524287, 309485009821345068724781056, 166831763106818826109452288, 0⟩, ⟨528384, 1048575, 618970019642690137449562112, 311902861460574327074193408, 0⟩, ⟨1064960, 2097151, 1237940039285380274899124224, 618970019642690137449562112, 0⟩, ⟨2097152, 4194303, 2475880078570760549798248448, 1237940039285380274899124256, 0⟩, ⟨6291456, 8388607, 4951760157141521099596496896, 3713820117856140824697372672, 2⟩, ⟨10485760, 16777215, 9903520314283042199192993792, 6189700196426901374495621120, 0⟩, ⟨2097152, 4194303, 19807040628566084398385987584, 1237940039285380274899124240, 0⟩, ⟨35651584, 37748735, 39614081257132168796771975168, 21044980667851464673285111808, 0⟩, ⟨69206016, 104857599, 79228162514264337593543950336, 40852021296417549071671099392, 0⟩, ⟨136314880, 239075327, 158456325028528675187087900672, 80466102553549717868443074560, 1⟩, ⟨287309824, 536870911, 316912650057057350374175801344, 169597785382097097661180018688, 0⟩, ⟨538968064, 1073741823, 633825300114114700748351602688, 318150590096342730649074925568, 0⟩, ⟨1082130432, 2147483647, 1267650600228229401496703205376, 633825300114114700748351602688, 0⟩, ⟨2147483648, 4294967295, 2535301200456458802993406410752, 1267650600228229401496703205384, 0⟩, ⟨6442450944, 8589934591, 5070602400912917605986812821504, 3802951800684688204490109616128, 3⟩, ⟨2147483648, 4294967295, 10141204801825835211973625643008, 1267650600228229401496703205384, 0⟩, ⟨27917287424, 34359738367, 20282409603651670423947251286016, 11408855402054064613470328848384, 3⟩, ⟨45097156608, 68719476735, 40564819207303340847894502572032, 26620662604792817431430767312896, 0⟩, ⟨2147483648, 4294967295, 81129638414606681695789005144064, 1267650600228229401496703205440, 0⟩, ⟨208305913856, 274877906943, 162259276829213363391578010288128, 122962108222138251945180210921472, 0⟩, ⟨277025390592, 549755813887, 324518553658426726783156020576256, 163526927429441592793074713493504, 0⟩] 268698112 [(0, 0), (1, 0), (2, 0), (3, 0), (4, 0), (6, 0), (7, 0), (8, 0), (9, 1), (5, 2), (10, 0), (11, 0), (12, 0), (13, 0), (15, 0), (16, 0), (17, 0), (18, 1), (14, 2), (19, 0), (20, 0), (21, 0), (22, 0), (25, 0), (26, 0), (27, 0), (28, 1), (23, 2), (24, 0), (29, 0), (30, 0), (31, 0), (32, 0), (34, 0), (37, 0), (33, 3), (35, 3), (36, 0), (38, 0), (39, 0)] (by kernel_rfl) (by kernel_rfl) (by kernel_rfl) (by kernel_rfl) (by kernel_rfl) (by kernel_rfl) (fun c a d v w h => by cases d <;> exact h) ?_
            refine seq_calc (by simp only [List.getElem?_toArray, List.getElem?_cons_succ, List.getElem?_cons_zero]; rfl) (by rfl) (fun u => by go_simp <;> with_reducible rfl) ?_
            try simp only [Act.put, List.setIfInBounds_toArray, List.set_cons_zero, List.set_cons_succ]
            refine seq_calc (by simp only [List.getElem?_toArray, List.getElem?_cons_succ, List.getElem?_cons_zero]; rfl) (by rfl) (fun u => by go_simp <;> with_reducible rfl) ?_
            try simp only [Act.put, List.setIfInBounds_toArray, List.set_cons_zero, List.set_cons_succ]
            refine seq_calc (by simp only [List.getElem?_toArray, List.getElem?_cons_succ, List.getElem?_cons_zero]; rfl) (by rfl) (fun u => by go_simp <;> with_reducible rfl) ?_
            try simp only [Act.put, List.setIfInBounds_toArray, List.set_cons_zero, List.set_cons_succ]
            refine seq_calc (by simp only [List.getElem?_toArray, List.getElem?_cons_succ, List.getElem?_cons_zero]; rfl) (by rfl) (fun u => by go_simp <;> with_reducible rfl) ?_
            try simp only [Act.put, List.setIfInBounds_toArray, List.set_cons_zero, List.set_cons_succ]
            first
              | (refine seq_skip (by simp only [List.getElem?_toArray, List.getElem?_cons_succ, List.getElem?_cons_zero]; rfl) (by rfl) ?_)
              | (refine seq_calc (by simp only [List.getElem?_toArray, List.getElem?_cons_succ, List.getElem?_cons_zero]; rfl) (by rfl) (fun u => by go_simp <;> with_reducible rfl) ?_)
            try simp only [Act.put, List.setIfInBounds_toArray, List.set_cons_zero, List.set_cons_succ]
            first
              | (refine seq_skip (by simp only [List.getElem?_toArray, List.getElem?_cons_succ, List.getElem?_cons_zero]; rfl) (by rfl) ?_)
              | (refine seq_calc (by simp only [List.getElem?_toArray, List.getElem?_cons_succ, List.getElem?_cons_zero]; rfl) (by rfl) (fun u => by go_simp <;> with_reducible rfl) ?_)
            try simp only [Act.put, List.setIfInBounds_toArray, List.set_cons_zero, List.set_cons_succ]
            first
              | (refine seq_skip (by simp only [List.getElem?_toArray, List.getElem?_cons_succ, List.getElem?_cons_zero]; rfl) (by rfl) ?_)
              | (refine seq_calc (by simp only [List.getElem?_toArray, List.getElem?_cons_succ, List.getElem?_cons_zero]; rfl) (by rfl) (fun u => by go_simp <;> with_reducible rfl) ?_)
            try simp only [Act.put, List.setIfInBounds_toArray, List.set_cons_zero, List.set_cons_succ]
            first
              | (refine seq_skip (by simp only [List.getElem?_toArray, List.getElem?_cons_succ, List.getElem?_cons_zero]; rfl) (by rfl) ?_)
              | (refine seq_calc (by simp only [List.getElem?_toArray, List.getElem?_cons_succ, List.getElem?_cons_zero]; rfl) (by rfl) (fun u => by go_simp <;> with_reducible rfl) ?_)
            try simp only [Act.put, List.setIfInBounds_toArray, List.set_cons_zero, List.set_cons_succ]
            first
              | (refine seq_skip (by simp only [List.getElem?_toArray, List.getElem?_cons_succ, List.getElem?_cons_zero]; rfl) (by rfl) ?_)
              | (refine seq_load1 (by simp only [List.getElem?_toArray, List.getElem?_cons_succ, List.getElem?_cons_zero]; rfl) (by rfl) rfl rfl Tryd.underlying3 rfl (by go_simp <;> with_reducible rfl) (by first | exact id | assumption | (simp; done) | (simp; omega)) ?_)
            try simp only [Act.put, List.setIfInBounds_toArray, List.set_cons_zero, List.set_cons_succ]
            first
              | (refine seq_skip (by simp only [List.getElem?_toArray, List.getElem?_cons_succ, List.getElem?_cons_zero]; rfl) (by rfl) ?_)
              | (refine seq_do (by simp only [List.getElem?_toArray, List.getElem?_cons_succ, List.getElem?_cons_zero]; rfl) (by rfl) (fun K hK => ?_); go_wp2_with (first | (go_at_call 10; refine (left_any w1.heap.size _ (L + d) G _ _ _ (by first | exact NW.out | exact NW.out.below hB1 NW.out.lt)).mono ?_; rintro e w' ⟨rfl, rfl⟩) | (go_at_call 11; refine (gone_any w1.heap.size _ (L + d) G _ _ _ (by first | exact NW.out | exact NW.out.below hB1 NW.out.lt)).mono ?_; rintro e w' ⟨rfl, rfl⟩) | (go_at_call 12; refine (allW_any G (w1.heap.size + 1 + 1) _ _ (by exact NM.out)).mono ?_; rintro e w4 ⟨rfl, hb4⟩; have hB1 : Below w.heap.size w w4 := (by first | exact hB1.trans (hb4.mono hB1.size) | exact Below.trans (by go_grown) (hb4.mono (by simp <;> omega))); have hcw1heapsize__1 := fun (o : Nat) => hb4.cell (p := ⟨w1.heap.size + 1, o, none⟩) (by first | assumption | (simp <;> omega)); have hfw1heapsize__1 := fun (o : Nat) => hb4.frozen (p := ⟨w1.heap.size + 1, o, none⟩) (by first | assumption | (simp <;> omega)); have hzw1heapsize__1 : w1.heap.size + 1 < w4.heap.size := Nat.lt_of_lt_of_le (by first | assumption | (simp <;> omega)) hb4.size)); refine hK.out _ _ (by first | (with_reducible exact Chg.refl _ _) | (with_reducible assumption) | (refine Chg.of_below ?_; with_reducible assumption) | (with_reducible exact (Chg.refl _ _).alloc _) | (with_reducible exact (Chg.refl _ _).drewN _) | (with_reducible exact (Chg.refl _ _).drew) | exact ⟨rfl, rfl, rfl, Nat.le_refl _, fun _ _ _ => rfl⟩) ?_; clear hK K)
            try simp only [Act.put, List.setIfInBounds_toArray, List.set_cons_zero, List.set_cons_succ]
            first
              | (refine seq_skip (by simp only [List.getElem?_toArray, List.getElem?_cons_succ, List.getElem?_cons_zero]; rfl) (by rfl) ?_)
              | (refine seq_calc (by simp only [List.getElem?_toArray, List.getElem?_cons_succ, List.getElem?_cons_zero]; rfl) (by rfl) (fun u => by go_simp <;> with_reducible rfl) ?_)
            try simp only [Act.put, List.setIfInBounds_toArray, List.set_cons_zero, List.set_cons_succ]
            refine seq_calc (by simp only [List.getElem?_toArray, List.getElem?_cons_succ, List.getElem?_cons_zero]; rfl) (by rfl) (fun u => by go_simp <;> with_reducible rfl) ?_
            try simp only [Act.put, List.setIfInBounds_toArray, List.set_cons_zero, List.set_cons_succ]
            refine seq_calc (by simp only [List.getElem?_toArray, List.getElem?_cons_succ, List.getElem?_cons_zero]; rfl) (by rfl) (fun u => by go_simp <;> with_reducible rfl) ?_
            try simp only [Act.put, List.setIfInBounds_toArray, List.set_cons_zero, List.set_cons_succ]
            first
              | (refine seq_skip (by simp only [List.getElem?_toArray, List.getElem?_cons_succ, List.getElem?_cons_zero]; rfl) (by rfl) ?_)
              | (refine seq_calc (by simp only [List.getElem?_toArray, List.getElem?_cons_succ, List.getElem?_cons_zero]; rfl) (by rfl) (fun u => by go_simp <;> with_reducible rfl) ?_)
            try simp only [Act.put, List.setIfInBounds_toArray, List.set_cons_zero, List.set_cons_succ]
            first
              | (refine seq_skip (by simp only [List.getElem?_toArray, List.getElem?_cons_succ, List.getElem?_cons_zero]; rfl) (by rfl) ?_)
              | (refine seq_calc (by simp only [List.getElem?_toArray, List.getElem?_cons_succ, List.getElem?_cons_zero]; rfl) (by rfl) (fun u => by go_simp <;> with_reducible rfl) ?_)
            try simp only [Act.put, List.setIfInBounds_toArray, List.set_cons_zero, List.set_cons_succ]
            first
              | (refine seq_skip (by simp only [List.getElem?_toArray, List.getElem?_cons_succ, List.getElem?_cons_zero]; rfl) (by rfl) ?_)
              | (refine seq_calc (by simp only [List.getElem?_toArray, List.getElem?_cons_succ, List.getElem?_cons_zero]; rfl) (by rfl) (fun u => by go_simp <;> with_reducible rfl) ?_)
            try simp only [Act.put, List.setIfInBounds_toArray, List.set_cons_zero, List.set_cons_succ]
            first
              | (refine seq_skip (by simp only [List.getElem?_toArray, List.getElem?_cons_succ, List.getElem?_cons_zero]; rfl) (by rfl) ?_)
              | (refine seq_calc (by simp only [List.getElem?_toArray, List.getElem?_cons_succ, List.getElem?_cons_zero]; rfl) (by rfl) (fun u => by go_simp <;> with_reducible rfl) ?_)
            try simp only [Act.put, List.setIfInBounds_toArray, List.set_cons_zero, List.set_cons_succ]
            first
              | (refine seq_skip (by simp only [List.getElem?_toArray, List.getElem?_cons_succ, List.getElem?_cons_zero]; rfl) (by rfl) ?_)
              | (refine seq_load1 (by simp only [List.getElem?_toArray, List.getElem?_cons_succ, List.getElem?_cons_zero]; rfl) (by rfl) rfl rfl Tryd.underlying3 rfl (by go_simp <;> with_reducible rfl) (by first | exact id | assumption | (simp; done) | (simp; omega)) ?_)
            try simp only [Act.put, List.setIfInBounds_toArray, List.set_cons_zero, List.set_cons_succ]
            first
              | (refine seq_skip (by simp only [List.getElem?_toArray, List.getElem?_cons_succ, List.getElem?_cons_zero]; rfl) (by rfl) ?_)
              | (refine seq_do (by simp only [List.getElem?_toArray, List.getElem?_cons_succ, List.getElem?_cons_zero]; rfl) (by rfl) (fun K hK => ?_); go_wp2_with (first | (go_at_call 10; refine (left_any w1.heap.size _ (L + d) G _ _ _ (by first | exact NW.out | exact NW.out.below hB1 NW.out.lt)).mono ?_; rintro e w' ⟨rfl, rfl⟩) | (go_at_call 11; refine (gone_any w1.heap.size _ (L + d) G _ _ _ (by first | exact NW.out | exact NW.out.below hB1 NW.out.lt)).mono ?_; rintro e w' ⟨rfl, rfl⟩) | (go_at_call 12; refine (allW_any G (w1.heap.size + 1 + 1) _ _ (by exact NM.out)).mono ?_; rintro e w4 ⟨rfl, hb4⟩; have hB1 : Below w.heap.size w w4 := (by first | exact hB1.trans (hb4.mono hB1.size) | exact Below.trans (by go_grown) (hb4.mono (by simp <;> omega))); have hcw1heapsize__1 := fun (o : Nat) => hb4.cell (p := ⟨w1.heap.size + 1, o, none⟩) (by first | assumption | (simp <;> omega)); have hfw1heapsize__1 := fun (o : Nat) => hb4.frozen (p := ⟨w1.heap.size + 1, o, none⟩) (by first | assumption | (simp <;> omega)); have hzw1heapsize__1 : w1.heap.size + 1 < w4.heap.size := Nat.lt_of_lt_of_le (by first | assumption | (simp <;> omega)) hb4.size)); refine hK.out _ _ (by first | (with_reducible exact Chg.refl _ _) | (with_reducible assumption) | (refine Chg.of_below ?_; with_reducible assumption) | (with_reducible exact (Chg.refl _ _).alloc _) | (with_reducible exact (Chg.refl _ _).drewN _) | (with_reducible exact (Chg.refl _ _).drew) | exact ⟨rfl, rfl, rfl, Nat.le_refl _, fun _ _ _ => rfl⟩) ?_; clear hK K)
            try simp only [Act.put, List.setIfInBounds_toArray, List.set_cons_zero, List.set_cons_succ]
            first
              | (refine seq_skip (by simp only [List.getElem?_toArray, List.getElem?_cons_succ, List.getElem?_cons_zero]; rfl) (by rfl) ?_)
              | (refine seq_calc (by simp only [List.getElem?_toArray, List.getElem?_cons_succ, List.getElem?_cons_zero]; rfl) (by rfl) (fun u => by go_simp <;> with_reducible rfl) ?_)
            try simp only [Act.put, List.setIfInBounds_toArray, List.set_cons_zero, List.set_cons_succ]
            refine seq_calc (by simp only [List.getElem?_toArray, List.getElem?_cons_succ, List.getElem?_cons_zero]; rfl) (by rfl) (fun u => by go_simp <;> with_reducible rfl) ?_
            try simp only [Act.put, List.setIfInBounds_toArray, List.set_cons_zero, List.set_cons_succ]
            refine seq_calc (by simp only [List.getElem?_toArray, List.getElem?_cons_succ, List.getElem?_cons_zero]; rfl) (by rfl) (fun u => by go_simp <;> with_reducible rfl) ?_
            try simp only [Act.put, List.setIfInBounds_toArray, List.set_cons_zero, List.set_cons_succ]
            first
              | (refine seq_skip (by simp only [List.getElem?_toArray, List.getElem?_cons_succ, List.getElem?_cons_zero]; rfl) (by rfl) ?_)
              | (refine seq_calc (by simp only [List.getElem?_toArray, List.getElem?_cons_succ, List.getElem?_cons_zero]; rfl) (by rfl) (fun u => by go_simp <;> with_reducible rfl) ?_)
            try simp only [Act.put, List.setIfInBounds_toArray, List.set_cons_zero, List.set_cons_succ]
            first
              | (refine seq_skip (by simp only [List.getElem?_toArray, List.getElem?_cons_succ, List.getElem?_cons_zero]; rfl) (by rfl) ?_)
              | (refine seq_calc (by simp only [List.getElem?_toArray, List.getElem?_cons_succ, List.getElem?_cons_zero]; rfl) (by rfl) (fun u => by go_simp <;> with_reducible rfl) ?_)
            try simp only [Act.put, List.setIfInBounds_toArray, List.set_cons_zero, List.set_cons_succ]
            first
              | (refine seq_skip (by simp only [List.getElem?_toArray, List.getElem?_cons_succ, List.getElem?_cons_zero]; rfl) (by rfl) ?_)
              | (refine seq_calc (by simp only [List.getElem?_toArray, List.getElem?_cons_succ, List.getElem?_cons_zero]; rfl) (by rfl) (fun u => by go_simp <;> with_reducible rfl) ?_)
            try simp only [Act.put, List.setIfInBounds_toArray, List.set_cons_zero, List.set_cons_succ]
            first
              | (refine seq_skip (by simp only [List.getElem?_toArray, List.getElem?_cons_succ, List.getElem?_cons_zero]; rfl) (by rfl) ?_)
              | (refine seq_calc (by simp only [List.getElem?_toArray, List.getElem?_cons_succ, List.getElem?_cons_zero]; rfl) (by rfl) (fun u => by go_simp <;> with_reducible rfl) ?_)
            try simp only [Act.put, List.setIfInBounds_toArray, List.set_cons_zero, List.set_cons_succ]
            first
              | (refine seq_skip (by simp only [List.getElem?_toArray, List.getElem?_cons_succ, List.getElem?_cons_zero]; rfl) (by rfl) ?_)
              | (refine seq_load1 (by simp only [List.getElem?_toArray, List.getElem?_cons_succ, List.getElem?_cons_zero]; rfl) (by rfl) rfl rfl Tryd.underlying3 rfl (by go_simp <;> with_reducible rfl) (by first | exact id | assumption | (simp; done) | (simp; omega)) ?_)
            try simp only [Act.put, List.setIfInBounds_toArray, List.set_cons_zero, List.set_cons_succ]
            first
              | (refine seq_skip (by simp only [List.getElem?_toArray, List.getElem?_cons_succ, List.getElem?_cons_zero]; rfl) (by rfl) ?_)
              | (refine seq_do (by simp only [List.getElem?_toArray, List.getElem?_cons_succ, List.getElem?_cons_zero]; rfl) (by rfl) (fun K hK => ?_); go_wp2_with (first | (go_at_call 10; refine (left_any w1.heap.size _ (L + d) G _ _ _ (by first | exact NW.out | exact NW.out.below hB1 NW.out.lt)).mono ?_; rintro e w' ⟨rfl, rfl⟩) | (go_at_call 11; refine (gone_any w1.heap.size _ (L + d) G _ _ _ (by first | exact NW.out | exact NW.out.below hB1 NW.out.lt)).mono ?_; rintro e w' ⟨rfl, rfl⟩) | (go_at_call 12; refine (allW_any G (w1.heap.size + 1 + 1) _ _ (by exact NM.out)).mono ?_; rintro e w4 ⟨rfl, hb4⟩; have hB1 : Below w.heap.size w w4 := (by first | exact hB1.trans (hb4.mono hB1.size) | exact Below.trans (by go_grown) (hb4.mono (by simp <;> omega))); have hcw1heapsize__1 := fun (o : Nat) => hb4.cell (p := ⟨w1.heap.size + 1, o, none⟩) (by first | assumption | (simp <;> omega)); have hfw1heapsize__1 := fun (o : Nat) => hb4.frozen (p := ⟨w1.heap.size + 1, o, none⟩) (by first | assumption | (simp <;> omega)); have hzw1heapsize__1 : w1.heap.size + 1 < w4.heap.size := Nat.lt_of_lt_of_le (by first | assumption | (simp <;> omega)) hb4.size)); refine hK.out _ _ (by first | (with_reducible exact Chg.refl _ _) | (with_reducible assumption) | (refine Chg.of_below ?_; with_reducible assumption) | (with_reducible exact (Chg.refl _ _).alloc _) | (with_reducible exact (Chg.refl _ _).drewN _) | (with_reducible exact (Chg.refl _ _).drew) | exact ⟨rfl, rfl, rfl, Nat.le_refl _, fun _ _ _ => rfl⟩) ?_; clear hK K)
            try simp only [Act.put, List.setIfInBounds_toArray, List.set_cons_zero, List.set_cons_succ]
            first
              | (refine seq_skip (by simp only [List.getElem?_toArray, List.getElem?_cons_succ, List.getElem?_cons_zero]; rfl) (by rfl) ?_)
              | (refine seq_calc (by simp only [List.getElem?_toArray, List.getElem?_cons_succ, List.getElem?_cons_zero]; rfl) (by rfl) (fun u => by go_simp <;> with_reducible rfl) ?_)
            try simp only [Act.put, List.setIfInBounds_toArray, List.set_cons_zero, List.set_cons_succ]
            first
              | (refine seq_skip (by simp only [List.getElem?_toArray, List.getElem?_cons_succ, List.getElem?_cons_zero]; rfl) (by rfl) ?_)
              | (refine seq_calc (by simp only [List.getElem?_toArray, List.getElem?_cons_succ, List.getElem?_cons_zero]; rfl) (by rfl) (fun u => by go_simp <;> with_reducible rfl) ?_)
            try simp only [Act.put, List.setIfInBounds_toArray, List.set_cons_zero, List.set_cons_succ]
            refine seq_calc (by simp only [List.getElem?_toArray, List.getElem?_cons_succ, List.getElem?_cons_zero]; rfl) (by rfl) (fun u => by go_simp <;> with_reducible rfl) ?_
            try simp only [Act.put, List.setIfInBounds_toArray, List.set_cons_zero, List.set_cons_succ]
            refine seq_calc (by simp only [List.getElem?_toArray, List.getElem?_cons_succ, List.getElem?_cons_zero]; rfl) (by rfl) (fun u => by go_simp <;> with_reducible rfl) ?_
            try simp only [Act.put, List.setIfInBounds_toArray, List.set_cons_zero, List.set_cons_succ]
            first
              | (refine seq_skip (by simp only [List.getElem?_toArray, List.getElem?_cons_succ, List.getElem?_cons_zero]; rfl) (by rfl) ?_)
              | (refine seq_calc (by simp only [List.getElem?_toArray, List.getElem?_cons_succ, List.getElem?_cons_zero]; rfl) (by rfl) (fun u => by go_simp <;> with_reducible rfl) ?_)
            try simp only [Act.put, List.setIfInBounds_toArray, List.set_cons_zero, List.set_cons_succ]
            first
              | (refine seq_skip (by simp only [List.getElem?_toArray, List.getElem?_cons_succ, List.getElem?_cons_zero]; rfl) (by rfl) ?_)
              | (refine seq_calc (by simp only [List.getElem?_toArray, List.getElem?_cons_succ, List.getElem?_cons_zero]; rfl) (by rfl) (fun u => by go_simp <;> with_reducible rfl) ?_)
            try simp only [Act.put, List.setIfInBounds_toArray, List.set_cons_zero, List.set_cons_succ]
            first
              | (refine seq_skip (by simp only [List.getElem?_toArray, List.getElem?_cons_succ, List.getElem?_cons_zero]; rfl) (by rfl) ?_)
              | (refine seq_calc (by simp only [List.getElem?_toArray, List.getElem?_cons_succ, List.getElem?_cons_zero]; rfl) (by rfl) (fun u => by go_simp <;> with_reducible rfl) ?_)
            try simp only [Act.put, List.setIfInBounds_toArray, List.set_cons_zero, List.set_cons_succ]
            first
              | (refine seq_skip (by simp only [List.getElem?_toArray, List.getElem?_cons_succ, List.getElem?_cons_zero]; rfl) (by rfl) ?_)
              | (refine seq_last (by simp only [List.getElem?_toArray, List.getElem?_cons_succ, List.getElem?_cons_zero]; rfl) (by rfl) (fun K hK => ?_); go_wp2_with (first | (go_at_call 10; refine (left_any w1.heap.size _ (L + d) G _ _ _ (by first | exact NW.out | exact NW.out.below hB1 NW.out.lt)).mono ?_; rintro e w' ⟨rfl, rfl⟩) | (go_at_call 11; refine (gone_any w1.heap.size _ (L + d) G _ _ _ (by first | exact NW.out | exact NW.out.below hB1 NW.out.lt)).mono ?_; rintro e w' ⟨rfl, rfl⟩) | (go_at_call 12; refine (allW_any G (w1.heap.size + 1 + 1) _ _ (by exact NM.out)).mono ?_; rintro e w4 ⟨rfl, hb4⟩; have hB1 : Below w.heap.size w w4 := (by first | exact hB1.trans (hb4.mono hB1.size) | exact Below.trans (by go_grown) (hb4.mono (by simp <;> omega))); have hcw1heapsize__1 := fun (o : Nat) => hb4.cell (p := ⟨w1.heap.size + 1, o, none⟩) (by first | assumption | (simp <;> omega)); have hfw1heapsize__1 := fun (o : Nat) => hb4.frozen (p := ⟨w1.heap.size + 1, o, none⟩) (by first | assumption | (simp <;> omega)); have hzw1heapsize__1 : w1.heap.size + 1 < w4.heap.size := Nat.lt_of_lt_of_le (by first | assumption | (simp <;> omega)) hb4.size)); refine hK.out _ _ ?_; clear hK K)
            try simp only [Act.put, List.setIfInBounds_toArray, List.set_cons_zero, List.set_cons_succ]
            first
              | (refine seq_skip (by simp only [List.getElem?_toArray, List.getElem?_cons_succ, List.getElem?_cons_zero]; rfl) (by rfl) ?_)
              | (refine seq_last (by simp only [List.getElem?_toArray, List.getElem?_cons_succ, List.getElem?_cons_zero]; rfl) (by rfl) (fun K hK => ?_); go_wp2_with (first | (go_at_call 10; refine (left_any w1.heap.size _ (L + d) G _ _ _ (by first | exact NW.out | exact NW.out.below hB1 NW.out.lt)).mono ?_; rintro e w' ⟨rfl, rfl⟩) | (go_at_call 11; refine (gone_any w1.heap.size _ (L + d) G _ _ _ (by first | exact NW.out | exact NW.out.below hB1 NW.out.lt)).mono ?_; rintro e w' ⟨rfl, rfl⟩) | (go_at_call 12; refine (allW_any G (w1.heap.size + 1 + 1) _ _ (by exact NM.out)).mono ?_; rintro e w4 ⟨rfl, hb4⟩; have hB1 : Below w.heap.size w w4 := (by first | exact hB1.trans (hb4.mono hB1.size) | exact Below.trans (by go_grown) (hb4.mono (by simp <;> omega))); have hcw1heapsize__1 := fun (o : Nat) => hb4.cell (p := ⟨w1.heap.size + 1, o, none⟩) (by first | assumption | (simp <;> omega)); have hfw1heapsize__1 := fun (o : Nat) => hb4.frozen (p := ⟨w1.heap.size + 1, o, none⟩) (by first | assumption | (simp <;> omega)); have hzw1heapsize__1 : w1.heap.size + 1 < w4.heap.size := Nat.lt_of_lt_of_le (by first | assumption | (simp <;> omega)) hb4.size)); refine hK.out _ _ ?_; clear hK K)
            try simp only [Act.put, List.setIfInBounds_toArray, List.set_cons_zero, List.set_cons_succ]
            first
              | (refine seq_skip (by simp only [List.getElem?_toArray, List.getElem?_cons_succ, List.getElem?_cons_zero]; rfl) (by rfl) ?_)
              | (refine seq_calc (by simp only [List.getElem?_toArray, List.getElem?_cons_succ, List.getElem?_cons_zero]; rfl) (by rfl) (fun u => by go_simp <;> with_reducible rfl) ?_)
            try simp only [Act.put, List.setIfInBounds_toArray, List.set_cons_zero, List.set_cons_succ]
            first
              | (refine seq_skip (by simp only [List.getElem?_toArray, List.getElem?_cons_succ, List.getElem?_cons_zero]; rfl) (by rfl) ?_)
              | (refine seq_calc (by simp only [List.getElem?_toArray, List.getElem?_cons_succ, List.getElem?_cons_zero]; rfl) (by rfl) (fun u => by go_simp <;> with_reducible rfl) ?_)
            try simp only [Act.put, List.setIfInBounds_toArray, List.set_cons_zero, List.set_cons_succ]
            refine seq_calc (by simp only [List.getElem?_toArray, List.getElem?_cons_succ, List.getElem?_cons_zero]; rfl) (by rfl) (fun u => by go_simp <;> with_reducible rfl) ?_
            try simp only [Act.put, List.setIfInBounds_toArray, List.set_cons_zero, List.set_cons_succ]
            refine seq_nil ?_
            go_wp2
            case roundEnd =>
              exact ⟨⟨k + 1, L + d, G, by omega, by go_num, by rw [hsum], by omega, by omega, by omega, by omega, ⟨NW.out.below hB1 NW.out.lt, NM.out.below hB1 NM.out.lt⟩, NR.out.below hB1 NR.out.lt, NB.out.trans (hB1.mono NB.out.size)⟩, by simp [intOf]; omega⟩
          · have hwr : IntKind.i64.wrap (L + G) = L + G := IntWalk.i64_in _ (by omega)
            by_cases q3 : q = 2
            · subst q3
              by_cases q4 : L < 1
              · have hs : spentZ L 1 = 0 := by unfold spentZ mnZ mxZ; omega
                have RS := Lib.hid (fun (w : World) h => refSpend_any (w1.heap.size + 1) 32 L G 1 hL0 hL1 hG0 (by omega) w h)
                rw [hs, Int.sub_zero, Int.add_zero] at RS
                replace hs := Lib.hid hs
                obtain ⟨W, hW⟩ : ∃ W, W = wr.alloc (.cells #[.int .i64 2, .int .i64 N] 39) := ⟨_, rfl⟩
                have mW : Blk W w1.heap.size 29 (washC L G (.float .f64 0) (.float .f64 0)) := by rw [hW]; exact hWM.1.alloc _
                have mR : Blk W (w1.heap.size + 1) 32 (refC L G) := by rw [hW]; exact hRf.alloc _
                have mM : Blk W (w1.heap.size + 1 + 1) 37 (mtrS G).cells := by rw [hW]; exact hWM.2.alloc _
                have m8 : Blk W wr.heap.size 39 #[.int .i64 2, .int .i64 N] := by rw [hW]; exact Blk.new _ _ _
                have hBW : Below w0.heap.size w0 W := by rw [hW]; exact hB.trans (by go_grown)
                have hzW : W.heap.size = wr.heap.size + 1 := by rw [hW]; simp
                replace hW := Lib.hid hW
                have c80 := m8.cell 0
                have c81 := m8.cell 1
                have f80 := m8.frozen 0
                have f81 := m8.frozen 1
                have MW := Lib.hid mW
                have MR := Lib.hid mR
                have MM := Lib.hid mM
                have HBW := Lib.hid hBW
                clear mW mR mM m8 hBW
                go_wp2_with (first | (go_at_call 8; refine (RS.out _ (by rw [← hW.out]; exact MR.out)).mono ?_; rw [← hW.out]; rintro e w3 ⟨rfl, MR3, h3⟩; have MW3 := h3.blk MW.out (by omega); have MM3 := h3.blk MM.out (by omega); have MB3 := HBW.out.trans (h3.below HBW.out.size (fun k hk e => by omega))) | (go_at_call 9; refine (washStep_no w1.heap.size _ L G _ _ _ q4 _ (by exact MW3)).mono ?_; rintro e w' ⟨rfl, rfl⟩))
                refine wp_at (fun w hw => ?_)
                have NW : Blk w w1.heap.size 29 (washC L G (.float .f64 0) (.float .f64 0)) := by rw [hw]; exact MW3
                have NR : Blk w (w1.heap.size + 1) 32 (refC L G) := by rw [hw]; exact MR3
                have NM : Blk w (w1.heap.size + 1 + 1) 37 (mtrS G).cells := by rw [hw]; exact MM3
                have NB : Below w0.heap.size w0 w := by rw [hw]; exact MB3
                clear hw MW3 MR3 MM3 MB3
                have hlr := NR.lt
                obtain ⟨r0, r1, _, _⟩ := ref_cells NR
                replace NW := Lib.hid NW; replace NR := Lib.hid NR; replace NM := Lib.hid NM; replace NB := Lib.hid NB
                refine wp_region_seq (fun _ => False) #[⟨0, 0, 590295810358705651712, 512, 0⟩, ⟨0, 0, 1180591620717411303424, 1024, 0⟩, ⟨3, 3, 2361183241434822606848, 1770887431076116955136, 0⟩, ⟨4, 7, 4722366482869645213696, 2361183241434822606848, 0⟩, ⟨8, 15, 9444732965739290427392, 4722366482869645213704, 0⟩, ⟨24, 31, 18889465931478580854784, 14167099448608935641088, 2⟩, ⟨8, 15, 37778931862957161709568, 4722366482869645213712, 0⟩, ⟨72, 79, 75557863725914323419136, 42501298345826806923264, 0⟩, ⟨136, 207, 151115727451828646838272, 80280230208783968632832, 0⟩, ⟨264, 463, 302231454903657293676544, 155838093934698292051968, 1⟩, ⟨552, 1023, 604462909807314587353088, 325843287318005519745024, 0⟩, ⟨1032, 2047, 1208925819614629174706176, 609185276290184232566784, 0⟩, ⟨2080, 4095, 2417851639229258349412352, 1208925819614629174706176, 0⟩, ⟨4096, 8191, 4835703278458516698824704, 2417851639229258349412360, 0⟩, ⟨12288, 16383, 9671406556917033397649408, 7253554917687775048237056, 2⟩, ⟨4096, 8191, 19342813113834066795298816, 2417851639229258349412368, 0⟩, ⟨36864, 40959, 38685626227668133590597632, 21760664753063325144711168, 0⟩, ⟨69632, 106495, 77371252455336267181195264, 41103477866897391940009984, 0⟩, ⟨135168, 237567, 154742504910672534362390528, 79789104094565525530607616, 1⟩, ⟨282624, 524287, 309485009821345068724781056, 166831763106818826109452288, 0⟩, ⟨528384, 1048575, 618970019642690137449562112, 311902861460574327074193408, 0⟩, ⟨1064960, 2097151, 1237940039285380274899124224, 618970019642690137449562112, 0⟩, ⟨2097152, 4194303, 2475880078570760549798248448, 1237940039285380274899124256, 0⟩, ⟨6291456, 8388607, 4951760157141521099596496896, 3713820117856140824697372672, 2⟩, ⟨10485760, 16777215, 9903520314283042199192993792, 6189700196426901374495621120, 0⟩, ⟨2097152, 4194303, 19807040628566084398385987584, 1237940039285380274899124240, 0⟩, ⟨35651584, 37748735, 39614081257132168796771975168, 21044980667851464673285111808, 0⟩, ⟨69206016, 104857599, 79228162514264337593543950336, 40852021296417549071671099392, 0⟩, ⟨136314880, 239075327, 158456325028528675187087900672, 80466102553549717868443074560, 1⟩, ⟨287309824, 536870911, 316912650057057350374175801344, 169597785382097097661180018688, 0⟩, ⟨538968064, 1073741823, 633825300114114700748351602688, 318150590096342730649074925568, 0⟩, ⟨1082130432, 2147483647, 1267650600228229401496703205376, 633825300114114700748351602688, 0⟩, ⟨2147483648, 4294967295, 2535301200456458802993406410752, 1267650600228229401496703205384, 0⟩, ⟨6442450944, 8589934591, 5070602400912917605986812821504, 3802951800684688204490109616128, 3⟩, ⟨2147483648, 4294967295, 10141204801825835211973625643008, 1267650600228229401496703205384, 0⟩, ⟨27917287424, 34359738367, 20282409603651670423947251286016, 11408855402054064613470328848384, 3⟩, ⟨45097156608, 68719476735, 40564819207303340847894502572032, 26620662604792817431430767312896, 0⟩, ⟨2147483648, 4294967295, 81129638414606681695789005144064, 1267650600228229401496703205440, 0⟩, ⟨208305913856, 274877906943, 162259276829213363391578010288128, 122962108222138251945180210921472, 0⟩, ⟨277025390592, 549755813887, 324518553658426726783156020576256, 163526927429441592793074713493504, 0⟩] 268698112 [(0, 0), (1, 0), (2, 0), (3, 0), (4, 0), (6, 0), (7, 0), (8, 0), (9, 1), (5, 2), (10, 0), (11, 0), (12, 0), (13, 0), (15, 0), (16, 0), (17, 0), (18, 1), (14, 2), (19, 0), (20, 0), (21, 0), (22, 0), (25, 0), (26, 0), (27, 0), (28, 1), (23, 2), (24, 0), (29, 0), (30, 0), (31, 0), (32, 0), (34, 0), (37, 0), (33, 3), (35, 3), (36, 0), (38, 0), (39, 0)] (by kernel_rfl) (by kernel_rfl) (by kernel_rfl) (by kernel_rfl) (by kernel_rfl) (by kernel_rfl) (fun c a d v w h => by cases d <;> exact h) ?_
                refine seq_calc (by simp only [List.getElem?_toArray, List.getElem?_cons_succ, List.getElem?_cons_zero]; rfl) (by rfl) (fun u => by go_simp <;> with_reducible rfl) ?_
                try simp only [Act.put, List.setIfInBounds_toArray, List.set_cons_zero, List.set_cons_succ]
                refine seq_calc (by simp only [List.getElem?_toArray, List.getElem?_cons_succ, List.getElem?_cons_zero]; rfl) (by rfl) (fun u => by go_simp <;> with_reducible rfl) ?_
                try simp only [Act.put, List.setIfInBounds_toArray, List.set_cons_zero, List.set_cons_succ]
                refine seq_calc (by simp only [List.getElem?_toArray, List.getElem?_cons_succ, List.getElem?_cons_zero]; rfl) (by rfl) (fun u => by go_simp <;> with_reducible rfl) ?_
                try simp only [Act.put, List.setIfInBounds_toArray, List.set_cons_zero, List.set_cons_succ]
                refine seq_calc (by simp only [List.getElem?_toArray, List.getElem?_cons_succ, List.getElem?_cons_zero]; rfl) (by rfl) (fun u => by go_simp <;> with_reducible rfl) ?_
                try simp only [Act.put, List.setIfInBounds_toArray, List.set_cons_zero, List.set_cons_succ]
                first
                  | (refine seq_skip (by simp only [List.getElem?_toArray, List.getElem?_cons_succ, List.getElem?_cons_zero]; rfl) (by rfl) ?_)
                  | (refine seq_calc (by simp only [List.getElem?_toArray, List.getElem?_cons_succ, List.getElem?_cons_zero]; rfl) (by rfl) (fun u => by go_simp <;> with_reducible rfl) ?_)
                try simp only [Act.put, List.setIfInBounds_toArray, List.set_cons_zero, List.set_cons_succ]
                first
                  | (refine seq_skip (by simp only [List.getElem?_toArray, List.getElem?_cons_succ, List.getElem?_cons_zero]; rfl) (by rfl) ?_)
                  | (refine seq_calc (by simp only [List.getElem?_toArray, List.getElem?_cons_succ, List.getElem?_cons_zero]; rfl) (by rfl) (fun u => by go_simp <;> with_reducible rfl) ?_)
                try simp only [Act.put, List.setIfInBounds_toArray, List.set_cons_zero, List.set_cons_succ]
                first
                  | (refine seq_skip (by simp only [List.getElem?_toArray, List.getElem?_cons_succ, List.getElem?_cons_zero]; rfl) (by rfl) ?_)
                  | (refine seq_calc (by simp only [List.getElem?_toArray, List.getElem?_cons_succ, List.getElem?_cons_zero]; rfl) (by rfl) (fun u => by go_simp <;> with_reducible rfl) ?_)
                try simp only [Act.put, List.setIfInBounds_toArray, List.set_cons_zero, List.set_cons_succ]
                first
                  | (refine seq_skip (by simp only [List.getElem?_toArray, List.getElem?_cons_succ, List.getElem?_cons_zero]; rfl) (by rfl) ?_)
                  | (refine seq_calc (by simp only [List.getElem?_toArray, List.getElem?_cons_succ, List.getElem?_cons_zero]; rfl) (by rfl) (fun u => by go_simp <;> with_reducible rfl) ?_)
                try simp only [Act.put, List.setIfInBounds_toArray, List.set_cons_zero, List.set_cons_succ]
                first
                  | (refine seq_skip (by simp only [List.getElem?_toArray, List.getElem?_cons_succ, List.getElem?_cons_zero]; rfl) (by rfl) ?_)
                  | (refine seq_load1 (by simp only [List.getElem?_toArray, List.getElem?_cons_succ, List.getElem?_cons_zero]; rfl) (by rfl) rfl rfl Tryd.underlying3 rfl (by go_simp <;> with_reducible rfl) (by first | exact id | assumption | (simp; done) | (simp; omega)) ?_)
                try simp only [Act.put, List.setIfInBounds_toArray, List.set_cons_zero, List.set_cons_succ]
                first
                  | (refine seq_skip (by simp only [List.getElem?_toArray, List.getElem?_cons_succ, List.getElem?_cons_zero]; rfl) (by rfl) ?_)
                  | (refine seq_do (by simp only [List.getElem?_toArray, List.getElem?_cons_succ, List.getElem?_cons_zero]; rfl) (by rfl) (fun K hK => ?_); go_wp2_with (first | (go_at_call 10; refine (left_any w1.heap.size _ L G _ _ _ (by first | exact NW.out | exact NW.out.below hB1 NW.out.lt)).mono ?_; rintro e w' ⟨rfl, rfl⟩) | (go_at_call 11; refine (gone_any w1.heap.size _ L G _ _ _ (by first | exact NW.out | exact NW.out.below hB1 NW.out.lt)).mono ?_; rintro e w' ⟨rfl, rfl⟩) | (go_at_call 12; refine (allW_any G (w1.heap.size + 1 + 1) _ _ (by exact NM.out)).mono ?_; rintro e w4 ⟨rfl, hb4⟩; have hB1 : Below w.heap.size w w4 := (by first | exact hB1.trans (hb4.mono hB1.size) | exact Below.trans (by go_grown) (hb4.mono (by simp <;> omega))); have hcw1heapsize__1 := fun (o : Nat) => hb4.cell (p := ⟨w1.heap.size + 1, o, none⟩) (by first | assumption | (simp <;> omega)); have hfw1heapsize__1 := fun (o : Nat) => hb4.frozen (p := ⟨w1.heap.size + 1, o, none⟩) (by first | assumption | (simp <;> omega)); have hzw1heapsize__1 : w1.heap.size + 1 < w4.heap.size := Nat.lt_of_lt_of_le (by first | assumption | (simp <;> omega)) hb4.size)); refine hK.out _ _ (by first | (with_reducible exact Chg.refl _ _) | (with_reducible assumption) | (refine Chg.of_below ?_; with_reducible assumption) | (with_reducible exact (Chg.refl _ _).alloc _) | (with_reducible exact (Chg.refl _ _).drewN _) | (with_reducible exact (Chg.refl _ _).drew) | exact ⟨rfl, rfl, rfl, Nat.le_refl _, fun _ _ _ => rfl⟩) ?_; clear hK K)
                try simp only [Act.put, List.setIfInBounds_toArray, List.set_cons_zero, List.set_cons_succ]
                first
                  | (refine seq_skip (by simp only [List.getElem?_toArray, List.getElem?_cons_succ, List.getElem?_cons_zero]; rfl) (by rfl) ?_)
                  | (refine seq_calc (by simp only [List.getElem?_toArray, List.getElem?_cons_succ, List.getElem?_cons_zero]; rfl) (by rfl) (fun u => by go_simp <;> with_reducible rfl) ?_)
                try simp only [Act.put, List.setIfInBounds_toArray, List.set_cons_zero, List.set_cons_succ]
                refine seq_calc (by simp only [List.getElem?_toArray, List.getElem?_cons_succ, List.getElem?_cons_zero]; rfl) (by rfl) (fun u => by go_simp <;> with_reducible rfl) ?_
                try simp only [Act.put, List.setIfInBounds_toArray, List.set_cons_zero, List.set_cons_succ]
                refine seq_calc (by simp only [List.getElem?_toArray, List.getElem?_cons_succ, List.getElem?_cons_zero]; rfl) (by rfl) (fun u => by go_simp <;> with_reducible rfl) ?_
                try simp only [Act.put, List.setIfInBounds_toArray, List.set_cons_zero, List.set_cons_succ]
                first
                  | (refine seq_skip (by simp only [List.getElem?_toArray, List.getElem?_cons_succ, List.getElem?_cons_zero]; rfl) (by rfl) ?_)
                  | (refine seq_calc (by simp only [List.getElem?_toArray, List.getElem?_cons_succ, List.getElem?_cons_zero]; rfl) (by rfl) (fun u => by go_simp <;> with_reducible rfl) ?_)
                try simp only [Act.put, List.setIfInBounds_toArray, List.set_cons_zero, List.set_cons_succ]
                first
                  | (refine seq_skip (by simp only [List.getElem?_toArray, List.getElem?_cons_succ, List.getElem?_cons_zero]; rfl) (by rfl) ?_)
                  | (refine seq_calc (by simp only [List.getElem?_toArray, List.getElem?_cons_succ, List.getElem?_cons_zero]; rfl) (by rfl) (fun u => by go_simp <;> with_reducible rfl) ?_)
                try simp only [Act.put, List.setIfInBounds_toArray, List.set_cons_zero, List.set_cons_succ]
                first
                  | (refine seq_skip (by simp only [List.getElem?_toArray, List.getElem?_cons_succ, List.getElem?_cons_zero]; rfl) (by rfl) ?_)
                  | (refine seq_calc (by simp only [List.getElem?_toArray, List.getElem?_cons_succ, List.getElem?_cons_zero]; rfl) (by rfl) (fun u => by go_simp <;> with_reducible rfl) ?_)
                try simp only [Act.put, List.setIfInBounds_toArray, List.set_cons_zero, List.set_cons_succ]
                first
                  | (refine seq_skip (by simp only [List.getElem?_toArray, List.getElem?_cons_succ, List.getElem?_cons_zero]; rfl) (by rfl) ?_)
                  | (refine seq_calc (by simp only [List.getElem?_toArray, List.getElem?_cons_succ, List.getElem?_cons_zero]; rfl) (by rfl) (fun u => by go_simp <;> with_reducible rfl) ?_)
                try simp only [Act.put, List.setIfInBounds_toArray, List.set_cons_zero, List.set_cons_succ]
                first
                  | (refine seq_skip (by simp only [List.getElem?_toArray, List.getElem?_cons_succ, List.getElem?_cons_zero]; rfl) (by rfl) ?_)
                  | (refine seq_load1 (by simp only [List.getElem?_toArray, List.getElem?_cons_succ, List.getElem?_cons_zero]; rfl) (by rfl) rfl rfl Tryd.underlying3 rfl (by go_simp <;> with_reducible rfl) (by first | exact id | assumption | (simp; done) | (simp; omega)) ?_)
                try simp only [Act.put, List.setIfInBounds_toArray, List.set_cons_zero, List.set_cons_succ]
                first
                  | (refine seq_skip (by simp only [List.getElem?_toArray, List.getElem?_cons_succ, List.getElem?_cons_zero]; rfl) (by rfl) ?_)
                  | (refine seq_do (by simp only [List.getElem?_toArray, List.getElem?_cons_succ, List.getElem?_cons_zero]; rfl) (by rfl) (fun K hK => ?_); go_wp2_with (first | (go_at_call 10; refine (left_any w1.heap.size _ L G _ _ _ (by first | exact NW.out | exact NW.out.below hB1 NW.out.lt)).mono ?_; rintro e w' ⟨rfl, rfl⟩) | (go_at_call 11; refine (gone_any w1.heap.size _ L G _ _ _ (by first | exact NW.out | exact NW.out.below hB1 NW.out.lt)).mono ?_; rintro e w' ⟨rfl, rfl⟩) | (go_at_call 12; refine (allW_any G (w1.heap.size + 1 + 1) _ _ (by exact NM.out)).mono ?_; rintro e w4 ⟨rfl, hb4⟩; have hB1 : Below w.heap.size w w4 := (by first | exact hB1.trans (hb4.mono hB1.size) | exact Below.trans (by go_grown) (hb4.mono (by simp <;> omega))); have hcw1heapsize__1 := fun (o : Nat) => hb4.cell (p := ⟨w1.heap.size + 1, o, none⟩) (by first | assumption | (simp <;> omega)); have hfw1heapsize__1 := fun (o : Nat) => hb4.frozen (p := ⟨w1.heap.size + 1, o, none⟩) (by first | assumption | (simp <;> omega)); have hzw1heapsize__1 : w1.heap.size + 1 < w4.heap.size := Nat.lt_of_lt_of_le (by first | assumption | (simp <;> omega)) hb4.size)); refine hK.out _ _ (by first | (with_reducible exact Chg.refl _ _) | (with_reducible assumption) | (refine Chg.of_below ?_; with_reducible assumption) | (with_reducible exact (Chg.refl _ _).alloc _) | (with_reducible exact (Chg.refl _ _).drewN _) | (with_reducible exact (Chg.refl _ _).drew) | exact ⟨rfl, rfl, rfl, Nat.le_refl _, fun _ _ _ => rfl⟩) ?_; clear hK K)
                try simp only [Act.put, List.setIfInBounds_toArray, List.set_cons_zero, List.set_cons_succ]
                first
                  | (refine seq_skip (by simp only [List.getElem?_toArray, List.getElem?_cons_succ, List.getElem?_cons_zero]; rfl) (by rfl) ?_)
                  | (refine seq_calc (by simp only [List.getElem?_toArray, List.getElem?_cons_succ, List.getElem?_cons_zero]; rfl) (by rfl) (fun u => by go_simp <;> with_reducible rfl) ?_)
                try simp only [Act.put, List.setIfInBounds_toArray, List.set_cons_zero, List.set_cons_succ]
                refine seq_calc (by simp only [List.getElem?_toArray, List.getElem?_cons_succ, List.getElem?_cons_zero]; rfl) (by rfl) (fun u => by go_simp <;> with_reducible rfl) ?_
                try simp only [Act.put, List.setIfInBounds_toArray, List.set_cons_zero, List.set_cons_succ]
                refine seq_calc (by simp only [List.getElem?_toArray, List.getElem?_cons_succ, List.getElem?_cons_zero]; rfl) (by rfl) (fun u => by go_simp <;> with_reducible rfl) ?_
                try simp only [Act.put, List.setIfInBounds_toArray, List.set_cons_zero, List.set_cons_succ]
                first
                  | (refine seq_skip (by simp only [List.getElem?_toArray, List.getElem?_cons_succ, List.getElem?_cons_zero]; rfl) (by rfl) ?_)
                  | (refine seq_calc (by simp only [List.getElem?_toArray, List.getElem?_cons_succ, List.getElem?_cons_zero]; rfl) (by rfl) (fun u => by go_simp <;> with_reducible rfl) ?_)
                try simp only [Act.put, List.setIfInBounds_toArray, List.set_cons_zero, List.set_cons_succ]
                first
                  | (refine seq_skip (by simp only [List.getElem?_toArray, List.getElem?_cons_succ, List.getElem?_cons_zero]; rfl) (by rfl) ?_)
                  | (refine seq_calc (by simp only [List.getElem?_toArray, List.getElem?_cons_succ, List.getElem?_cons_zero]; rfl) (by rfl) (fun u => by go_simp <;> with_reducible rfl) ?_)
                try simp only [Act.put, List.setIfInBounds_toArray, List.set_cons_zero, List.set_cons_succ]
                first
                  | (refine seq_skip (by simp only [List.getElem?_toArray, List.getElem?_cons_succ, List.getElem?_cons_zero]; rfl) (by rfl) ?_)
                  | (refine seq_calc (by simp only [List.getElem?_toArray, List.getElem?_cons_succ, List.getElem?_cons_zero]; rfl) (by rfl) (fun u => by go_simp <;> with_reducible rfl) ?_)
                try simp only [Act.put, List.setIfInBounds_toArray, List.set_cons_zero, List.set_cons_succ]
                first
                  | (refine seq_skip (by simp only [List.getElem?_toArray, List.getElem?_cons_succ, List.getElem?_cons_zero]; rfl) (by rfl) ?_)
                  | (refine seq_calc (by simp only [List.getElem?_toArray, List.getElem?_cons_succ, List.getElem?_cons_zero]; rfl) (by rfl) (fun u => by go_simp <;> with_reducible rfl) ?_)
                try simp only [Act.put, List.setIfInBounds_toArray, List.set_cons_zero, List.set_cons_succ]
                first
                  | (refine seq_skip (by simp only [List.getElem?_toArray, List.getElem?_cons_succ, List.getElem?_cons_zero]; rfl) (by rfl) ?_)
                  | (refine seq_load1 (by simp only [List.getElem?_toArray, List.getElem?_cons_succ, List.getElem?_cons_zero]; rfl) (by rfl) rfl rfl Tryd.underlying3 rfl (by go_simp <;> with_reducible rfl) (by first | exact id | assumption | (simp; done) | (simp; omega)) ?_)
                try simp only [Act.put, List.setIfInBounds_toArray, List.set_cons_zero, List.set_cons_succ]
                first
                  | (refine seq_skip (by simp only [List.getElem?_toArray, List.getElem?_cons_succ, List.getElem?_cons_zero]; rfl) (by rfl) ?_)
                  | (refine seq_do (by simp only [List.getElem?_toArray, List.getElem?_cons_succ, List.getElem?_cons_zero]; rfl) (by rfl) (fun K hK => ?_); go_wp2_with (first | (go_at_call 10; refine (left_any w1.heap.size _ L G _ _ _ (by first | exact NW.out | exact NW.out.below hB1 NW.out.lt)).mono ?_; rintro e w' ⟨rfl, rfl⟩) | (go_at_call 11; refine (gone_any w1.heap.size _ L G _ _ _ (by first | exact NW.out | exact NW.out.below hB1 NW.out.lt)).mono ?_; rintro e w' ⟨rfl, rfl⟩) | (go_at_call 12; refine (allW_any G (w1.heap.size + 1 + 1) _ _ (by exact NM.out)).mono ?_; rintro e w4 ⟨rfl, hb4⟩; have hB1 : Below w.heap.size w w4 := (by first | exact hB1.trans (hb4.mono hB1.size) | exact Below.trans (by go_grown) (hb4.mono (by simp <;> omega))); have hcw1heapsize__1 := fun (o : Nat) => hb4.cell (p := ⟨w1.heap.size + 1, o, none⟩) (by first | assumption | (simp <;> omega)); have hfw1heapsize__1 := fun (o : Nat) => hb4.frozen (p := ⟨w1.heap.size + 1, o, none⟩) (by first | assumption | (simp <;> omega)); have hzw1heapsize__1 : w1.heap.size + 1 < w4.heap.size := Nat.lt_of_lt_of_le (by first | assumption | (simp <;> omega)) hb4.size)); refine hK.out _ _ (by first | (with_reducible exact Chg.refl _ _) | (with_reducible assumption) | (refine Chg.of_below ?_; with_reducible assumption) | (with_reducible exact (Chg.refl _ _).alloc _) | (with_reducible exact (Chg.refl _ _).drewN _) | (with_reducible exact (Chg.refl _ _).drew) | exact ⟨rfl, rfl, rfl, Nat.le_refl _, fun _ _ _ => rfl⟩) ?_; clear hK K)
                try simp only [Act.put, List.setIfInBounds_toArray, List.set_cons_zero, List.set_cons_succ]
                first
                  | (refine seq_skip (by simp only [List.getElem?_toArray, List.getElem?_cons_succ, List.getElem?_cons_zero]; rfl) (by rfl) ?_)
                  | (refine seq_calc (by simp only [List.getElem?_toArray, List.getElem?_cons_succ, List.getElem?_cons_zero]; rfl) (by rfl) (fun u => by go_simp <;> with_reducible rfl) ?_)
                try simp only [Act.put, List.setIfInBounds_toArray, List.set_cons_zero, List.set_cons_succ]
                first
                  | (refine seq_skip (by simp only [List.getElem?_toArray, List.getElem?_cons_succ, List.getElem?_cons_zero]; rfl) (by rfl) ?_)
                  | (refine seq_calc (by simp only [List.getElem?_toArray, List.getElem?_cons_succ, List.getElem?_cons_zero]; rfl) (by rfl) (fun u => by go_simp <;> with_reducible rfl) ?_)
                try simp only [Act.put, List.setIfInBounds_toArray, List.set_cons_zero, List.set_cons_succ]
                refine seq_calc (by simp only [List.getElem?_toArray, List.getElem?_cons_succ, List.getElem?_cons_zero]; rfl) (by rfl) (fun u => by go_simp <;> with_reducible rfl) ?_
                try simp only [Act.put, List.setIfInBounds_toArray, List.set_cons_zero, List.set_cons_succ]
                refine seq_calc (by simp only [List.getElem?_toArray, List.getElem?_cons_succ, List.getElem?_cons_zero]; rfl) (by rfl) (fun u => by go_simp <;> with_reducible rfl) ?_
                try simp only [Act.put, List.setIfInBounds_toArray, List.set_cons_zero, List.set_cons_succ]
                first
                  | (refine seq_skip (by simp only [List.getElem?_toArray, List.getElem?_cons_succ, List.getElem?_cons_zero]; rfl) (by rfl) ?_)
                  | (refine seq_calc (by simp only [List.getElem?_toArray, List.getElem?_cons_succ, List.getElem?_cons_zero]; rfl) (by rfl) (fun u => by go_simp <;> with_reducible rfl) ?_)
                try simp only [Act.put, List.setIfInBounds_toArray, List.set_cons_zero, List.set_cons_succ]
                first
                  | (refine seq_skip (by simp only [List.getElem?_toArray, List.getElem?_cons_succ, List.getElem?_cons_zero]; rfl) (by rfl) ?_)
                  | (refine seq_calc (by simp only [List.getElem?_toArray, List.getElem?_cons_succ, List.getElem?_cons_zero]; rfl) (by rfl) (fun u => by go_simp <;> with_reducible rfl) ?_)
                try simp only [Act.put, List.setIfInBounds_toArray, List.set_cons_zero, List.set_cons_succ]
                first
                  | (refine seq_skip (by simp only [List.getElem?_toArray, List.getElem?_cons_succ, List.getElem?_cons_zero]; rfl) (by rfl) ?_)
                  | (refine seq_calc (by simp only [List.getElem?_toArray, List.getElem?_cons_succ, List.getElem?_cons_zero]; rfl) (by rfl) (fun u => by go_simp <;> with_reducible rfl) ?_)
                try simp only [Act.put, List.setIfInBounds_toArray, List.set_cons_zero, List.set_cons_succ]
                first
                  | (refine seq_skip (by simp only [List.getElem?_toArray, List.getElem?_cons_succ, List.getElem?_cons_zero]; rfl) (by rfl) ?_)
                  | (refine seq_last (by simp only [List.getElem?_toArray, List.getElem?_cons_succ, List.getElem?_cons_zero]; rfl) (by rfl) (fun K hK => ?_); go_wp2_with (first | (go_at_call 10; refine (left_any w1.heap.size _ L G _ _ _ (by first | exact NW.out | exact NW.out.below hB1 NW.out.lt)).mono ?_; rintro e w' ⟨rfl, rfl⟩) | (go_at_call 11; refine (gone_any w1.heap.size _ L G _ _ _ (by first | exact NW.out | exact NW.out.below hB1 NW.out.lt)).mono ?_; rintro e w' ⟨rfl, rfl⟩) | (go_at_call 12; refine (allW_any G (w1.heap.size + 1 + 1) _ _ (by exact NM.out)).mono ?_; rintro e w4 ⟨rfl, hb4⟩; have hB1 : Below w.heap.size w w4 := (by first | exact hB1.trans (hb4.mono hB1.size) | exact Below.trans (by go_grown) (hb4.mono (by simp <;> omega))); have hcw1heapsize__1 := fun (o : Nat) => hb4.cell (p := ⟨w1.heap.size + 1, o, none⟩) (by first | assumption | (simp <;> omega)); have hfw1heapsize__1 := fun (o : Nat) => hb4.frozen (p := ⟨w1.heap.size + 1, o, none⟩) (by first | assumption | (simp <;> omega)); have hzw1heapsize__1 : w1.heap.size + 1 < w4.heap.size := Nat.lt_of_lt_of_le (by first | assumption | (simp <;> omega)) hb4.size)); refine hK.out _ _ ?_; clear hK K)
                try simp only [Act.put, List.setIfInBounds_toArray, List.set_cons_zero, List.set_cons_succ]
                first
                  | (refine seq_skip (by simp only [List.getElem?_toArray, List.getElem?_cons_succ, List.getElem?_cons_zero]; rfl) (by rfl) ?_)
                  | (refine seq_last (by simp only [List.getElem?_toArray, List.getElem?_cons_succ, List.getElem?_cons_zero]; rfl) (by rfl) (fun K hK => ?_); go_wp2_with (first | (go_at_call 10; refine (left_any w1.heap.size _ L G _ _ _ (by first | exact NW.out | exact NW.out.below hB1 NW.out.lt)).mono ?_; rintro e w' ⟨rfl, rfl⟩) | (go_at_call 11; refine (gone_any w1.heap.size _ L G _ _ _ (by first | exact NW.out | exact NW.out.below hB1 NW.out.lt)).mono ?_; rintro e w' ⟨rfl, rfl⟩) | (go_at_call 12; refine (allW_any G (w1.heap.size + 1 + 1) _ _ (by exact NM.out)).mono ?_; rintro e w4 ⟨rfl, hb4⟩; have hB1 : Below w.heap.size w w4 := (by first | exact hB1.trans (hb4.mono hB1.size) | exact Below.trans (by go_grown) (hb4.mono (by simp <;> omega))); have hcw1heapsize__1 := fun (o : Nat) => hb4.cell (p := ⟨w1.heap.size + 1, o, none⟩) (by first | assumption | (simp <;> omega)); have hfw1heapsize__1 := fun (o : Nat) => hb4.frozen (p := ⟨w1.heap.size + 1, o, none⟩) (by first | assumption | (simp <;> omega)); have hzw1heapsize__1 : w1.heap.size + 1 < w4.heap.size := Nat.lt_of_lt_of_le (by first | assumption | (simp <;> omega)) hb4.size)); refine hK.out _ _ ?_; clear hK K)
                try simp only [Act.put, List.setIfInBounds_toArray, List.set_cons_zero, List.set_cons_succ]
                first
                  | (refine seq_skip (by simp only [List.getElem?_toArray, List.getElem?_cons_succ, List.getElem?_cons_zero]; rfl) (by rfl) ?_)
                  | (refine seq_calc (by simp only [List.getElem?_toArray, List.getElem?_cons_succ, List.getElem?_cons_zero]; rfl) (by rfl) (fun u => by go_simp <;> with_reducible rfl) ?_)
                try simp only [Act.put, List.setIfInBounds_toArray, List.set_cons_zero, List.set_cons_succ]
                first
                  | (refine seq_skip (by simp only [List.getElem?_toArray, List.getElem?_cons_succ, List.getElem?_cons_zero]; rfl) (by rfl) ?_)
                  | (refine seq_calc (by simp only [List.getElem?_toArray, List.getElem?_cons_succ, List.getElem?_cons_zero]; rfl) (by rfl) (fun u => by go_simp <;> with_reducible rfl) ?_)
                try simp only [Act.put, List.setIfInBounds_toArray, List.set_cons_zero, List.set_cons_succ]
                refine seq_calc (by simp only [List.getElem?_toArray, List.getElem?_cons_succ, List.getElem?_cons_zero]; rfl) (by rfl) (fun u => by go_simp <;> with_reducible rfl) ?_
                try simp only [Act.put, List.setIfInBounds_toArray, List.set_cons_zero, List.set_cons_succ]
                refine seq_nil ?_
                go_wp2
                case roundEnd =>
                  exact ⟨⟨k + 1, L, G, by omega, by go_num, rfl, by omega, by omega, by omega, by omega, ⟨NW.out.below hB1 NW.out.lt, NM.out.below hB1 NM.out.lt⟩, NR.out.below hB1 NR.out.lt, NB.out.trans (hB1.mono NB.out.size)⟩, by simp [intOf]; omega⟩
              · have hs : spentZ L 1 = 1 := by unfold spentZ mnZ mxZ; omega
                have RS := Lib.hid (fun (w : World) h => refSpend_any (w1.heap.size + 1) 32 L G 1 hL0 hL1 hG0 (by omega) w h)
                rw [hs] at RS
                replace hs := Lib.hid hs
                have ST := Lib.hid (fun (w : World) h => washStep_yes w1.heap.size (w1.heap.size + 1 + 1) 29 37 L G (.float .f64 0) (.float .f64 0) (by omega) (by omega) hL1 hG0 (by omega) w h)
                obtain ⟨W, hW⟩ : ∃ W, W = wr.alloc (.cells #[.int .i64 2, .int .i64 N] 39) := ⟨_, rfl⟩
                have mW : Blk W w1.heap.size 29 (washC L G (.float .f64 0) (.float .f64 0)) := by rw [hW]; exact hWM.1.alloc _
                have mR : Blk W (w1.heap.size + 1) 32 (refC L G) := by rw [hW]; exact hRf.alloc _
                have mM : Blk W (w1.heap.size + 1 + 1) 37 (mtrS G).cells := by rw [hW]; exact hWM.2.alloc _
                have m8 : Blk W wr.heap.size 39 #[.int .i64 2, .int .i64 N] := by rw [hW]; exact Blk.new _ _ _
                have hBW : Below w0.heap.size w0 W := by rw [hW]; exact hB.trans (by go_grown)
                have hzW : W.heap.size = wr.heap.size + 1 := by rw [hW]; simp
                replace hW := Lib.hid hW
                have c80 := m8.cell 0
                have c81 := m8.cell 1
                have f80 := m8.frozen 0
                have f81 := m8.frozen 1
                have MW := Lib.hid mW
                have MR := Lib.hid mR
                have MM := Lib.hid mM
                have HBW := Lib.hid hBW
                clear mW mR mM m8 hBW
                go_wp2_with (first | (go_at_call 8; refine (RS.out _ (by rw [← hW.out]; exact MR.out)).mono ?_; rw [← hW.out]; rintro e w3 ⟨rfl, MR3, h3⟩; have MW3 := h3.blk MW.out (by omega); have MM3 := h3.blk MM.out (by omega); have MB3 := HBW.out.trans (h3.below HBW.out.size (fun k hk e => by omega)); replace MW3 := Lib.hid MW3; replace MM3 := Lib.hid MM3; replace MR3 := Lib.hid MR3; replace MB3 := Lib.hid MB3) | (go_at_call 9; refine (ST.out _ (by exact ⟨MW3.out, MM3.out⟩)).mono ?_; rintro e w4 ⟨rfl, ⟨MW4, MM4⟩, h4⟩; have MR4 := h4.blk MR3.out (by omega); have MB4 := MB3.out.trans (h4.below MB3.out.size (fun k hk e => by omega)); clear MW3 MM3 MR3 MB3; (have MW3 := MW4); (have MM3 := MM4); (have MR3 := MR4); (have MB3 := MB4)))
                have hsum : L - 1 + (G + 1) = L + G := by omega
                refine wp_at (fun w hw => ?_)
                have NW : Blk w w1.heap.size 29 (washC (L - 1) (G + 1) (.float .f64 0) (.float .f64 0)) := by rw [hw]; exact MW3
                have NR : Blk w (w1.heap.size + 1) 32 (refC (L - 1) (G + 1)) := by rw [hw]; exact MR3
                have NM : Blk w (w1.heap.size + 1 + 1) 37 (mtrS (G + 1)).cells := by rw [hw]; exact MM3
                have NB : Below w0.heap.size w0 w := by rw [hw]; exact MB3
                clear hw MW3 MR3 MM3 MB3
                have hlr := NR.lt
                obtain ⟨r0, r1, _, _⟩ := ref_cells NR
                replace NW := Lib.hid NW; replace NR := Lib.hid NR; replace NM := Lib.hid NM; replace NB := Lib.hid NB
                refine wp_region_seq (fun _ => False) #[⟨0, 0, 590295810358705651712, 512, 0⟩, ⟨0, 0, 1180591620717411303424, 1024, 0⟩, ⟨3, 3, 2361183241434822606848, 1770887431076116955136, 0⟩, ⟨4, 7, 4722366482869645213696, 2361183241434822606848, 0⟩, ⟨8, 15, 9444732965739290427392, 4722366482869645213704, 0⟩, ⟨24, 31, 18889465931478580854784, 14167099448608935641088, 2⟩, ⟨8, 15, 37778931862957161709568, 4722366482869645213712, 0⟩, ⟨72, 79, 75557863725914323419136, 42501298345826806923264, 0⟩, ⟨136, 207, 151115727451828646838272, 80280230208783968632832, 0⟩, ⟨264, 463, 302231454903657293676544, 155838093934698292051968, 1⟩, ⟨552, 1023, 604462909807314587353088, 325843287318005519745024, 0⟩, ⟨1032, 2047, 1208925819614629174706176, 609185276290184232566784, 0⟩, ⟨2080, 4095, 2417851639229258349412352, 1208925819614629174706176, 0⟩, ⟨4096, 8191, 4835703278458516698824704, 2417851639229258349412360, 0⟩, ⟨12288, 16383, 9671406556917033397649408, 7253554917687775048237056, 2⟩, ⟨4096, 8191, 19342813113834066795298816, 2417851639229258349412368, 0⟩, ⟨36864, 40959, 38685626227668133590597632, 21760664753063325144711168, 0⟩, ⟨69632, 106495, 77371252455336267181195264, 41103477866897391940009984, 0⟩, ⟨135168, 237567, 154742504910672534362390528, 79789104094565525530607616, 1⟩, ⟨282624, 524287, 309485009821345068724781056, 166831763106818826109452288, 0⟩, ⟨528384, 1048575, 618970019642690137449562112, 311902861460574327074193408, 0⟩, ⟨1064960, 2097151, 1237940039285380274899124224, 618970019642690137449562112, 0⟩, ⟨2097152, 4194303, 2475880078570760549798248448, 1237940039285380274899124256, 0⟩, ⟨6291456, 8388607, 4951760157141521099596496896, 3713820117856140824697372672, 2⟩, ⟨10485760, 16777215, 9903520314283042199192993792, 6189700196426901374495621120, 0⟩, ⟨2097152, 4194303, 19807040628566084398385987584, 1237940039285380274899124240, 0⟩, ⟨35651584, 37748735, 39614081257132168796771975168, 21044980667851464673285111808, 0⟩, ⟨69206016, 104857599, 79228162514264337593543950336, 40852021296417549071671099392, 0⟩, ⟨136314880, 239075327, 158456325028528675187087900672, 80466102553549717868443074560, 1⟩, ⟨287309824, 536870911, 316912650057057350374175801344, 169597785382097097661180018688, 0⟩, ⟨538968064, 1073741823, 633825300114114700748351602688, 318150590096342730649074925568, 0⟩, ⟨1082130432, 2147483647, 1267650600228229401496703205376, 633825300114114700748351602688, 0⟩, ⟨2147483648, 4294967295, 2535301200456458802993406410752, 1267650600228229401496703205384, 0⟩, ⟨6442450944, 8589934591, 5070602400912917605986812821504, 3802951800684688204490109616128, 3⟩, ⟨2147483648, 4294967295, 10141204801825835211973625643008, 1267650600228229401496703205384, 0⟩, ⟨27917287424, 34359738367, 20282409603651670423947251286016, 11408855402054064613470328848384, 3⟩, ⟨45097156608, 68719476735, 40564819207303340847894502572032, 26620662604792817431430767312896, 0⟩, ⟨2147483648, 4294967295, 81129638414606681695789005144064, 1267650600228229401496703205440, 0⟩, ⟨208305913856, 274877906943, 162259276829213363391578010288128, 122962108222138251945180210921472, 0⟩, ⟨277025390592, 549755813887, 324518553658426726783156020576256, 163526927429441592793074713493504, 0⟩] 268698112 [(0, 0), (1, 0), (2, 0), (3, 0), (4, 0), (6, 0), (7, 0), (8, 0), (9, 1), (5, 2), (10, 0), (11, 0), (12, 0), (13, 0), (15, 0), (16, 0), (17, 0), (18, 1), (14, 2), (19, 0), (20, 0), (21, 0), (22, 0), (25, 0), (26, 0), (27, 0), (28, 1), (23, 2), (24, 0), (29, 0), (30, 0), (31, 0), (32, 0), (34, 0), (37, 0), (33, 3), (35, 3), (36, 0), (38, 0), (39, 0)] (by kernel_rfl) (by kernel_rfl) (by kernel_rfl) (by kernel_rfl) (by kernel_rfl) (by kernel_rfl) (fun c a d v w h => by cases d <;> exact h) ?_
                refine seq_calc (by simp only [List.getElem?_toArray, List.getElem?_cons_succ, List.getElem?_cons_zero]; rfl) (by rfl) (fun u => by go_simp <;> with_reducible rfl) ?_
                try simp only [Act.put, List.setIfInBounds_toArray, List.set_cons_zero, List.set_cons_succ]
                refine seq_calc (by simp only [List.getElem?_toArray, List.getElem?_cons_succ, List.getElem?_cons_zero]; rfl) (by rfl) (fun u => by go_simp <;> with_reducible rfl) ?_
                try simp only [Act.put, List.setIfInBounds_toArray, List.set_cons_zero, List.set_cons_succ]
                refine seq_calc (by simp only [List.getElem?_toArray, List.getElem?_cons_succ, List.getElem?_cons_zero]; rfl) (by rfl) (fun u => by go_simp <;> with_reducible rfl) ?_
                try simp only [Act.put, List.setIfInBounds_toArray, List.set_cons_zero, List.set_cons_succ]
                refine seq_calc (by simp only [List.getElem?_toArray, List.getElem?_cons_succ, List.getElem?_cons_zero]; rfl) (by rfl) (fun u => by go_simp <;> with_reducible rfl) ?_
                try simp only [Act.put, List.setIfInBounds_toArray, List.set_cons_zero, List.set_cons_succ]
                first
                  | (refine seq_skip (by simp only [List.getElem?_toArray, List.getElem?_cons_succ, List.getElem?_cons_zero]; rfl) (by rfl) ?_)
                  | (refine seq_calc (by simp only [List.getElem?_toArray, List.getElem?_cons_succ, List.getElem?_cons_zero]; rfl) (by rfl) (fun u => by go_simp <;> with_reducible rfl) ?_)
                try simp only [Act.put, List.setIfInBounds_toArray, List.set_cons_zero, List.set_cons_succ]
                first
                  | (refine seq_skip (by simp only [List.getElem?_toArray, List.getElem?_cons_succ, List.getElem?_cons_zero]; rfl) (by rfl) ?_)
                  | (refine seq_calc (by simp only [List.getElem?_toArray, List.getElem?_cons_succ, List.getElem?_cons_zero]; rfl) (by rfl) (fun u => by go_simp <;> with_reducible rfl) ?_)
                try simp only [Act.put, List.setIfInBounds_toArray, List.set_cons_zero, List.set_cons_succ]
                first
                  | (refine seq_skip (by simp only [List.getElem?_toArray, List.getElem?_cons_succ, List.getElem?_cons_zero]; rfl) (by rfl) ?_)
                  | (refine seq_calc (by simp only [List.getElem?_toArray, List.getElem?_cons_succ, List.getElem?_cons_zero]; rfl) (by rfl) (fun u => by go_simp <;> with_reducible rfl) ?_)
                try simp only [Act.put, List.setIfInBounds_toArray, List.set_cons_zero, List.set_cons_succ]
                first
                  | (refine seq_skip (by simp only [List.getElem?_toArray, List.getElem?_cons_succ, List.getElem?_cons_zero]; rfl) (by rfl) ?_)
                  | (refine seq_calc (by simp only [List.getElem?_toArray, List.getElem?_cons_succ, List.getElem?_cons_zero]; rfl) (by rfl) (fun u => by go_simp <;> with_reducible rfl) ?_)
                try simp only [Act.put, List.setIfInBounds_toArray, List.set_cons_zero, List.set_cons_succ]
                first
                  | (refine seq_skip (by simp only [List.getElem?_toArray, List.getElem?_cons_succ, List.getElem?_cons_zero]; rfl) (by rfl) ?_)
                  | (refine seq_load1 (by simp only [List.getElem?_toArray, List.getElem?_cons_succ, List.getElem?_cons_zero]; rfl) (by rfl) rfl rfl Tryd.underlying3 rfl (by go_simp <;> with_reducible rfl) (by first | exact id | assumption | (simp; done) | (simp; omega)) ?_)
                try simp only [Act.put, List.setIfInBounds_toArray, List.set_cons_zero, List.set_cons_succ]
                first
                  | (refine seq_skip (by simp only [List.getElem?_toArray, List.getElem?_cons_succ, List.getElem?_cons_zero]; rfl) (by rfl) ?_)
                  | (refine seq_do (by simp only [List.getElem?_toArray, List.getElem?_cons_succ, List.getElem?_cons_zero]; rfl) (by rfl) (fun K hK => ?_); go_wp2_with (first | (go_at_call 10; refine (left_any w1.heap.size _ (L - 1) (G + 1) _ _ _ (by first | exact NW.out | exact NW.out.below hB1 NW.out.lt)).mono ?_; rintro e w' ⟨rfl, rfl⟩) | (go_at_call 11; refine (gone_any w1.heap.size _ (L - 1) (G + 1) _ _ _ (by first | exact NW.out | exact NW.out.below hB1 NW.out.lt)).mono ?_; rintro e w' ⟨rfl, rfl⟩) | (go_at_call 12; refine (allW_any (G + 1) (w1.heap.size + 1 + 1) _ _ (by exact NM.out)).mono ?_; rintro e w4 ⟨rfl, hb4⟩; have hB1 : Below w.heap.size w w4 := (by first | exact hB1.trans (hb4.mono hB1.size) | exact Below.trans (by go_grown) (hb4.mono (by simp <;> omega))); have hcw1heapsize__1 := fun (o : Nat) => hb4.cell (p := ⟨w1.heap.size + 1, o, none⟩) (by first | assumption | (simp <;> omega)); have hfw1heapsize__1 := fun (o : Nat) => hb4.frozen (p := ⟨w1.heap.size + 1, o, none⟩) (by first | assumption | (simp <;> omega)); have hzw1heapsize__1 : w1.heap.size + 1 < w4.heap.size := Nat.lt_of_lt_of_le (by first | assumption | (simp <;> omega)) hb4.size)); refine hK.out _ _ (by first | (with_reducible exact Chg.refl _ _) | (with_reducible assumption) | (refine Chg.of_below ?_; with_reducible assumption) | (with_reducible exact (Chg.refl _ _).alloc _) | (with_reducible exact (Chg.refl _ _).drewN _) | (with_reducible exact (Chg.refl _ _).drew) | exact ⟨rfl, rfl, rfl, Nat.le_refl _, fun _ _ _ => rfl⟩) ?_; clear hK K)
                try simp only [Act.put, List.setIfInBounds_toArray, List.set_cons_zero, List.set_cons_succ]
                first
                  | (refine seq_skip (by simp only [List.getElem?_toArray, List.getElem?_cons_succ, List.getElem?_cons_zero]; rfl) (by rfl) ?_)
                  | (refine seq_calc (by simp only [List.getElem?_toArray, List.getElem?_cons_succ, List.getElem?_cons_zero]; rfl) (by rfl) (fun u => by go_simp <;> with_reducible rfl) ?_)
                try simp only [Act.put, List.setIfInBounds_toArray, List.set_cons_zero, List.set_cons_succ]
                refine seq_calc (by simp only [List.getElem?_toArray, List.getElem?_cons_succ, List.getElem?_cons_zero]; rfl) (by rfl) (fun u => by go_simp <;> with_reducible rfl) ?_
                try simp only [Act.put, List.setIfInBounds_toArray, List.set_cons_zero, List.set_cons_succ]
                refine seq_calc (by simp only [List.getElem?_toArray, List.getElem?_cons_succ, List.getElem?_cons_zero]; rfl) (by rfl) (fun u => by go_simp <;> with_reducible rfl) ?_
                try simp only [Act.put, List.setIfInBounds_toArray, List.set_cons_zero, List.set_cons_succ]
                first
                  | (refine seq_skip (by simp only [List.getElem?_toArray, List.getElem?_cons_succ, List.getElem?_cons_zero]; rfl) (by rfl) ?_)
                  | (refine seq_calc (by simp only [List.getElem?_toArray, List.getElem?_cons_succ, List.getElem?_cons_zero]; rfl) (by rfl) (fun u => by go_simp <;> with_reducible rfl) ?_)
                try simp only [Act.put, List.setIfInBounds_toArray, List.set_cons_zero, List.set_cons_succ]
                first
                  | (refine seq_skip (by simp only [List.getElem?_toArray, List.getElem?_cons_succ, List.getElem?_cons_zero]; rfl) (by rfl) ?_)
                  | (refine seq_calc (by simp only [List.getElem?_toArray, List.getElem?_cons_succ, List.getElem?_cons_zero]; rfl) (by rfl) (fun u => by go_simp <;> with_reducible rfl) ?_)
                try simp only [Act.put, List.setIfInBounds_toArray, List.set_cons_zero, List.set_cons_succ]
                first
                  | (refine seq_skip (by simp only [List.getElem?_toArray, List.getElem?_cons_succ, List.getElem?_cons_zero]; rfl) (by rfl) ?_)
                  | (refine seq_calc (by simp only [List.getElem?_toArray, List.getElem?_cons_succ, List.getElem?_cons_zero]; rfl) (by rfl) (fun u => by go_simp <;> with_reducible rfl) ?_)
                try simp only [Act.put, List.setIfInBounds_toArray, List.set_cons_zero, List.set_cons_succ]
                first
                  | (refine seq_skip (by simp only [List.getElem?_toArray, List.getElem?_cons_succ, List.getElem?_cons_zero]; rfl) (by rfl) ?_)
                  | (refine seq_calc (by simp only [List.getElem?_toArray, List.getElem?_cons_succ, List.getElem?_cons_zero]; rfl) (by rfl) (fun u => by go_simp <;> with_reducible rfl) ?_)
                try simp only [Act.put, List.setIfInBounds_toArray, List.set_cons_zero, List.set_cons_succ]
                first
                  | (refine seq_skip (by simp only [List.getElem?_toArray, List.getElem?_cons_succ, List.getElem?_cons_zero]; rfl) (by rfl) ?_)
                  | (refine seq_load1 (by simp only [List.getElem?_toArray, List.getElem?_cons_succ, List.getElem?_cons_zero]; rfl) (by rfl) rfl rfl Tryd.underlying3 rfl (by go_simp <;> with_reducible rfl) (by first | exact id | assumption | (simp; done) | (simp; omega)) ?_)
                try simp only [Act.put, List.setIfInBounds_toArray, List.set_cons_zero, List.set_cons_succ]
                first
                  | (refine seq_skip (by simp only [List.getElem?_toArray, List.getElem?_cons_succ, List.getElem?_cons_zero]; rfl) (by rfl) ?_)
                  | (refine seq_do (by simp only [List.getElem?_toArray, List.getElem?_cons_succ, List.getElem?_cons_zero]; rfl) (by rfl) (fun K hK => ?_); go_wp2_with (first | (go_at_call 10; refine (left_any w1.heap.size _ (L - 1) (G + 1) _ _ _ (by first | exact NW.out | exact NW.out.below hB1 NW.out.lt)).mono ?_; rintro e w' ⟨rfl, rfl⟩) | (go_at_call 11; refine (gone_any w1.heap.size _ (L - 1) (G + 1) _ _ _ (by first | exact NW.out | exact NW.out.below hB1 NW.out.lt)).mono ?_; rintro e w' ⟨rfl, rfl⟩) | (go_at_call 12; refine (allW_any (G + 1) (w1.heap.size + 1 + 1) _ _ (by exact NM.out)).mono ?_; rintro e w4 ⟨rfl, hb4⟩; have hB1 : Below w.heap.size w w4 := (by first | exact hB1.trans (hb4.mono hB1.size) | exact Below.trans (by go_grown) (hb4.mono (by simp <;> omega))); have hcw1heapsize__1 := fun (o : Nat) => hb4.cell (p := ⟨w1.heap.size + 1, o, none⟩) (by first | assumption | (simp <;> omega)); have hfw1heapsize__1 := fun (o : Nat) => hb4.frozen (p := ⟨w1.heap.size + 1, o, none⟩) (by first | assumption | (simp <;> omega)); have hzw1heapsize__1 : w1.heap.size + 1 < w4.heap.size := Nat.lt_of_lt_of_le (by first | assumption | (simp <;> omega)) hb4.size)); refine hK.out _ _ (by first | (with_reducible exact Chg.refl _ _) | (with_reducible assumption) | (refine Chg.of_below ?_; with_reducible assumption) | (with_reducible exact (Chg.refl _ _).alloc _) | (with_reducible exact (Chg.refl _ _).drewN _) | (with_reducible exact (Chg.refl _ _).drew) | exact ⟨rfl, rfl, rfl, Nat.le_refl _, fun _ _ _ => rfl⟩) ?_; clear hK K)
                try simp only [Act.put, List.setIfInBounds_toArray, List.set_cons_zero, List.set_cons_succ]
                first
                  | (refine seq_skip (by simp only [List.getElem?_toArray, List.getElem?_cons_succ, List.getElem?_cons_zero]; rfl) (by rfl) ?_)
                  | (refine seq_calc (by simp only [List.getElem?_toArray, List.getElem?_cons_succ, List.getElem?_cons_zero]; rfl) (by rfl) (fun u => by go_simp <;> with_reducible rfl) ?_)
                try simp only [Act.put, List.setIfInBounds_toArray, List.set_cons_zero, List.set_cons_succ]
                refine seq_calc (by simp only [List.getElem?_toArray, List.getElem?_cons_succ, List.getElem?_cons_zero]; rfl) (by rfl) (fun u => by go_simp <;> with_reducible rfl) ?_
                try simp only [Act.put, List.setIfInBounds_toArray, List.set_cons_zero, List.set_cons_succ]
                refine seq_calc (by simp only [List.getElem?_toArray, List.getElem?_cons_succ, List.getElem?_cons_zero]; rfl) (by rfl) (fun u => by go_simp <;> with_reducible rfl) ?_
                try simp only [Act.put, List.setIfInBounds_toArray, List.set_cons_zero, List.set_cons_succ]
                first
                  | (refine seq_skip (by simp only [List.getElem?_toArray, List.getElem?_cons_succ, List.getElem?_cons_zero]; rfl) (by rfl) ?_)
                  | (refine seq_calc (by simp only [List.getElem?_toArray, List.getElem?_cons_succ, List.getElem?_cons_zero]; rfl) (by rfl) (fun u => by go_simp <;> with_reducible rfl) ?_)
                try simp only [Act.put, List.setIfInBounds_toArray, List.set_cons_zero, List.set_cons_succ]
                first
                  | (refine seq_skip (by simp only [List.getElem?_toArray, List.getElem?_cons_succ, List.getElem?_cons_zero]; rfl) (by rfl) ?_)
                  | (refine seq_calc (by simp only [List.getElem?_toArray, List.getElem?_cons_succ, List.getElem?_cons_zero]; rfl) (by rfl) (fun u => by go_simp <;> with_reducible rfl) ?_)
                try simp only [Act.put, List.setIfInBounds_toArray, List.set_cons_zero, List.set_cons_succ]
                first
                  | (refine seq_skip (by simp only [List.getElem?_toArray, List.getElem?_cons_succ, List.getElem?_cons_zero]; rfl) (by rfl) ?_)
                  | (refine seq_calc (by simp only [List.getElem?_toArray, List.getElem?_cons_succ, List.getElem?_cons_zero]; rfl) (by rfl) (fun u => by go_simp <;> with_reducible rfl) ?_)
                try simp only [Act.put, List.setIfInBounds_toArray, List.set_cons_zero, List.set_cons_succ]
                first
                  | (refine seq_skip (by simp only [List.getElem?_toArray, List.getElem?_cons_succ, List.getElem?_cons_zero]; rfl) (by rfl) ?_)
                  | (refine seq_calc (by simp only [List.getElem?_toArray, List.getElem?_cons_succ, List.getElem?_cons_zero]; rfl) (by rfl) (fun u => by go_simp <;> with_reducible rfl) ?_)
                try simp only [Act.put, List.setIfInBounds_toArray, List.set_cons_zero, List.set_cons_succ]
                first
                  | (refine seq_skip (by simp only [List.getElem?_toArray, List.getElem?_cons_succ, List.getElem?_cons_zero]; rfl) (by rfl) ?_)
                  | (refine seq_load1 (by simp only [List.getElem?_toArray, List.getElem?_cons_succ, List.getElem?_cons_zero]; rfl) (by rfl) rfl rfl Tryd.underlying3 rfl (by go_simp <;> with_reducible rfl) (by first | exact id | assumption | (simp; done) | (simp; omega)) ?_)
                try simp only [Act.put, List.setIfInBounds_toArray, List.set_cons_zero, List.set_cons_succ]
                first
                  | (refine seq_skip (by simp only [List.getElem?_toArray, List.getElem?_cons_succ, List.getElem?_cons_zero]; rfl) (by rfl) ?_)
                  | (refine seq_do (by simp only [List.getElem?_toArray, List.getElem?_cons_succ, List.getElem?_cons_zero]; rfl) (by rfl) (fun K hK => ?_); go_wp2_with (first | (go_at_call 10; refine (left_any w1.heap.size _ (L - 1) (G + 1) _ _ _ (by first | exact NW.out | exact NW.out.below hB1 NW.out.lt)).mono ?_; rintro e w' ⟨rfl, rfl⟩) | (go_at_call 11; refine (gone_any w1.heap.size _ (L - 1) (G + 1) _ _ _ (by first | exact NW.out | exact NW.out.below hB1 NW.out.lt)).mono ?_; rintro e w' ⟨rfl, rfl⟩) | (go_at_call 12; refine (allW_any (G + 1) (w1.heap.size + 1 + 1) _ _ (by exact NM.out)).mono ?_; rintro e w4 ⟨rfl, hb4⟩; have hB1 : Below w.heap.size w w4 := (by first | exact hB1.trans (hb4.mono hB1.size) | exact Below.trans (by go_grown) (hb4.mono (by simp <;> omega))); have hcw1heapsize__1 := fun (o : Nat) => hb4.cell (p := ⟨w1.heap.size + 1, o, none⟩) (by first | assumption | (simp <;> omega)); have hfw1heapsize__1 := fun (o : Nat) => hb4.frozen (p := ⟨w1.heap.size + 1, o, none⟩) (by first | assumption | (simp <;> omega)); have hzw1heapsize__1 : w1.heap.size + 1 < w4.heap.size := Nat.lt_of_lt_of_le (by first | assumption | (simp <;> omega)) hb4.size)); refine hK.out _ _ (by first | (with_reducible exact Chg.refl _ _) | (with_reducible assumption) | (refine Chg.of_below ?_; with_reducible assumption) | (with_reducible exact (Chg.refl _ _).alloc _) | (with_reducible exact (Chg.refl _ _).drewN _) | (with_reducible exact (Chg.refl _ _).drew) | exact ⟨rfl, rfl, rfl, Nat.le_refl _, fun _ _ _ => rfl⟩) ?_; clear hK K)
                try simp only [Act.put, List.setIfInBounds_toArray, List.set_cons_zero, List.set_cons_succ]
                first
                  | (refine seq_skip (by simp only [List.getElem?_toArray, List.getElem?_cons_succ, List.getElem?_cons_zero]; rfl) (by rfl) ?_)
                  | (refine seq_calc (by simp only [List.getElem?_toArray, List.getElem?_cons_succ, List.getElem?_cons_zero]; rfl) (by rfl) (fun u => by go_simp <;> with_reducible rfl) ?_)
                try simp only [Act.put, List.setIfInBounds_toArray, List.set_cons_zero, List.set_cons_succ]
                first
                  | (refine seq_skip (by simp only [List.getElem?_toArray, List.getElem?_cons_succ, List.getElem?_cons_zero]; rfl) (by rfl) ?_)
                  | (refine seq_calc (by simp only [List.getElem?_toArray, List.getElem?_cons_succ, List.getElem?_cons_zero]; rfl) (by rfl) (fun u => by go_simp <;> with_reducible rfl) ?_)
                try simp only [Act.put, List.setIfInBounds_toArray, List.set_cons_zero, List.set_cons_succ]
                refine seq_calc (by simp only [List.getElem?_toArray, List.getElem?_cons_succ, List.getElem?_cons_zero]; rfl) (by rfl) (fun u => by go_simp <;> with_reducible rfl) ?_
                try simp only [Act.put, List.setIfInBounds_toArray, List.set_cons_zero, List.set_cons_succ]
                refine seq_calc (by simp only [List.getElem?_toArray, List.getElem?_cons_succ, List.getElem?_cons_zero]; rfl) (by rfl) (fun u => by go_simp <;> with_reducible rfl) ?_
                try simp only [Act.put, List.setIfInBounds_toArray, List.set_cons_zero, List.set_cons_succ]
                first
                  | (refine seq_skip (by simp only [List.getElem?_toArray, List.getElem?_cons_succ, List.getElem?_cons_zero]; rfl) (by rfl) ?_)
                  | (refine seq_calc (by simp only [List.getElem?_toArray, List.getElem?_cons_succ, List.getElem?_cons_zero]; rfl) (by rfl) (fun u => by go_simp <;> with_reducible rfl) ?_)
                try simp only [Act.put, List.setIfInBounds_toArray, List.set_cons_zero, List.set_cons_succ]
                first
                  | (refine seq_skip (by simp only [List.getElem?_toArray, List.getElem?_cons_succ, List.getElem?_cons_zero]; rfl) (by rfl) ?_)
                  | (refine seq_calc (by simp only [List.getElem?_toArray, List.getElem?_cons_succ, List.getElem?_cons_zero]; rfl) (by rfl) (fun u => by go_simp <;> with_reducible rfl) ?_)
                try simp only [Act.put, List.setIfInBounds_toArray, List.set_cons_zero, List.set_cons_succ]
                first
                  | (refine seq_skip (by simp only [List.getElem?_toArray, List.getElem?_cons_succ, List.getElem?_cons_zero]; rfl) (by rfl) ?_)
                  | (refine seq_calc (by simp only [List.getElem?_toArray, List.getElem?_cons_succ, List.getElem?_cons_zero]; rfl) (by rfl) (fun u => by go_simp <;> with_reducible rfl) ?_)
                try simp only [Act.put, List.setIfInBounds_toArray, List.set_cons_zero, List.set_cons_succ]
                first
                  | (refine seq_skip (by simp only [List.getElem?_toArray, List.getElem?_cons_succ, List.getElem?_cons_zero]; rfl) (by rfl) ?_)
                  | (refine seq_last (by simp only [List.getElem?_toArray, List.getElem?_cons_succ, List.getElem?_cons_zero]; rfl) (by rfl) (fun K hK => ?_); go_wp2_with (first | (go_at_call 10; refine (left_any w1.heap.size _ (L - 1) (G + 1) _ _ _ (by first | exact NW.out | exact NW.out.below hB1 NW.out.lt)).mono ?_; rintro e w' ⟨rfl, rfl⟩) | (go_at_call 11; refine (gone_any w1.heap.size _ (L - 1) (G + 1) _ _ _ (by first | exact NW.out | exact NW.out.below hB1 NW.out.lt)).mono ?_; rintro e w' ⟨rfl, rfl⟩) | (go_at_call 12; refine (allW_any (G + 1) (w1.heap.size + 1 + 1) _ _ (by exact NM.out)).mono ?_; rintro e w4 ⟨rfl, hb4⟩; have hB1 : Below w.heap.size w w4 := (by first | exact hB1.trans (hb4.mono hB1.size) | exact Below.trans (by go_grown) (hb4.mono (by simp <;> omega))); have hcw1heapsize__1 := fun (o : Nat) => hb4.cell (p := ⟨w1.heap.size + 1, o, none⟩) (by first | assumption | (simp <;> omega)); have hfw1heapsize__1 := fun (o : Nat) => hb4.frozen (p := ⟨w1.heap.size + 1, o, none⟩) (by first | assumption | (simp <;> omega)); have hzw1heapsize__1 : w1.heap.size + 1 < w4.heap.size := Nat.lt_of_lt_of_le (by first | assumption | (simp <;> omega)) hb4.size)); refine hK.out _ _ ?_; clear hK K)
                try simp only [Act.put, List.setIfInBounds_toArray, List.set_cons_zero, List.set_cons_succ]
                first
                  | (refine seq_skip (by simp only [List.getElem?_toArray, List.getElem?_cons_succ, List.getElem?_cons_zero]; rfl) (by rfl) ?_)
                  | (refine seq_last (by simp only [List.getElem?_toArray, List.getElem?_cons_succ, List.getElem?_cons_zero]; rfl) (by rfl) (fun K hK => ?_); go_wp2_with (first | (go_at_call 10; refine (left_any w1.heap.size _ (L - 1) (G + 1) _ _ _ (by first | exact NW.out | exact NW.out.below hB1 NW.out.lt)).mono ?_; rintro e w' ⟨rfl, rfl⟩) | (go_at_call 11; refine (gone_any w1.heap.size _ (L - 1) (G + 1) _ _ _ (by first | exact NW.out | exact NW.out.below hB1 NW.out.lt)).mono ?_; rintro e w' ⟨rfl, rfl⟩) | (go_at_call 12; refine (allW_any (G + 1) (w1.heap.size + 1 + 1) _ _ (by exact NM.out)).mono ?_; rintro e w4 ⟨rfl, hb4⟩; have hB1 : Below w.heap.size w w4 := (by first | exact hB1.trans (hb4.mono hB1.size) | exact Below.trans (by go_grown) (hb4.mono (by simp <;> omega))); have hcw1heapsize__1 := fun (o : Nat) => hb4.cell (p := ⟨w1.heap.size + 1, o, none⟩) (by first | assumption | (simp <;> omega)); have hfw1heapsize__1 := fun (o : Nat) => hb4.frozen (p := ⟨w1.heap.size + 1, o, none⟩) (by first | assumption | (simp <;> omega)); have hzw1heapsize__1 : w1.heap.size + 1 < w4.heap.size := Nat.lt_of_lt_of_le (by first | assumption | (simp <;> omega)) hb4.size)); refine hK.out _ _ ?_; clear hK K)
                try simp only [Act.put, List.setIfInBounds_toArray, List.set_cons_zero, List.set_cons_succ]
                first
                  | (refine seq_skip (by simp only [List.getElem?_toArray, List.getElem?_cons_succ, List.getElem?_cons_zero]; rfl) (by rfl) ?_)
                  | (refine seq_calc (by simp only [List.getElem?_toArray, List.getElem?_cons_succ, List.getElem?_cons_zero]; rfl) (by rfl) (fun u => by go_simp <;> with_reducible rfl) ?_)
                try simp only [Act.put, List.setIfInBounds_toArray, List.set_cons_zero, List.set_cons_succ]
                first
                  | (refine seq_skip (by simp only [List.getElem?_toArray, List.getElem?_cons_succ, List.getElem?_cons_zero]; rfl) (by rfl) ?_)
                  | (refine seq_calc (by simp only [List.getElem?_toArray, List.getElem?_cons_succ, List.getElem?_cons_zero]; rfl) (by rfl) (fun u => by go_simp <;> with_reducible rfl) ?_)
                try simp only [Act.put, List.setIfInBounds_toArray, List.set_cons_zero, List.set_cons_succ]
                refine seq_calc (by simp only [List.getElem?_toArray, List.getElem?_cons_succ, List.getElem?_cons_zero]; rfl) (by rfl) (fun u => by go_simp <;> with_reducible rfl) ?_
                try simp only [Act.put, List.setIfInBounds_toArray, List.set_cons_zero, List.set_cons_succ]
                refine seq_nil ?_
                go_wp2
                case roundEnd =>
                  exact ⟨⟨k + 1, L - 1, G + 1, by omega, by go_num, by rw [hsum], by omega, by omega, by omega, by omega, ⟨NW.out.below hB1 NW.out.lt, NM.out.below hB1 NM.out.lt⟩, NR.out.below hB1 NR.out.lt, NB.out.trans (hB1.mono NB.out.size)⟩, by simp [intOf]; omega⟩
            · go_wp2
              refine wp_at (fun W hW => ?_)
              have mW : Blk W w1.heap.size 29 (washC L G (.float .f64 0) (.float .f64 0)) := by rw [hW]; exact hWM.1.alloc _
              have mR : Blk W (w1.heap.size + 1) 32 (refC L G) := by rw [hW]; exact hRf.alloc _
              have mM : Blk W (w1.heap.size + 1 + 1) 37 (mtrS G).cells := by rw [hW]; exact hWM.2.alloc _
              have m8 : Blk W wr.heap.size 39 #[.int .i64 q, .int .i64 N] := by rw [hW]; exact Blk.new _ _ _
              have hBW : Below w0.heap.size w0 W := by rw [hW]; exact hB.trans (by go_grown)
              have hzW : W.heap.size = wr.heap.size + 1 := by rw [hW]; simp
              replace hW := Lib.hid hW
              have c80 := m8.cell 0
              have c81 := m8.cell 1
              have f80 := m8.frozen 0
              have f81 := m8.frozen 1
              have MW := Lib.hid mW
              have MR := Lib.hid mR
              have MM := Lib.hid mM
              have HBW := Lib.hid hBW
              clear mW mR mM m8 hBW
              have MW3 := MW.out
              have MM3 := MM.out
              have MR3 := MR.out
              have MB3 := HBW.out
              refine wp_at (fun w hw => ?_)
              have NW : Blk w w1.heap.size 29 (washC L G (.float .f64 0) (.float .f64 0)) := by rw [hw]; exact MW3
              have NR : Blk w (w1.heap.size + 1) 32 (refC L G) := by rw [hw]; exact MR3
              have NM : Blk w (w1.heap.size + 1 + 1) 37 (mtrS G).cells := by rw [hw]; exact MM3
              have NB : Below w0.heap.size w0 w := by rw [hw]; exact MB3
              clear hw MW3 MR3 MM3 MB3
              have hlr := NR.lt
              obtain ⟨r0, r1, _, _⟩ := ref_cells NR
              replace NW := Lib.hid NW; replace NR := Lib.hid NR; replace NM := Lib.hid NM; replace NB := Lib.hid NB
              refine wp_region_seq (fun _ => False) #[⟨0, 0, 590295810358705651712, 512, 0⟩, ⟨0, 0, 1180591620717411303424, 1024, 0⟩, ⟨3, 3, 2361183241434822606848, 1770887431076116955136, 0⟩, ⟨4, 7, 4722366482869645213696, 2361183241434822606848, 0⟩, ⟨8, 15, 9444732965739290427392, 4722366482869645213704, 0⟩, ⟨24, 31, 18889465931478580854784, 14167099448608935641088, 2⟩, ⟨8, 15, 37778931862957161709568, 4722366482869645213712, 0⟩, ⟨72, 79, 75557863725914323419136, 42501298345826806923264, 0⟩, ⟨136, 207, 151115727451828646838272, 80280230208783968632832, 0⟩, ⟨264, 463, 302231454903657293676544, 155838093934698292051968, 1⟩, ⟨552, 1023, 604462909807314587353088, 325843287318005519745024, 0⟩, ⟨1032, 2047, 1208925819614629174706176, 609185276290184232566784, 0⟩, ⟨2080, 4095, 2417851639229258349412352, 1208925819614629174706176, 0⟩, ⟨4096, 8191, 4835703278458516698824704, 2417851639229258349412360, 0⟩, ⟨12288, 16383, 9671406556917033397649408, 7253554917687775048237056, 2⟩, ⟨4096, 8191, 19342813113834066795298816, 2417851639229258349412368, 0⟩, ⟨36864, 40959, 38685626227668133590597632, 21760664753063325144711168, 0⟩, ⟨69632, 106495, 77371252455336267181195264, 41103477866897391940009984, 0⟩, ⟨135168, 237567, 154742504910672534362390528, 79789104094565525530607616, 1⟩, ⟨282624, 524287, 309485009821345068724781056, 166831763106818826109452288, 0⟩, ⟨528384, 1048575, 618970019642690137449562112, 311902861460574327074193408, 0⟩, ⟨1064960, 2097151, 1237940039285380274899124224, 618970019642690137449562112, 0⟩, ⟨2097152, 4194303, 2475880078570760549798248448, 1237940039285380274899124256, 0⟩, ⟨6291456, 8388607, 4951760157141521099596496896, 3713820117856140824697372672, 2⟩, ⟨10485760, 16777215, 9903520314283042199192993792, 6189700196426901374495621120, 0⟩, ⟨2097152, 4194303, 19807040628566084398385987584, 1237940039285380274899124240, 0⟩, ⟨35651584, 37748735, 39614081257132168796771975168, 21044980667851464673285111808, 0⟩, ⟨69206016, 104857599, 79228162514264337593543950336, 40852021296417549071671099392, 0⟩, ⟨136314880, 239075327, 158456325028528675187087900672, 80466102553549717868443074560, 1⟩, ⟨287309824, 536870911, 316912650057057350374175801344, 169597785382097097661180018688, 0⟩, ⟨538968064, 1073741823, 633825300114114700748351602688, 318150590096342730649074925568, 0⟩, ⟨1082130432, 2147483647, 1267650600228229401496703205376, 633825300114114700748351602688, 0⟩, ⟨2147483648, 4294967295, 2535301200456458802993406410752, 1267650600228229401496703205384, 0⟩, ⟨6442450944, 8589934591, 5070602400912917605986812821504, 3802951800684688204490109616128, 3⟩, ⟨2147483648, 4294967295, 10141204801825835211973625643008, 1267650600228229401496703205384, 0⟩, ⟨27917287424, 34359738367, 20282409603651670423947251286016, 11408855402054064613470328848384, 3⟩, ⟨45097156608, 68719476735, 40564819207303340847894502572032, 26620662604792817431430767312896, 0⟩, ⟨2147483648, 4294967295, 81129638414606681695789005144064, 1267650600228229401496703205440, 0⟩, ⟨208305913856, 274877906943, 162259276829213363391578010288128, 122962108222138251945180210921472, 0⟩, ⟨277025390592, 549755813887, 324518553658426726783156020576256, 163526927429441592793074713493504, 0⟩] 268698112 [(0, 0), (1, 0), (2, 0), (3, 0), (4, 0), (6, 0), (7, 0), (8, 0), (9, 1), (5, 2), (10, 0), (11, 0), (12, 0), (13, 0), (15, 0), (16, 0), (17, 0), (18, 1), (14, 2), (19, 0), (20, 0), (21, 0), (22, 0), (25, 0), (26, 0), (27, 0), (28, 1), (23, 2), (24, 0), (29, 0), (30, 0), (31, 0), (32, 0), (34, 0), (37, 0), (33, 3), (35, 3), (36, 0), (38, 0), (39, 0)] (by kernel_rfl) (by kernel_rfl) (by kernel_rfl) (by kernel_rfl) (by kernel_rfl) (by kernel_rfl) (fun c a d v w h => by cases d <;> exact h) ?_
              refine seq_calc (by simp only [List.getElem?_toArray, List.getElem?_cons_succ, List.getElem?_cons_zero]; rfl) (by rfl) (fun u => by go_simp <;> with_reducible rfl) ?_
              try simp only [Act.put, List.setIfInBounds_toArray, List.set_cons_zero, List.set_cons_succ]
              refine seq_calc (by simp only [List.getElem?_toArray, List.getElem?_cons_succ, List.getElem?_cons_zero]; rfl) (by rfl) (fun u => by go_simp <;> with_reducible rfl) ?_
              try simp only [Act.put, List.setIfInBounds_toArray, List.set_cons_zero, List.set_cons_succ]
              refine seq_calc (by simp only [List.getElem?_toArray, List.getElem?_cons_succ, List.getElem?_cons_zero]; rfl) (by rfl) (fun u => by go_simp <;> with_reducible rfl) ?_
              try simp only [Act.put, List.setIfInBounds_toArray, List.set_cons_zero, List.set_cons_succ]
              refine seq_calc (by simp only [List.getElem?_toArray, List.getElem?_cons_succ, List.getElem?_cons_zero]; rfl) (by rfl) (fun u => by go_simp <;> with_reducible rfl) ?_
              try simp only [Act.put, List.setIfInBounds_toArray, List.set_cons_zero, List.set_cons_succ]
              first
                | (refine seq_skip (by simp only [List.getElem?_toArray, List.getElem?_cons_succ, List.getElem?_cons_zero]; rfl) (by rfl) ?_)
                | (refine seq_calc (by simp only [List.getElem?_toArray, List.getElem?_cons_succ, List.getElem?_cons_zero]; rfl) (by rfl) (fun u => by go_simp <;> with_reducible rfl) ?_)
              try simp only [Act.put, List.setIfInBounds_toArray, List.set_cons_zero, List.set_cons_succ]
              first
                | (refine seq_skip (by simp only [List.getElem?_toArray, List.getElem?_cons_succ, List.getElem?_cons_zero]; rfl) (by rfl) ?_)
                | (refine seq_calc (by simp only [List.getElem?_toArray, List.getElem?_cons_succ, List.getElem?_cons_zero]; rfl) (by rfl) (fun u => by go_simp <;> with_reducible rfl) ?_)
              try simp only [Act.put, List.setIfInBounds_toArray, List.set_cons_zero, List.set_cons_succ]
              first
                | (refine seq_skip (by simp only [List.getElem?_toArray, List.getElem?_cons_succ, List.getElem?_cons_zero]; rfl) (by rfl) ?_)
                | (refine seq_calc (by simp only [List.getElem?_toArray, List.getElem?_cons_succ, List.getElem?_cons_zero]; rfl) (by rfl) (fun u => by go_simp <;> with_reducible rfl) ?_)
              try simp only [Act.put, List.setIfInBounds_toArray, List.set_cons_zero, List.set_cons_succ]
              first
                | (refine seq_skip (by simp only [List.getElem?_toArray, List.getElem?_cons_succ, List.getElem?_cons_zero]; rfl) (by rfl) ?_)
                | (refine seq_calc (by simp only [List.getElem?_toArray, List.getElem?_cons_succ, List.getElem?_cons_zero]; rfl) (by rfl) (fun u => by go_simp <;> with_reducible rfl) ?_)
              try simp only [Act.put, List.setIfInBounds_toArray, List.set_cons_zero, List.set_cons_succ]
              first
                | (refine seq_skip (by simp only [List.getElem?_toArray, List.getElem?_cons_succ, List.getElem?_cons_zero]; rfl) (by rfl) ?_)
                | (refine seq_load1 (by simp only [List.getElem?_toArray, List.getElem?_cons_succ, List.getElem?_cons_zero]; rfl) (by rfl) rfl rfl Tryd.underlying3 rfl (by go_simp <;> with_reducible rfl) (by first | exact id | assumption | (simp; done) | (simp; omega)) ?_)
              try simp only [Act.put, List.setIfInBounds_toArray, List.set_cons_zero, List.set_cons_succ]
              first
                | (refine seq_skip (by simp only [List.getElem?_toArray, List.getElem?_cons_succ, List.getElem?_cons_zero]; rfl) (by rfl) ?_)
                | (refine seq_do (by simp only [List.getElem?_toArray, List.getElem?_cons_succ, List.getElem?_cons_zero]; rfl) (by rfl) (fun K hK => ?_); go_wp2_with (first | (go_at_call 10; refine (left_any w1.heap.size _ L G _ _ _ (by first | exact NW.out | exact NW.out.below hB1 NW.out.lt)).mono ?_; rintro e w' ⟨rfl, rfl⟩) | (go_at_call 11; refine (gone_any w1.heap.size _ L G _ _ _ (by first | exact NW.out | exact NW.out.below hB1 NW.out.lt)).mono ?_; rintro e w' ⟨rfl, rfl⟩) | (go_at_call 12; refine (allW_any G (w1.heap.size + 1 + 1) _ _ (by exact NM.out)).mono ?_; rintro e w4 ⟨rfl, hb4⟩; have hB1 : Below w.heap.size w w4 := (by first | exact hB1.trans (hb4.mono hB1.size) | exact Below.trans (by go_grown) (hb4.mono (by simp <;> omega))); have hcw1heapsize__1 := fun (o : Nat) => hb4.cell (p := ⟨w1.heap.size + 1, o, none⟩) (by first | assumption | (simp <;> omega)); have hfw1heapsize__1 := fun (o : Nat) => hb4.frozen (p := ⟨w1.heap.size + 1, o, none⟩) (by first | assumption | (simp <;> omega)); have hzw1heapsize__1 : w1.heap.size + 1 < w4.heap.size := Nat.lt_of_lt_of_le (by first | assumption | (simp <;> omega)) hb4.size)); refine hK.out _ _ (by first | (with_reducible exact Chg.refl _ _) | (with_reducible assumption) | (refine Chg.of_below ?_; with_reducible assumption) | (with_reducible exact (Chg.refl _ _).alloc _) | (with_reducible exact (Chg.refl _ _).drewN _) | (with_reducible exact (Chg.refl _ _).drew) | exact ⟨rfl, rfl, rfl, Nat.le_refl _, fun _ _ _ => rfl⟩) ?_; clear hK K)
              try simp only [Act.put, List.setIfInBounds_toArray, List.set_cons_zero, List.set_cons_succ]
              first
                | (refine seq_skip (by simp only [List.getElem?_toArray, List.getElem?_cons_succ, List.getElem?_cons_zero]; rfl) (by rfl) ?_)
                | (refine seq_calc (by simp only [List.getElem?_toArray, List.getElem?_cons_succ, List.getElem?_cons_zero]; rfl) (by rfl) (fun u => by go_simp <;> with_reducible rfl) ?_)
              try simp only [Act.put, List.setIfInBounds_toArray, List.set_cons_zero, List.set_cons_succ]
              refine seq_calc (by simp only [List.getElem?_toArray, List.getElem?_cons_succ, List.getElem?_cons_zero]; rfl) (by rfl) (fun u => by go_simp <;> with_reducible rfl) ?_
              try simp only [Act.put, List.setIfInBounds_toArray, List.set_cons_zero, List.set_cons_succ]
              refine seq_calc (by simp only [List.getElem?_toArray, List.getElem?_cons_succ, List.getElem?_cons_zero]; rfl) (by rfl) (fun u => by go_simp <;> with_reducible rfl) ?_
              try simp only [Act.put, List.setIfInBounds_toArray, List.set_cons_zero, List.set_cons_succ]
              first
                | (refine seq_skip (by simp only [List.getElem?_toArray, List.getElem?_cons_succ, List.getElem?_cons_zero]; rfl) (by rfl) ?_)
                | (refine seq_calc (by simp only [List.getElem?_toArray, List.getElem?_cons_succ, List.getElem?_cons_zero]; rfl) (by rfl) (fun u => by go_simp <;> with_reducible rfl) ?_)
              try simp only [Act.put, List.setIfInBounds_toArray, List.set_cons_zero, List.set_cons_succ]
              first
                | (refine seq_skip (by simp only [List.getElem?_toArray, List.getElem?_cons_succ, List.getElem?_cons_zero]; rfl) (by rfl) ?_)
                | (refine seq_calc (by simp only [List.getElem?_toArray, List.getElem?_cons_succ, List.getElem?_cons_zero]; rfl) (by rfl) (fun u => by go_simp <;> with_reducible rfl) ?_)
              try simp only [Act.put, List.setIfInBounds_toArray, List.set_cons_zero, List.set_cons_succ]
              first
                | (refine seq_skip (by simp only [List.getElem?_toArray, List.getElem?_cons_succ, List.getElem?_cons_zero]; rfl) (by rfl) ?_)
                | (refine seq_calc (by simp only [List.getElem?_toArray, List.getElem?_cons_succ, List.getElem?_cons_zero]; rfl) (by rfl) (fun u => by go_simp <;> with_reducible rfl) ?_)
              try simp only [Act.put, List.setIfInBounds_toArray, List.set_cons_zero, List.set_cons_succ]
              first
                | (refine seq_skip (by simp only [List.getElem?_toArray, List.getElem?_cons_succ, List.getElem?_cons_zero]; rfl) (by rfl) ?_)
                | (refine seq_calc (by simp only [List.getElem?_toArray, List.getElem?_cons_succ, List.getElem?_cons_zero]; rfl) (by rfl) (fun u => by go_simp <;> with_reducible rfl) ?_)
              try simp only [Act.put, List.setIfInBounds_toArray, List.set_cons_zero, List.set_cons_succ]
              first
                | (refine seq_skip (by simp only [List.getElem?_toArray, List.getElem?_cons_succ, List.getElem?_cons_zero]; rfl) (by rfl) ?_)
                | (refine seq_load1 (by simp only [List.getElem?_toArray, List.getElem?_cons_succ, List.getElem?_cons_zero]; rfl) (by rfl) rfl rfl Tryd.underlying3 rfl (by go_simp <;> with_reducible rfl) (by first | exact id | assumption | (simp; done) | (simp; omega)) ?_)
              try simp only [Act.put, List.setIfInBounds_toArray, List.set_cons_zero, List.set_cons_succ]
              first
                | (refine seq_skip (by simp only [List.getElem?_toArray, List.getElem?_cons_succ, List.getElem?_cons_zero]; rfl) (by rfl) ?_)
                | (refine seq_do (by simp only [List.getElem?_toArray, List.getElem?_cons_succ, List.getElem?_cons_zero]; rfl) (by rfl) (fun K hK => ?_); go_wp2_with (first | (go_at_call 10; refine (left_any w1.heap.size _ L G _ _ _ (by first | exact NW.out | exact NW.out.below hB1 NW.out.lt)).mono ?_; rintro e w' ⟨rfl, rfl⟩) | (go_at_call 11; refine (gone_any w1.heap.size _ L G _ _ _ (by first | exact NW.out | exact NW.out.below hB1 NW.out.lt)).mono ?_; rintro e w' ⟨rfl, rfl⟩) | (go_at_call 12; refine (allW_any G (w1.heap.size + 1 + 1) _ _ (by exact NM.out)).mono ?_; rintro e w4 ⟨rfl, hb4⟩; have hB1 : Below w.heap.size w w4 := (by first | exact hB1.trans (hb4.mono hB1.size) | exact Below.trans (by go_grown) (hb4.mono (by simp <;> omega))); have hcw1heapsize__1 := fun (o : Nat) => hb4.cell (p := ⟨w1.heap.size + 1, o, none⟩) (by first | assumption | (simp <;> omega)); have hfw1heapsize__1 := fun (o : Nat) => hb4.frozen (p := ⟨w1.heap.size + 1, o, none⟩) (by first | assumption | (simp <;> omega)); have hzw1heapsize__1 : w1.heap.size + 1 < w4.heap.size := Nat.lt_of_lt_of_le (by first | assumption | (simp <;> omega)) hb4.size)); refine hK.out _ _ (by first | (with_reducible exact Chg.refl _ _) | (with_reducible assumption) | (refine Chg.of_below ?_; with_reducible assumption) | (with_reducible exact (Chg.refl _ _).alloc _) | (with_reducible exact (Chg.refl _ _).drewN _) | (with_reducible exact (Chg.refl _ _).drew) | exact ⟨rfl, rfl, rfl, Nat.le_refl _, fun _ _ _ => rfl⟩) ?_; clear hK K)
              try simp only [Act.put, List.setIfInBounds_toArray, List.set_cons_zero, List.set_cons_succ]
              first
                | (refine seq_skip (by simp only [List.getElem?_toArray, List.getElem?_cons_succ, List.getElem?_cons_zero]; rfl) (by rfl) ?_)
                | (refine seq_calc (by simp only [List.getElem?_toArray, List.getElem?_cons_succ, List.getElem?_cons_zero]; rfl) (by rfl) (fun u => by go_simp <;> with_reducible rfl) ?_)
              try simp only [Act.put, List.setIfInBounds_toArray, List.set_cons_zero, List.set_cons_succ]
              refine seq_calc (by simp only [List.getElem?_toArray, List.getElem?_cons_succ, List.getElem?_cons_zero]; rfl) (by rfl) (fun u => by go_simp <;> with_reducible rfl) ?_
              try simp only [Act.put, List.setIfInBounds_toArray, List.set_cons_zero, List.set_cons_succ]
              refine seq_calc (by simp only [List.getElem?_toArray, List.getElem?_cons_succ, List.getElem?_cons_zero]; rfl) (by rfl) (fun u => by go_simp <;> with_reducible rfl) ?_
              try simp only [Act.put, List.setIfInBounds_toArray, List.set_cons_zero, List.set_cons_succ]
              first
                | (refine seq_skip (by simp only [List.getElem?_toArray, List.getElem?_cons_succ, List.getElem?_cons_zero]; rfl) (by rfl) ?_)
                | (refine seq_calc (by simp only [List.getElem?_toArray, List.getElem?_cons_succ, List.getElem?_cons_zero]; rfl) (by rfl) (fun u => by go_simp <;> with_reducible rfl) ?_)
              try simp only [Act.put, List.setIfInBounds_toArray, List.set_cons_zero, List.set_cons_succ]
              first
                | (refine seq_skip (by simp only [List.getElem?_toArray, List.getElem?_cons_succ, List.getElem?_cons_zero]; rfl) (by rfl) ?_)
                | (refine seq_calc (by simp only [List.getElem?_toArray, List.getElem?_cons_succ, List.getElem?_cons_zero]; rfl) (by rfl) (fun u => by go_simp <;> with_reducible rfl) ?_)
              try simp only [Act.put, List.setIfInBounds_toArray, List.set_cons_zero, List.set_cons_succ]
              first
                | (refine seq_skip (by simp only [List.getElem?_toArray, List.getElem?_cons_succ, List.getElem?_cons_zero]; rfl) (by rfl) ?_)
                | (refine seq_calc (by simp only [List.getElem?_toArray, List.getElem?_cons_succ, List.getElem?_cons_zero]; rfl) (by rfl) (fun u => by go_simp <;> with_reducible rfl) ?_)
              try simp only [Act.put, List.setIfInBounds_toArray, List.set_cons_zero, List.set_cons_succ]
              first
                | (refine seq_skip (by simp only [List.getElem?_toArray, List.getElem?_cons_succ, List.getElem?_cons_zero]; rfl) (by rfl) ?_)
                | (refine seq_calc (by simp only [List.getElem?_toArray, List.getElem?_cons_succ, List.getElem?_cons_zero]; rfl) (by rfl) (fun u => by go_simp <;> with_reducible rfl) ?_)
              try simp only [Act.put, List.setIfInBounds_toArray, List.set_cons_zero, List.set_cons_succ]
              first
                | (refine seq_skip (by simp only [List.getElem?_toArray, List.getElem?_cons_succ, List.getElem?_cons_zero]; rfl) (by rfl) ?_)
                | (refine seq_load1 (by simp only [List.getElem?_toArray, List.getElem?_cons_succ, List.getElem?_cons_zero]; rfl) (by rfl) rfl rfl Tryd.underlying3 rfl (by go_simp <;> with_reducible rfl) (by first | exact id | assumption | (simp; done) | (simp; omega)) ?_)
              try simp only [Act.put, List.setIfInBounds_toArray, List.set_cons_zero, List.set_cons_succ]
              first
                | (refine seq_skip (by simp only [List.getElem?_toArray, List.getElem?_cons_succ, List.getElem?_cons_zero]; rfl) (by rfl) ?_)
                | (refine seq_do (by simp only [List.getElem?_toArray, List.getElem?_cons_succ, List.getElem?_cons_zero]; rfl) (by rfl) (fun K hK => ?_); go_wp2_with (first | (go_at_call 10; refine (left_any w1.heap.size _ L G _ _ _ (by first | exact NW.out | exact NW.out.below hB1 NW.out.lt)).mono ?_; rintro e w' ⟨rfl, rfl⟩) | (go_at_call 11; refine (gone_any w1.heap.size _ L G _ _ _ (by first | exact NW.out | exact NW.out.below hB1 NW.out.lt)).mono ?_; rintro e w' ⟨rfl, rfl⟩) | (go_at_call 12; refine (allW_any G (w1.heap.size + 1 + 1) _ _ (by exact NM.out)).mono ?_; rintro e w4 ⟨rfl, hb4⟩; have hB1 : Below w.heap.size w w4 := (by first | exact hB1.trans (hb4.mono hB1.size) | exact Below.trans (by go_grown) (hb4.mono (by simp <;> omega))); have hcw1heapsize__1 := fun (o : Nat) => hb4.cell (p := ⟨w1.heap.size + 1, o, none⟩) (by first | assumption | (simp <;> omega)); have hfw1heapsize__1 := fun (o : Nat) => hb4.frozen (p := ⟨w1.heap.size + 1, o, none⟩) (by first | assumption | (simp <;> omega)); have hzw1heapsize__1 : w1.heap.size + 1 < w4.heap.size := Nat.lt_of_lt_of_le (by first | assumption | (simp <;> omega)) hb4.size)); refine hK.out _ _ (by first | (with_reducible exact Chg.refl _ _) | (with_reducible assumption) | (refine Chg.of_below ?_; with_reducible assumption) | (with_reducible exact (Chg.refl _ _).alloc _) | (with_reducible exact (Chg.refl _ _).drewN _) | (with_reducible exact (Chg.refl _ _).drew) | exact ⟨rfl, rfl, rfl, Nat.le_refl _, fun _ _ _ => rfl⟩) ?_; clear hK K)
              try simp only [Act.put, List.setIfInBounds_toArray, List.set_cons_zero, List.set_cons_succ]
              first
                | (refine seq_skip (by simp only [List.getElem?_toArray, List.getElem?_cons_succ, List.getElem?_cons_zero]; rfl) (by rfl) ?_)
                | (refine seq_calc (by simp only [List.getElem?_toArray, List.getElem?_cons_succ, List.getElem?_cons_zero]; rfl) (by rfl) (fun u => by go_simp <;> with_reducible rfl) ?_)
              try simp only [Act.put, List.setIfInBounds_toArray, List.set_cons_zero, List.set_cons_succ]
              first
                | (refine seq_skip (by simp only [List.getElem?_toArray, List.getElem?_cons_succ, List.getElem?_cons_zero]; rfl) (by rfl) ?_)
                | (refine seq_calc (by simp only [List.getElem?_toArray, List.getElem?_cons_succ, List.getElem?_cons_zero]; rfl) (by rfl) (fun u => by go_simp <;> with_reducible rfl) ?_)
              try simp only [Act.put, List.setIfInBounds_toArray, List.set_cons_zero, List.set_cons_succ]
              refine seq_calc (by simp only [List.getElem?_toArray, List.getElem?_cons_succ, List.getElem?_cons_zero]; rfl) (by rfl) (fun u => by go_simp <;> with_reducible rfl) ?_
              try simp only [Act.put, List.setIfInBounds_toArray, List.set_cons_zero, List.set_cons_succ]
              refine seq_calc (by simp only [List.getElem?_toArray, List.getElem?_cons_succ, List.getElem?_cons_zero]; rfl) (by rfl) (fun u => by go_simp <;> with_reducible rfl) ?_
              try simp only [Act.put, List.setIfInBounds_toArray, List.set_cons_zero, List.set_cons_succ]
              first
                | (refine seq_skip (by simp only [List.getElem?_toArray, List.getElem?_cons_succ, List.getElem?_cons_zero]; rfl) (by rfl) ?_)
                | (refine seq_calc (by simp only [List.getElem?_toArray, List.getElem?_cons_succ, List.getElem?_cons_zero]; rfl) (by rfl) (fun u => by go_simp <;> with_reducible rfl) ?_)
              try simp only [Act.put, List.setIfInBounds_toArray, List.set_cons_zero, List.set_cons_succ]
              first
                | (refine seq_skip (by simp only [List.getElem?_toArray, List.getElem?_cons_succ, List.getElem?_cons_zero]; rfl) (by rfl) ?_)
                | (refine seq_calc (by simp only [List.getElem?_toArray, List.getElem?_cons_succ, List.getElem?_cons_zero]; rfl) (by rfl) (fun u => by go_simp <;> with_reducible rfl) ?_)
              try simp only [Act.put, List.setIfInBounds_toArray, List.set_cons_zero, List.set_cons_succ]
              first
                | (refine seq_skip (by simp only [List.getElem?_toArray, List.getElem?_cons_succ, List.getElem?_cons_zero]; rfl) (by rfl) ?_)
                | (refine seq_calc (by simp only [List.getElem?_toArray, List.getElem?_cons_succ, List.getElem?_cons_zero]; rfl) (by rfl) (fun u => by go_simp <;> with_reducible rfl) ?_)
              try simp only [Act.put, List.setIfInBounds_toArray, List.set_cons_zero, List.set_cons_succ]
              first
                | (refine seq_skip (by simp only [List.getElem?_toArray, List.getElem?_cons_succ, List.getElem?_cons_zero]; rfl) (by rfl) ?_)
                | (refine seq_last (by simp only [List.getElem?_toArray, List.getElem?_cons_succ, List.getElem?_cons_zero]; rfl) (by rfl) (fun K hK => ?_); go_wp2_with (first | (go_at_call 10; refine (left_any w1.heap.size _ L G _ _ _ (by first | exact NW.out | exact NW.out.below hB1 NW.out.lt)).mono ?_; rintro e w' ⟨rfl, rfl⟩) | (go_at_call 11; refine (gone_any w1.heap.size _ L G _ _ _ (by first | exact NW.out | exact NW.out.below hB1 NW.out.lt)).mono ?_; rintro e w' ⟨rfl, rfl⟩) | (go_at_call 12; refine (allW_any G (w1.heap.size + 1 + 1) _ _ (by exact NM.out)).mono ?_; rintro e w4 ⟨rfl, hb4⟩; have hB1 : Below w.heap.size w w4 := (by first | exact hB1.trans (hb4.mono hB1.size) | exact Below.trans (by go_grown) (hb4.mono (by simp <;> omega))); have hcw1heapsize__1 := fun (o : Nat) => hb4.cell (p := ⟨w1.heap.size + 1, o, none⟩) (by first | assumption | (simp <;> omega)); have hfw1heapsize__1 := fun (o : Nat) => hb4.frozen (p := ⟨w1.heap.size + 1, o, none⟩) (by first | assumption | (simp <;> omega)); have hzw1heapsize__1 : w1.heap.size + 1 < w4.heap.size := Nat.lt_of_lt_of_le (by first | assumption | (simp <;> omega)) hb4.size)); refine hK.out _ _ ?_; clear hK K)
              try simp only [Act.put, List.setIfInBounds_toArray, List.set_cons_zero, List.set_cons_succ]
              first
                | (refine seq_skip (by simp only [List.getElem?_toArray, List.getElem?_cons_succ, List.getElem?_cons_zero]; rfl) (by rfl) ?_)
                | (refine seq_last (by simp only [List.getElem?_toArray, List.getElem?_cons_succ, List.getElem?_cons_zero]; rfl) (by rfl) (fun K hK => ?_); go_wp2_with (first | (go_at_call 10; refine (left_any w1.heap.size _ L G _ _ _ (by first | exact NW.out | exact NW.out.below hB1 NW.out.lt)).mono ?_; rintro e w' ⟨rfl, rfl⟩) | (go_at_call 11; refine (gone_any w1.heap.size _ L G _ _ _ (by first | exact NW.out | exact NW.out.below hB1 NW.out.lt)).mono ?_; rintro e w' ⟨rfl, rfl⟩) | (go_at_call 12; refine (allW_any G (w1.heap.size + 1 + 1) _ _ (by exact NM.out)).mono ?_; rintro e w4 ⟨rfl, hb4⟩; have hB1 : Below w.heap.size w w4 := (by first | exact hB1.trans (hb4.mono hB1.size) | exact Below.trans (by go_grown) (hb4.mono (by simp <;> omega))); have hcw1heapsize__1 := fun (o : Nat) => hb4.cell (p := ⟨w1.heap.size + 1, o, none⟩) (by first | assumption | (simp <;> omega)); have hfw1heapsize__1 := fun (o : Nat) => hb4.frozen (p := ⟨w1.heap.size + 1, o, none⟩) (by first | assumption | (simp <;> omega)); have hzw1heapsize__1 : w1.heap.size + 1 < w4.heap.size := Nat.lt_of_lt_of_le (by first | assumption | (simp <;> omega)) hb4.size)); refine hK.out _ _ ?_; clear hK K)
              try simp only [Act.put, List.setIfInBounds_toArray, List.set_cons_zero, List.set_cons_succ]
              first
                | (refine seq_skip (by simp only [List.getElem?_toArray, List.getElem?_cons_succ, List.getElem?_cons_zero]; rfl) (by rfl) ?_)
                | (refine seq_calc (by simp only [List.getElem?_toArray, List.getElem?_cons_succ, List.getElem?_cons_zero]; rfl) (by rfl) (fun u => by go_simp <;> with_reducible rfl) ?_)
              try simp only [Act.put, List.setIfInBounds_toArray, List.set_cons_zero, List.set_cons_succ]
              first
                | (refine seq_skip (by simp only [List.getElem?_toArray, List.getElem?_cons_succ, List.getElem?_cons_zero]; rfl) (by rfl) ?_)
                | (refine seq_calc (by simp only [List.getElem?_toArray, List.getElem?_cons_succ, List.getElem?_cons_zero]; rfl) (by rfl) (fun u => by go_simp <;> with_reducible rfl) ?_)
              try simp only [Act.put, List.setIfInBounds_toArray, List.set_cons_zero, List.set_cons_succ]
              refine seq_calc (by simp only [List.getElem?_toArray, List.getElem?_cons_succ, List.getElem?_cons_zero]; rfl) (by rfl) (fun u => by go_simp <;> with_reducible rfl) ?_
              try simp only [Act.put, List.setIfInBounds_toArray, List.set_cons_zero, List.set_cons_succ]
              refine seq_nil ?_
              go_wp2
              case roundEnd =>
                exact ⟨⟨k + 1, L, G, by omega, by go_num, rfl, by omega, by omega, by omega, by omega, ⟨NW.out.below hB1 NW.out.lt, NM.out.below hB1 NM.out.lt⟩, NR.out.below hB1 NR.out.lt, NB.out.trans (hB1.mono NB.out.size)⟩, by simp [intOf]; omega⟩
      · obtain rfl : k = n := by omega
        go_wp2
        go_ret
        exact ⟨rfl, by first | exact hB | exact hB.trans (by go_grown)⟩
end Go.Proofs.YtaijhfadedbjkaaDoor
