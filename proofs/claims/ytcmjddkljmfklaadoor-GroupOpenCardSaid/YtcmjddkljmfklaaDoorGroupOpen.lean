/- The walk of GroupOpen. Condition: the errors' cells 1 and 5, the table of package bits. -/
import Derived.Test.YtcmjddkljmfklaaDoorGroupMore
import Derived.Test.YtcmjddkljmfklaaDoorGroupAlive
import Derived.Test.YtcmjddkljmfklaaDoorRowsK
import Derived.Test.YtcmjddkljmfklaaDoorU64
import Derived.Deep.DeepCutAuto
import Derived.Deep.CutBlock
namespace Go.Proofs.YtcmjddkljmfklaaDoor
set_option linter.unusedVariables false
set_option linter.unusedSimpArgs false
open Go.RowKit Go.Proofs
attribute [local go_sem] neq_nilG eql_nilG

theorem act5o {w : World} {C : Nat} {T : TypeId} {a b c d e : Value} (h : Blk w C T #[a, b, c, d, e]) :
    w.cell? ⟨C, 0, none⟩ = some a ∧ w.cell? ⟨C, 1, none⟩ = some b ∧ w.cell? ⟨C, 2, none⟩ = some c ∧ w.cell? ⟨C, 3, none⟩ = some d ∧ w.cell? ⟨C, 4, none⟩ = some e := ⟨h.cell 0, h.cell 1, h.cell 2, h.cell 3, h.cell 4⟩
/-- what is there in a round -/
structure GO (w : World) (G M C V : Nat) (m : Nat) (s : Nat → EntS) (mt : MeterS) (cs : Array Value) (b0 : World) : Prop where
  good : GGood m s
  g : GW w G 0 m s
  me : Blk w M 45 mt.cells
  act : Blk w C 77 cs
  view : Blk w V 67 #[.pointer (some ⟨G, 0, none⟩)]
  bel : Below b0.heap.size b0 w
theorem GO.below {w w' b0 : World} {G M C V m : Nat} {s : Nat → EntS} {mt : MeterS} {cs : Array Value} (h : GO w G M C V m s mt cs b0) (hb : Below w.heap.size w w') : GO w' G M C V m s mt cs b0 :=
  ⟨h.good, h.g.below hb h.g.lt, h.me.below hb h.me.lt, h.act.below hb h.act.lt, h.view.below hb h.view.lt, h.bel.trans (hb.mono h.bel.size)⟩
theorem GO.turn {w w' b0 : World} {G M C V m m' : Nat} {s s' : Nat → EntS} {mt : MeterS} {cs : Array Value} (h : GO w G M C V m s mt cs b0) (hG : G ≠ M ∧ G ≠ C ∧ G ≠ V ∧ b0.heap.size ≤ G) (hgood : GGood m' s') (hg : GW w' G 0 m' s') (hc : ChgG G 0 w w') :
    GO w' G M C V m' s' mt cs b0 :=
  ⟨hgood, hg, h.me.chg hc.chg (by omega), h.act.chg hc.chg (by omega), h.view.chg hc.chg (by omega), h.bel.trans (hc.chg.below (n := b0.heap.size) h.bel.size (fun k hk e => by omega))⟩
set_option maxRecDepth 100000 in
set_option maxHeartbeats 16000000 in
theorem groupOpen_any (v : Value) (n0 : Nat) (f : Nat → Nat → Int) (E : Nat → Addr) (w0 : World) (he : EC w0 E [1, 5]) (hT : Tab64 w0) (h1 : RowsK w0 v n0 5 kdA f) :
    Calls Tryd.prog 6 #[v] w0 fun e w' => e = .returned (.bool true) ∧ Below w0.heap.size w0 w' := by
  have m1 := h1.2.2
  have hwf := Lib.hid h1.2.1
  obtain ⟨a, cap, rfl, hx⟩ := h1.cellAt (by decide)
  unfold maxLen at m1
  have HX := Lib.hid hx
  have HT := Lib.hid hT
  have HE5 := Lib.hid he
  clear h1 hx he hT
  have AL := Lib.hid (alive08_any E w0 HE5.out)
  by_cases g1 : 80 < n0
  · have g1' : (80 : Int) < (n0 : Int) := by omega
    go_enter Tryd.func6, Tryd.ntmps6
    go_wp2_with (go_at_call 30; refine AL.out.mono ?_; rintro e w1 ⟨rfl, hb1⟩)
    go_ret
    exact ⟨rfl, hb1⟩
  have g1' : (n0 : Int) ≤ 80 := by omega
  go_enter Tryd.func6, Tryd.ntmps6
  go_wp2_with (first
    | (go_at_call 30; refine AL.out.mono ?_; rintro e w1 ⟨rfl, hb1⟩)
    | (go_at_call 31; refine (gnew_any _).mono ?_; rintro e w2 ⟨rfl, gg2, hb2⟩; have G2 := Lib.hid gg2; clear gg2))
  have hz1 := hb1.size
  have hz2 := hb2.size
  have hl2 := G2.out.lt
  obtain ⟨G, hG⟩ : ∃ G, G = w1.heap.size := ⟨_, rfl⟩
  obtain ⟨M, hM⟩ : ∃ M, M = w2.heap.size := ⟨_, rfl⟩
  have q0 := Lib.hid (show GW (w2.alloc (.cells MeterS.zero.cells 45)) G 0 (rep 128) (fun _ => EntS.zero) by rw [hG]; exact G2.out.alloc _)
  have q2 := Lib.hid (show Blk (w2.alloc (.cells MeterS.zero.cells 45)) M 45 MeterS.zero.cells by rw [hM]; exact Blk.new _ _ _)
  have q3 := Lib.hid (show Below w0.heap.size w0 (w2.alloc (.cells MeterS.zero.cells 45)) from (hb1.trans (hb2.mono hz1)).alloc (by omega) _)
  have hGR : G ≠ M ∧ w0.heap.size ≤ G ∧ w0.heap.size ≤ M := by omega
  rw [← hG, ← hM]
  clear hG hM hl2 hz1 hz2 hb1 hb2 G2
  obtain ⟨hGM, hG0, hM0⟩ := hGR
  go_loopw [28] (fun v28 wr => ∃ (k m : Nat) (s : Nat → EntS) (mt : MeterS), k ≤ n0 ∧ v28 = .int .i64 (k : Int) ∧ GGood m s ∧ GW wr G 0 m s ∧ Blk wr M 45 mt.cells ∧ Below w0.heap.size w0 wr) (fun v28 _ => n0 - (intOf v28).toNat)
  case atStart => exact ⟨0, rep 128, _, MeterS.zero, Nat.zero_le _, rfl, GGood.new, q0.out, q2.out, q3.out⟩
  case round =>
    clear q0 q2 q3
    obtain ⟨k, m, s, mt, hk, rfl, hgood, hg, hme, hB⟩ := hrel
    by_cases hlt : k < n0
    · obtain ⟨b, off, rfl, hbz, hcells⟩ := HX.out (by omega)
      have a0 : wr.cell? ⟨b, off + k * 5, none⟩ = some (.int .i64 (f k 0)) := by simpa [kdA] using hcells wr hB k hlt 0 (by decide)
      have a1 : wr.cell? ⟨b, off + k * 5 + 1, none⟩ = some (.int .i64 (f k 1)) := by simpa [kdA, Nat.add_assoc] using hcells wr hB k hlt 1 (by decide)
      have a2 : wr.cell? ⟨b, off + k * 5 + 2, none⟩ = some (.int .u64 (f k 2)) := by simpa [kdA, Nat.add_assoc] using hcells wr hB k hlt 2 (by decide)
      have a3 : wr.cell? ⟨b, off + k * 5 + 3, none⟩ = some (.int .u64 (f k 3)) := by simpa [kdA, Nat.add_assoc] using hcells wr hB k hlt 3 (by decide)
      have a4 : wr.cell? ⟨b, off + k * 5 + 4, none⟩ = some (.int .u64 (f k 4)) := by simpa [kdA, Nat.add_assoc] using hcells wr hB k hlt 4 (by decide)
      obtain ⟨h, hh2, hh⟩ := u64_of (a := f k 4) (hwf.out k hlt 4 (by decide))
      rw [hh] at a4
      clear hh hcells
      generalize f k 0 = q at a0
      generalize f k 1 = I at a1
      generalize f k 2 = x0 at a2
      generalize f k 3 = x1 at a3
      have hzG := hg.lt
      have hzM := hme.lt
      have hzB := hB.size
      have K0 := Lib.hid hgood
      have K1 := Lib.hid hg
      have K3 := Lib.hid hme
      have K4 := Lib.hid hB
      clear hgood hg hme hB
      go_upto_region 11 with (first
        | (go_at_call 38; refine (probing_any _ _).mono ?_; rintro e wa ⟨rfl, hba⟩; have hza := hba.size; have M1 := Lib.hid ((K3.out.alloc (.cells #[.int .i64 q, .int .i64 I, .int .u64 x0, .int .u64 x1, .int .u64 (h : Int)] 77)).below hba (by simp; omega)))
        | (go_at_call 32; refine (glookM_any _ _ _ _ _ _ _ _ M1.out).mono ?_; rintro e wb ⟨rfl, mb, cb⟩; have M2 := Lib.hid mb; have hzb := cb.size; have hA2 : Blk wb wr.heap.size 77 #[.int .i64 q, .int .i64 I, .int .u64 x0, .int .u64 x1, .int .u64 (h : Int)] := ((Blk.new wr _ _).below hba (by simp)).chg cb (by omega); clear mb))
      refine wp_at (fun w hW => ?_)
      simp only [World.size_alloc] at hza
      obtain ⟨C, hC⟩ : ∃ C, C = wr.heap.size := ⟨_, rfl⟩
      obtain ⟨V, hV⟩ : ∃ V, V = wb.heap.size := ⟨_, rfl⟩
      generalize mt.add 1 0 0 = mt' at M2
      have hbb : Below w0.heap.size w0 wb := (((K4.out.alloc hzB (.cells #[.int .i64 q, .int .i64 I, .int .u64 x0, .int .u64 x1, .int .u64 (h : Int)] 77))).trans (hba.mono (by simp; omega))).trans (cb.below (n := w0.heap.size) (by omega) (fun k hk e => by omega))
      have hA : GO w G M C V m s mt' #[.int .i64 q, .int .i64 I, .int .u64 x0, .int .u64 x1, .int .u64 (h : Int)] w0 := by
        rw [hW, hC, hV]
        exact ⟨K0.out, (((K1.out.alloc _).below hba (by simp; omega)).chg cb (by omega)).alloc _, M2.out.alloc _, hA2.alloc _, Blk.new _ _ _, hbb.alloc hbb.size _⟩
      have hne : G ≠ C ∧ G ≠ V ∧ M ≠ C ∧ M ≠ V ∧ C ≠ V := by omega
      obtain ⟨hGC, hGV, hMC, hMV, hCV⟩ := hne
      rw [← hC, ← hV]
      replace hW := Lib.hid hW
      clear hC hV K0 K1 K3 K4 M1 M2 hba cb hbb hza hzb hA2 hzG hzM hzB a0 a1 a2 a3 a4
      -- what it is at first
      have OP := Lib.hid (fun (w' : World) hg' => gopen_any G 0 m s hA.good.1 w' hg')
      have FU := Lib.hid (fun (w' : World) hg' => gfull_any G 0 m s hA.good.1 w' hg')
      have HA := Lib.hid hA
      have v0 := hA.view.cell 0
      have zV := hA.view.lt
      clear hA
      have hB1 : Below w.heap.size w w.drew := (Below.refl _ _).drew
      obtain ⟨bo, hbo⟩ : ∃ bo, bo = openB m := ⟨_, rfl⟩
      obtain ⟨cn, hcn⟩ : ∃ cn : Nat, cn = (lanesL (fullB m)).length := ⟨_, rfl⟩
      rw [← hbo] at OP
      rw [← hcn] at FU
      have HBO := Lib.hid hbo
      have HCN := Lib.hid hcn
      have hc8 : cn ≤ 8 := by rw [hcn]; exact lanesL_len _
      clear hbo hcn
      refine wp_region_seq (fun _ => False) #[⟨0, 0, 68719476736, 128, 1⟩, ⟨1, 1, 137438953472, 68719476736, 2⟩, ⟨0, 0, 274877906944, 128, 1⟩, ⟨6, 7, 549755813888, 274877906944, 3⟩, ⟨11, 15, 256, 137438953472, 0⟩, ⟨31, 31, 512, 549755813888, 0⟩] 5 [(0, 1), (2, 1), (1, 2), (3, 3), (4, 0), (5, 0)] (by kernel_rfl) (by kernel_rfl) (by kernel_rfl) (by kernel_rfl) (by kernel_rfl) (by kernel_rfl) (fun c a d v w h => by cases d <;> exact h) ?_
      refine seq_loads [_] (by simp only [List.getElem?_toArray, List.getElem?_cons_succ, List.getElem?_cons_zero]; rfl) (by rfl) rfl rfl Tryd.underlying67 rfl (by kernel_rfl) (by first | (with_reducible assumption) | (refine cellsAre_range ?_; simp only [cellsAre]; (repeat' (first | exact True.intro | apply And.intro)); all_goals (go_simp <;> with_reducible rfl))) (by first | exact id | assumption | (simp; done) | (simp; omega)) ?_
      try simp only [Act.put, List.setIfInBounds_toArray, List.set_cons_zero, List.set_cons_succ]
      refine seq_loads [_] (by simp only [List.getElem?_toArray, List.getElem?_cons_succ, List.getElem?_cons_zero]; rfl) (by rfl) rfl rfl Tryd.underlying67 rfl (by kernel_rfl) (by first | (with_reducible assumption) | (refine cellsAre_range ?_; simp only [cellsAre]; (repeat' (first | exact True.intro | apply And.intro)); all_goals (go_simp <;> with_reducible rfl))) (by first | exact id | assumption | (simp; done) | (simp; omega)) ?_
      try simp only [Act.put, List.setIfInBounds_toArray, List.set_cons_zero, List.set_cons_succ]
      refine seq_do (by simp only [List.getElem?_toArray, List.getElem?_cons_succ, List.getElem?_cons_zero]; rfl) (by rfl) (fun K hK => ?_); go_wp2_with (first | (go_at_call 39; refine (OP.out _ (HA.out.below hB1).g).mono ?_; rintro e w1 ⟨rfl, hb1⟩; have hB1 : Below w.heap.size w w1 := (by first | exact hB1.trans (hb1.mono hB1.size) | exact hB1.trans (Below.undrew (hb1.mono hB1.size)) | exact hb1 | exact Below.trans (by go_grown) (hb1.mono (by simp <;> omega))); have hcV := fun (o : Nat) => hb1.cell (p := ⟨V, o, none⟩) (by first | assumption | (simp <;> omega)); have hfV := fun (o : Nat) => hb1.frozen (p := ⟨V, o, none⟩) (by first | assumption | (simp <;> omega)); have hzV : V < w1.heap.size := Nat.lt_of_lt_of_le (by first | assumption | (simp <;> omega)) hb1.size) | (go_at_call 40; refine (FU.out _ (HA.out.below hB1).g).mono ?_; rintro e w1 ⟨rfl, hb1⟩; have hB1 : Below w.heap.size w w1 := (by first | exact hB1.trans (hb1.mono hB1.size) | exact hB1.trans (Below.undrew (hb1.mono hB1.size)) | exact hb1 | exact Below.trans (by go_grown) (hb1.mono (by simp <;> omega))); have hcV := fun (o : Nat) => hb1.cell (p := ⟨V, o, none⟩) (by first | assumption | (simp <;> omega)); have hfV := fun (o : Nat) => hb1.frozen (p := ⟨V, o, none⟩) (by first | assumption | (simp <;> omega)); have hzV : V < w1.heap.size := Nat.lt_of_lt_of_le (by first | assumption | (simp <;> omega)) hb1.size)); refine hK.out _ _ (by first | (with_reducible exact Chg.refl _ _) | (with_reducible assumption) | (refine Chg.of_below ?_; with_reducible assumption) | (with_reducible exact (Chg.refl _ _).alloc _) | (with_reducible exact (Chg.refl _ _).drewN _) | (with_reducible exact (Chg.refl _ _).drew) | exact ⟨rfl, rfl, rfl, Nat.le_refl _, fun _ _ _ => rfl⟩) ?_; clear hK K
      try simp only [Act.put, List.setIfInBounds_toArray, List.set_cons_zero, List.set_cons_succ]
      refine seq_last (by simp only [List.getElem?_toArray, List.getElem?_cons_succ, List.getElem?_cons_zero]; rfl) (by rfl) (fun K hK => ?_); go_wp2_with (first | (go_at_call 39; refine (OP.out _ (HA.out.below hB1).g).mono ?_; rintro e w1 ⟨rfl, hb1⟩; have hB1 : Below w.heap.size w w1 := (by first | exact hB1.trans (hb1.mono hB1.size) | exact hB1.trans (Below.undrew (hb1.mono hB1.size)) | exact hb1 | exact Below.trans (by go_grown) (hb1.mono (by simp <;> omega))); have hcV := fun (o : Nat) => hb1.cell (p := ⟨V, o, none⟩) (by first | assumption | (simp <;> omega)); have hfV := fun (o : Nat) => hb1.frozen (p := ⟨V, o, none⟩) (by first | assumption | (simp <;> omega)); have hzV : V < w1.heap.size := Nat.lt_of_lt_of_le (by first | assumption | (simp <;> omega)) hb1.size) | (go_at_call 40; refine (FU.out _ (HA.out.below hB1).g).mono ?_; rintro e w1 ⟨rfl, hb1⟩; have hB1 : Below w.heap.size w w1 := (by first | exact hB1.trans (hb1.mono hB1.size) | exact hB1.trans (Below.undrew (hb1.mono hB1.size)) | exact hb1 | exact Below.trans (by go_grown) (hb1.mono (by simp <;> omega))); have hcV := fun (o : Nat) => hb1.cell (p := ⟨V, o, none⟩) (by first | assumption | (simp <;> omega)); have hfV := fun (o : Nat) => hb1.frozen (p := ⟨V, o, none⟩) (by first | assumption | (simp <;> omega)); have hzV : V < w1.heap.size := Nat.lt_of_lt_of_le (by first | assumption | (simp <;> omega)) hb1.size)); refine hK.out _ _ ?_; clear hK K
      try simp only [Act.put, List.setIfInBounds_toArray, List.set_cons_zero, List.set_cons_succ]
      refine seq_calc (by simp only [List.getElem?_toArray, List.getElem?_cons_succ, List.getElem?_cons_zero]; rfl) (by rfl) (fun u => by go_simp <;> with_reducible rfl) ?_
      try simp only [Act.put, List.setIfInBounds_toArray, List.set_cons_zero, List.set_cons_succ]
      refine seq_calc (by simp only [List.getElem?_toArray, List.getElem?_cons_succ, List.getElem?_cons_zero]; rfl) (by rfl) (fun u => by go_simp <;> with_reducible rfl) ?_
      try simp only [Act.put, List.setIfInBounds_toArray, List.set_cons_zero, List.set_cons_succ]
      refine seq_nil ?_
      have hA := HA.out.below hB1
      clear HA hB1 v0 zV OP FU hcV hfV hzV
      have c0 := hA.act.cell 0
      go_upto_block 2 with (fail)
      go_cut [] (fun wx => ∃ (m : Nat) (s : Nat → EntS), GO wx G M C V m s mt' #[.int .i64 q, .int .i64 I, .int .u64 x0, .int .u64 x1, .int .u64 (h : Int)] w0 ∧ (bo = false → openB m = false))
      case first =>
        clear c0
        by_cases q0 : q = 0
        · subst q0
          have HA := Lib.hid hA
          obtain ⟨c0, c1, c2, c3, c4⟩ := act5o hA.act
          have v0 := hA.view.cell 0
          have zA := hA.act.lt
          have zV := hA.view.lt
          have hgm := hA.good.1
          have HGD := Lib.hid hA.good
          clear hA
          have FI := Lib.hid (fun (w' : World) hg' hT' => gfind_any G 0 m h s x0 hgm hh2 w' hg' hT')
          have HPF := Lib.hid (fun (j : Nat) (hj : j < 8) (hf : fullE m (j : Int) false = 0) => put_find (v := x1) (key := x0) (s := s) (h := h) hj hf)
          obtain ⟨zf, hzf⟩ : ∃ zf, zf = findZ s x0 (lanesL (equalB m (h % 128))) := ⟨_, rfl⟩
          rw [← hzf] at FI HPF
          clear hzf
          by_cases hz : 0 ≤ zf
          · have e1 : decide (zf ≥ 0) = true := by simpa using hz
            have e1' : decide (0 ≤ zf) = true := by simpa using hz
            clear hz
            go_wp2_with (go_at_call 41; refine (FI.out _ HA.out.g (HT.out.below HA.out.bel)).mono ?_; rintro e w1 ⟨rfl, hb1⟩; have HN := Lib.hid (HA.out.below hb1))
            go_roundw
            case rel => exact ⟨k + 1, _, _, _, by omega, by go_num, HN.out.good, HN.out.g, HN.out.me, HN.out.bel⟩
            case measure => simp [intOf]; omega
          have e1 : decide (zf ≥ 0) = false := by simp; omega
          by_cases hf : fullE m I false = 0
          · obtain ⟨j, rfl, hj, -⟩ := fullE_zero hf
            have PU := Lib.hid (fun (w' : World) hg' he' => gput_ok G 0 m j h s x0 x1 hgm hh2 hj hf E w' hg' he')
            have GG := HGD.out.put j h x0 x1 hh2
            have F2 := Lib.hid (fun (w' : World) hg' hT' => gfind_any G 0 (setL m j (h % 128)) h (putS s j ⟨x0, x1, h⟩) x0 GG.1 hh2 w' hg' hT')
            rw [HPF.out j hj hf (by omega)] at F2
            have FU := Lib.hid (fun (w' : World) hg' => gfull_any G 0 (setL m j (h % 128)) (putS s j ⟨x0, x1, h⟩) GG.1 w' hg')
            rw [put_count (h % 128) hj (Nat.mod_lt _ (by decide)) hf, ← HCN.out] at FU
            have hoP := Lib.hid (fun hb : bo = false => open_put (k := j) (h % 128) (Nat.mod_lt _ (by decide)) (HBO.out.symm.trans hb))
            generalize (ln m j == 254) = pb at PU
            have HGG := Lib.hid GG
            clear GG
            generalize setL m j (h % 128) = m' at *
            generalize putS s j ⟨x0, x1, (h : Int)⟩ = s' at *
            have s1 : ((j : Int) != (j : Int)) = false := by simp
            have s3 : (((cn + 1 : Nat) : Int) != (cn : Int) + 1) = false := by simp
            have s4 : ((cn : Int) + 1 != (cn : Int) + 1) = false := by simp
            have s5 : IntKind.i64.wrap ((cn : Int) + 1) = (cn : Int) + 1 := by rw [IntKind.wrap_i64]; omega
            clear hf hz
            go_upto_region 16 with (first
              | (go_at_call 41; refine (FI.out _ HA.out.g (HT.out.below HA.out.bel)).mono ?_; rintro e w1 ⟨rfl, hb1⟩; have A1 := Lib.hid (HA.out.below hb1); skip; have hcC := fun (o : Nat) => hb1.cell (p := ⟨C, o, none⟩) (by first | assumption | (simp <;> omega)); have hfC := fun (o : Nat) => hb1.frozen (p := ⟨C, o, none⟩) (by first | assumption | (simp <;> omega)); have hzC : C < w1.heap.size := Nat.lt_of_lt_of_le (by first | assumption | (simp <;> omega)) hb1.size; have hcV := fun (o : Nat) => hb1.cell (p := ⟨V, o, none⟩) (by first | assumption | (simp <;> omega)); have hfV := fun (o : Nat) => hb1.frozen (p := ⟨V, o, none⟩) (by first | assumption | (simp <;> omega)); have hzV : V < w1.heap.size := Nat.lt_of_lt_of_le (by first | assumption | (simp <;> omega)) hb1.size)
              | (go_at_call 33; refine (PU.out _ A1.out.g (HE5.out.below A1.out.bel)).mono ?_; rintro e w2 ⟨rfl, g2, cg2⟩; have A2 := Lib.hid (A1.out.turn ⟨hGM, hGC, hGV, hG0⟩ HGG.out g2 cg2); clear g2 cg2))
            obtain ⟨d0, d1, d2, d3, d4⟩ := act5o A2.out.act
            have v02 := A2.out.view.cell 0
            have zC2 := A2.out.act.lt
            have zV2 := A2.out.view.lt
            have hB1 : Below w2.heap.size w2 w2.drew := (Below.refl _ _).drew
            refine wp_region_seq (fun _ => False) #[⟨0, 0, 4611686018427387904, 2048, 0⟩, ⟨1, 1, 9223372036854775808, 4611686018427387904, 0⟩, ⟨2, 3, 18446744073709551616, 9223372036854775808, 0⟩, ⟨4, 7, 36893488147419103232, 18446744073709551744, 1⟩, ⟨4, 7, 73786976294838206464, 18446744073709551680, 0⟩, ⟨20, 23, 147573952589676412928, 92233720368547758080, 0⟩, ⟨36, 55, 295147905179352825856, 166020696663385964544, 1⟩, ⟨4, 7, 590295810358705651712, 18446744073709551680, 0⟩, ⟨132, 135, 1180591620717411303424, 608742554432415203328, 0⟩, ⟨260, 391, 2361183241434822606848, 1199038364791120855040, 1⟩, ⟨588, 1023, 4722366482869645213696, 2711671378835304087552, 2⟩, ⟨4, 7, 9444732965739290427392, 18446744073709551680, 0⟩, ⟨2052, 2055, 18889465931478580854784, 9463179709812999979008, 1⟩, ⟨5124, 8191, 37778931862957161709568, 23630279158421935620096, 0⟩, ⟨9220, 16383, 75557863725914323419136, 37797378607030871261184, 0⟩, ⟨16384, 32767, 151115727451828646838272, 75557863725914323419264, 1⟩, ⟨49152, 65535, 302231454903657293676544, 226673591177742970257408, 3⟩, ⟨16384, 32767, 604462909807314587353088, 75557863725914323419648, 0⟩, ⟨147456, 163839, 1208925819614629174706176, 680020773533228910772224, 0⟩, ⟨344064, 524287, 2417851639229258349412352, 1586715138244200791801856, 0⟩, ⟨540676, 1048575, 4835703278458516698824704, 2493427949699246382383104, 0⟩, ⟨1048580, 2097151, 9671406556917033397649408, 4835721725202590408376320, 0⟩] 37448 [(0, 0), (1, 0), (2, 0), (3, 1), (4, 0), (5, 0), (6, 1), (7, 0), (8, 0), (9, 1), (11, 0), (12, 1), (10, 2), (13, 0), (14, 0), (15, 1), (17, 0), (18, 0), (16, 3), (19, 0), (20, 0), (21, 0)] (by kernel_rfl) (by kernel_rfl) (by kernel_rfl) (by kernel_rfl) (by kernel_rfl) (by kernel_rfl) (fun c a d v w h => by cases d <;> exact h) ?_
            refine seq_calc (by simp only [List.getElem?_toArray, List.getElem?_cons_succ, List.getElem?_cons_zero]; rfl) (by rfl) (fun u => by go_simp <;> with_reducible rfl) ?_
            try simp only [Act.put, List.setIfInBounds_toArray, List.set_cons_zero, List.set_cons_succ]
            refine seq_calc (by simp only [List.getElem?_toArray, List.getElem?_cons_succ, List.getElem?_cons_zero]; rfl) (by rfl) (fun u => by go_simp <;> with_reducible rfl) ?_
            try simp only [Act.put, List.setIfInBounds_toArray, List.set_cons_zero, List.set_cons_succ]
            refine seq_calc (by simp only [List.getElem?_toArray, List.getElem?_cons_succ, List.getElem?_cons_zero]; rfl) (by rfl) (fun u => by go_simp <;> with_reducible rfl) ?_
            try simp only [Act.put, List.setIfInBounds_toArray, List.set_cons_zero, List.set_cons_succ]
            first
              | (refine seq_skip (by simp only [List.getElem?_toArray, List.getElem?_cons_succ, List.getElem?_cons_zero]; rfl) (by rfl) ?_)
              | (refine seq_loads [_] (by simp only [List.getElem?_toArray, List.getElem?_cons_succ, List.getElem?_cons_zero]; rfl) (by rfl) rfl rfl Tryd.underlying67 rfl (by kernel_rfl) (by first | (with_reducible assumption) | (refine cellsAre_range ?_; simp only [cellsAre]; (repeat' (first | exact True.intro | apply And.intro)); all_goals (go_simp <;> with_reducible rfl))) (by first | exact id | assumption | (simp; done) | (simp; omega)) ?_)
            try simp only [Act.put, List.setIfInBounds_toArray, List.set_cons_zero, List.set_cons_succ]
            first
              | (refine seq_skip (by simp only [List.getElem?_toArray, List.getElem?_cons_succ, List.getElem?_cons_zero]; rfl) (by rfl) ?_)
              | (refine seq_calc (by simp only [List.getElem?_toArray, List.getElem?_cons_succ, List.getElem?_cons_zero]; rfl) (by rfl) (fun u => by go_simp <;> with_reducible rfl) ?_)
            try simp only [Act.put, List.setIfInBounds_toArray, List.set_cons_zero, List.set_cons_succ]
            first
              | (refine seq_skip (by simp only [List.getElem?_toArray, List.getElem?_cons_succ, List.getElem?_cons_zero]; rfl) (by rfl) ?_)
              | (refine seq_calc (by simp only [List.getElem?_toArray, List.getElem?_cons_succ, List.getElem?_cons_zero]; rfl) (by rfl) (fun u => by go_simp <;> with_reducible rfl) ?_)
            try simp only [Act.put, List.setIfInBounds_toArray, List.set_cons_zero, List.set_cons_succ]
            first
              | (refine seq_skip (by simp only [List.getElem?_toArray, List.getElem?_cons_succ, List.getElem?_cons_zero]; rfl) (by rfl) ?_)
              | (refine seq_load1 (by simp only [List.getElem?_toArray, List.getElem?_cons_succ, List.getElem?_cons_zero]; rfl) (by rfl) rfl rfl Tryd.underlying22 rfl (by go_simp <;> with_reducible rfl) (by first | exact id | assumption | (simp; done) | (simp; omega)) ?_)
            try simp only [Act.put, List.setIfInBounds_toArray, List.set_cons_zero, List.set_cons_succ]
            first
              | (refine seq_skip (by simp only [List.getElem?_toArray, List.getElem?_cons_succ, List.getElem?_cons_zero]; rfl) (by rfl) ?_)
              | (refine seq_calc (by simp only [List.getElem?_toArray, List.getElem?_cons_succ, List.getElem?_cons_zero]; rfl) (by rfl) (fun u => by go_simp <;> with_reducible rfl) ?_)
            try simp only [Act.put, List.setIfInBounds_toArray, List.set_cons_zero, List.set_cons_succ]
            first
              | (refine seq_skip (by simp only [List.getElem?_toArray, List.getElem?_cons_succ, List.getElem?_cons_zero]; rfl) (by rfl) ?_)
              | (refine seq_calc (by simp only [List.getElem?_toArray, List.getElem?_cons_succ, List.getElem?_cons_zero]; rfl) (by rfl) (fun u => by go_simp <;> with_reducible rfl) ?_)
            try simp only [Act.put, List.setIfInBounds_toArray, List.set_cons_zero, List.set_cons_succ]
            first
              | (refine seq_skip (by simp only [List.getElem?_toArray, List.getElem?_cons_succ, List.getElem?_cons_zero]; rfl) (by rfl) ?_)
              | (refine seq_load1 (by simp only [List.getElem?_toArray, List.getElem?_cons_succ, List.getElem?_cons_zero]; rfl) (by rfl) rfl rfl Tryd.underlying22 rfl (by go_simp <;> with_reducible rfl) (by first | exact id | assumption | (simp; done) | (simp; omega)) ?_)
            try simp only [Act.put, List.setIfInBounds_toArray, List.set_cons_zero, List.set_cons_succ]
            first
              | (refine seq_skip (by simp only [List.getElem?_toArray, List.getElem?_cons_succ, List.getElem?_cons_zero]; rfl) (by rfl) ?_)
              | (refine seq_calc (by simp only [List.getElem?_toArray, List.getElem?_cons_succ, List.getElem?_cons_zero]; rfl) (by rfl) (fun u => by go_simp <;> with_reducible rfl) ?_)
            try simp only [Act.put, List.setIfInBounds_toArray, List.set_cons_zero, List.set_cons_succ]
            first
              | (refine seq_skip (by simp only [List.getElem?_toArray, List.getElem?_cons_succ, List.getElem?_cons_zero]; rfl) (by rfl) ?_)
              | (refine seq_load1 (by simp only [List.getElem?_toArray, List.getElem?_cons_succ, List.getElem?_cons_zero]; rfl) (by rfl) rfl rfl Tryd.underlying3 rfl (by go_simp <;> with_reducible rfl) (by first | exact id | assumption | (simp; done) | (simp; omega)) ?_)
            try simp only [Act.put, List.setIfInBounds_toArray, List.set_cons_zero, List.set_cons_succ]
            first
              | (refine seq_skip (by simp only [List.getElem?_toArray, List.getElem?_cons_succ, List.getElem?_cons_zero]; rfl) (by rfl) ?_)
              | (refine seq_do (by simp only [List.getElem?_toArray, List.getElem?_cons_succ, List.getElem?_cons_zero]; rfl) (by rfl) (fun K hK => ?_); go_wp2_with (first | (go_at_call 41; refine (F2.out _ (A2.out.below hB1).g (HT.out.below (A2.out.below hB1).bel)).mono ?_; rintro e w3 ⟨rfl, hb3⟩; have hB1 : Below w2.heap.size w2 w3 := (by first | exact hB1.trans (hb3.mono hB1.size) | exact hB1.trans (Below.undrew (hb3.mono hB1.size)) | exact hb3 | exact Below.trans (by go_grown) (hb3.mono (by simp <;> omega))); have hcV := fun (o : Nat) => hb3.cell (p := ⟨V, o, none⟩) (by first | assumption | (simp <;> omega)); have hfV := fun (o : Nat) => hb3.frozen (p := ⟨V, o, none⟩) (by first | assumption | (simp <;> omega)); have hzV : V < w3.heap.size := Nat.lt_of_lt_of_le (by first | assumption | (simp <;> omega)) hb3.size; have hcC := fun (o : Nat) => hb3.cell (p := ⟨C, o, none⟩) (by first | assumption | (simp <;> omega)); have hfC := fun (o : Nat) => hb3.frozen (p := ⟨C, o, none⟩) (by first | assumption | (simp <;> omega)); have hzC : C < w3.heap.size := Nat.lt_of_lt_of_le (by first | assumption | (simp <;> omega)) hb3.size) | (go_at_call 40; refine (FU.out _ (A2.out.below hB1).g).mono ?_; rintro e w3 ⟨rfl, hb3⟩; have hB1 : Below w2.heap.size w2 w3 := (by first | exact hB1.trans (hb3.mono hB1.size) | exact hB1.trans (Below.undrew (hb3.mono hB1.size)) | exact hb3 | exact Below.trans (by go_grown) (hb3.mono (by simp <;> omega))); have hcV := fun (o : Nat) => hb3.cell (p := ⟨V, o, none⟩) (by first | assumption | (simp <;> omega)); have hfV := fun (o : Nat) => hb3.frozen (p := ⟨V, o, none⟩) (by first | assumption | (simp <;> omega)); have hzV : V < w3.heap.size := Nat.lt_of_lt_of_le (by first | assumption | (simp <;> omega)) hb3.size)); refine hK.out _ _ (by first | (with_reducible exact Chg.refl _ _) | (with_reducible assumption) | (refine Chg.of_below ?_; with_reducible assumption) | (with_reducible exact (Chg.refl _ _).alloc _) | (with_reducible exact (Chg.refl _ _).drewN _) | (with_reducible exact (Chg.refl _ _).drew) | exact ⟨rfl, rfl, rfl, Nat.le_refl _, fun _ _ _ => rfl⟩) ?_; clear hK K)
            try simp only [Act.put, List.setIfInBounds_toArray, List.set_cons_zero, List.set_cons_succ]
            first
              | (refine seq_skip (by simp only [List.getElem?_toArray, List.getElem?_cons_succ, List.getElem?_cons_zero]; rfl) (by rfl) ?_)
              | (refine seq_calc (by simp only [List.getElem?_toArray, List.getElem?_cons_succ, List.getElem?_cons_zero]; rfl) (by rfl) (fun u => by go_simp <;> with_reducible rfl) ?_)
            try simp only [Act.put, List.setIfInBounds_toArray, List.set_cons_zero, List.set_cons_succ]
            first
              | (refine seq_skip (by simp only [List.getElem?_toArray, List.getElem?_cons_succ, List.getElem?_cons_zero]; rfl) (by rfl) ?_)
              | (refine seq_calc (by simp only [List.getElem?_toArray, List.getElem?_cons_succ, List.getElem?_cons_zero]; rfl) (by rfl) (fun u => by go_simp <;> with_reducible rfl) ?_)
            try simp only [Act.put, List.setIfInBounds_toArray, List.set_cons_zero, List.set_cons_succ]
            first
              | (refine seq_skip (by simp only [List.getElem?_toArray, List.getElem?_cons_succ, List.getElem?_cons_zero]; rfl) (by rfl) ?_)
              | (refine seq_loads [_] (by simp only [List.getElem?_toArray, List.getElem?_cons_succ, List.getElem?_cons_zero]; rfl) (by rfl) rfl rfl Tryd.underlying67 rfl (by kernel_rfl) (by first | (with_reducible assumption) | (refine cellsAre_range ?_; simp only [cellsAre]; (repeat' (first | exact True.intro | apply And.intro)); all_goals (go_simp <;> with_reducible rfl))) (by first | exact id | assumption | (simp; done) | (simp; omega)) ?_)
            try simp only [Act.put, List.setIfInBounds_toArray, List.set_cons_zero, List.set_cons_succ]
            first
              | (refine seq_skip (by simp only [List.getElem?_toArray, List.getElem?_cons_succ, List.getElem?_cons_zero]; rfl) (by rfl) ?_)
              | (refine seq_calc (by simp only [List.getElem?_toArray, List.getElem?_cons_succ, List.getElem?_cons_zero]; rfl) (by rfl) (fun u => by go_simp <;> with_reducible rfl) ?_)
            try simp only [Act.put, List.setIfInBounds_toArray, List.set_cons_zero, List.set_cons_succ]
            first
              | (refine seq_skip (by simp only [List.getElem?_toArray, List.getElem?_cons_succ, List.getElem?_cons_zero]; rfl) (by rfl) ?_)
              | (refine seq_calc (by simp only [List.getElem?_toArray, List.getElem?_cons_succ, List.getElem?_cons_zero]; rfl) (by rfl) (fun u => by go_simp <;> with_reducible rfl) ?_)
            try simp only [Act.put, List.setIfInBounds_toArray, List.set_cons_zero, List.set_cons_succ]
            first
              | (refine seq_skip (by simp only [List.getElem?_toArray, List.getElem?_cons_succ, List.getElem?_cons_zero]; rfl) (by rfl) ?_)
              | (refine seq_last (by simp only [List.getElem?_toArray, List.getElem?_cons_succ, List.getElem?_cons_zero]; rfl) (by rfl) (fun K hK => ?_); go_wp2_with (first | (go_at_call 41; refine (F2.out _ (A2.out.below hB1).g (HT.out.below (A2.out.below hB1).bel)).mono ?_; rintro e w3 ⟨rfl, hb3⟩; have hB1 : Below w2.heap.size w2 w3 := (by first | exact hB1.trans (hb3.mono hB1.size) | exact hB1.trans (Below.undrew (hb3.mono hB1.size)) | exact hb3 | exact Below.trans (by go_grown) (hb3.mono (by simp <;> omega))); have hcV := fun (o : Nat) => hb3.cell (p := ⟨V, o, none⟩) (by first | assumption | (simp <;> omega)); have hfV := fun (o : Nat) => hb3.frozen (p := ⟨V, o, none⟩) (by first | assumption | (simp <;> omega)); have hzV : V < w3.heap.size := Nat.lt_of_lt_of_le (by first | assumption | (simp <;> omega)) hb3.size; have hcC := fun (o : Nat) => hb3.cell (p := ⟨C, o, none⟩) (by first | assumption | (simp <;> omega)); have hfC := fun (o : Nat) => hb3.frozen (p := ⟨C, o, none⟩) (by first | assumption | (simp <;> omega)); have hzC : C < w3.heap.size := Nat.lt_of_lt_of_le (by first | assumption | (simp <;> omega)) hb3.size) | (go_at_call 40; refine (FU.out _ (A2.out.below hB1).g).mono ?_; rintro e w3 ⟨rfl, hb3⟩; have hB1 : Below w2.heap.size w2 w3 := (by first | exact hB1.trans (hb3.mono hB1.size) | exact hB1.trans (Below.undrew (hb3.mono hB1.size)) | exact hb3 | exact Below.trans (by go_grown) (hb3.mono (by simp <;> omega))); have hcV := fun (o : Nat) => hb3.cell (p := ⟨V, o, none⟩) (by first | assumption | (simp <;> omega)); have hfV := fun (o : Nat) => hb3.frozen (p := ⟨V, o, none⟩) (by first | assumption | (simp <;> omega)); have hzV : V < w3.heap.size := Nat.lt_of_lt_of_le (by first | assumption | (simp <;> omega)) hb3.size)); refine hK.out _ _ ?_; clear hK K)
            try simp only [Act.put, List.setIfInBounds_toArray, List.set_cons_zero, List.set_cons_succ]
            first
              | (refine seq_skip (by simp only [List.getElem?_toArray, List.getElem?_cons_succ, List.getElem?_cons_zero]; rfl) (by rfl) ?_)
              | (refine seq_calc (by simp only [List.getElem?_toArray, List.getElem?_cons_succ, List.getElem?_cons_zero]; rfl) (by rfl) (fun u => by go_simp <;> with_reducible rfl) ?_)
            try simp only [Act.put, List.setIfInBounds_toArray, List.set_cons_zero, List.set_cons_succ]
            first
              | (refine seq_skip (by simp only [List.getElem?_toArray, List.getElem?_cons_succ, List.getElem?_cons_zero]; rfl) (by rfl) ?_)
              | (refine seq_calc (by simp only [List.getElem?_toArray, List.getElem?_cons_succ, List.getElem?_cons_zero]; rfl) (by rfl) (fun u => by go_simp <;> with_reducible rfl) ?_)
            try simp only [Act.put, List.setIfInBounds_toArray, List.set_cons_zero, List.set_cons_succ]
            refine seq_calc (by simp only [List.getElem?_toArray, List.getElem?_cons_succ, List.getElem?_cons_zero]; rfl) (by rfl) (fun u => by go_simp <;> with_reducible rfl) ?_
            try simp only [Act.put, List.setIfInBounds_toArray, List.set_cons_zero, List.set_cons_succ]
            refine seq_nil ?_
            go_wp2
            go_meet
            exact ⟨m', s', A2.out.below hB1, hoP.out⟩
          · have PU := Lib.hid (fun (w' : World) hg' he' => gput_bad G 0 m I s x0 x1 h hgm hf E w' hg' he')
            simp only [errN_iface E _ hf] at PU
            generalize fullE m I false = er at PU
            have hoP := Lib.hid (fun hb : bo = false => HBO.out.symm.trans hb)
            clear hf hz
            go_upto_region 16 with (first
              | (go_at_call 41; refine (FI.out _ HA.out.g (HT.out.below HA.out.bel)).mono ?_; rintro e w1 ⟨rfl, hb1⟩; have A1 := Lib.hid (HA.out.below hb1); skip; have hcC := fun (o : Nat) => hb1.cell (p := ⟨C, o, none⟩) (by first | assumption | (simp <;> omega)); have hfC := fun (o : Nat) => hb1.frozen (p := ⟨C, o, none⟩) (by first | assumption | (simp <;> omega)); have hzC : C < w1.heap.size := Nat.lt_of_lt_of_le (by first | assumption | (simp <;> omega)) hb1.size; have hcV := fun (o : Nat) => hb1.cell (p := ⟨V, o, none⟩) (by first | assumption | (simp <;> omega)); have hfV := fun (o : Nat) => hb1.frozen (p := ⟨V, o, none⟩) (by first | assumption | (simp <;> omega)); have hzV : V < w1.heap.size := Nat.lt_of_lt_of_le (by first | assumption | (simp <;> omega)) hb1.size)
              | (go_at_call 33; refine (PU.out _ A1.out.g (HE5.out.below A1.out.bel)).mono ?_; rintro e w2 ⟨rfl, hb2⟩; have A2 := Lib.hid (A1.out.below hb2)))
            refine wp_region_seq (fun _ => False) #[⟨0, 0, 4611686018427387904, 2048, 0⟩, ⟨1, 1, 9223372036854775808, 4611686018427387904, 0⟩, ⟨2, 3, 18446744073709551616, 9223372036854775808, 0⟩, ⟨4, 7, 36893488147419103232, 18446744073709551744, 1⟩, ⟨4, 7, 73786976294838206464, 18446744073709551680, 0⟩, ⟨20, 23, 147573952589676412928, 92233720368547758080, 0⟩, ⟨36, 55, 295147905179352825856, 166020696663385964544, 1⟩, ⟨4, 7, 590295810358705651712, 18446744073709551680, 0⟩, ⟨132, 135, 1180591620717411303424, 608742554432415203328, 0⟩, ⟨260, 391, 2361183241434822606848, 1199038364791120855040, 1⟩, ⟨588, 1023, 4722366482869645213696, 2711671378835304087552, 2⟩, ⟨4, 7, 9444732965739290427392, 18446744073709551680, 0⟩, ⟨2052, 2055, 18889465931478580854784, 9463179709812999979008, 1⟩, ⟨5124, 8191, 37778931862957161709568, 23630279158421935620096, 0⟩, ⟨9220, 16383, 75557863725914323419136, 37797378607030871261184, 0⟩, ⟨16384, 32767, 151115727451828646838272, 75557863725914323419264, 1⟩, ⟨49152, 65535, 302231454903657293676544, 226673591177742970257408, 3⟩, ⟨16384, 32767, 604462909807314587353088, 75557863725914323419648, 0⟩, ⟨147456, 163839, 1208925819614629174706176, 680020773533228910772224, 0⟩, ⟨344064, 524287, 2417851639229258349412352, 1586715138244200791801856, 0⟩, ⟨540676, 1048575, 4835703278458516698824704, 2493427949699246382383104, 0⟩, ⟨1048580, 2097151, 9671406556917033397649408, 4835721725202590408376320, 0⟩] 37448 [(0, 0), (1, 0), (2, 0), (3, 1), (4, 0), (5, 0), (6, 1), (7, 0), (8, 0), (9, 1), (11, 0), (12, 1), (10, 2), (13, 0), (14, 0), (15, 1), (17, 0), (18, 0), (16, 3), (19, 0), (20, 0), (21, 0)] (by kernel_rfl) (by kernel_rfl) (by kernel_rfl) (by kernel_rfl) (by kernel_rfl) (by kernel_rfl) (fun c a d v w h => by cases d <;> exact h) ?_
            refine seq_calc (by simp only [List.getElem?_toArray, List.getElem?_cons_succ, List.getElem?_cons_zero]; rfl) (by rfl) (fun u => by go_simp <;> with_reducible rfl) ?_
            try simp only [Act.put, List.setIfInBounds_toArray, List.set_cons_zero, List.set_cons_succ]
            refine seq_calc (by simp only [List.getElem?_toArray, List.getElem?_cons_succ, List.getElem?_cons_zero]; rfl) (by rfl) (fun u => by go_simp <;> with_reducible rfl) ?_
            try simp only [Act.put, List.setIfInBounds_toArray, List.set_cons_zero, List.set_cons_succ]
            refine seq_calc (by simp only [List.getElem?_toArray, List.getElem?_cons_succ, List.getElem?_cons_zero]; rfl) (by rfl) (fun u => by go_simp <;> with_reducible rfl) ?_
            try simp only [Act.put, List.setIfInBounds_toArray, List.set_cons_zero, List.set_cons_succ]
            first
              | (refine seq_skip (by simp only [List.getElem?_toArray, List.getElem?_cons_succ, List.getElem?_cons_zero]; rfl) (by rfl) ?_)
              | (refine seq_loads [_] (by simp only [List.getElem?_toArray, List.getElem?_cons_succ, List.getElem?_cons_zero]; rfl) (by rfl) rfl rfl Tryd.underlying67 rfl (by kernel_rfl) (by first | (with_reducible assumption) | (refine cellsAre_range ?_; simp only [cellsAre]; (repeat' (first | exact True.intro | apply And.intro)); all_goals (go_simp <;> with_reducible rfl))) (by first | exact id | assumption | (simp; done) | (simp; omega)) ?_)
            try simp only [Act.put, List.setIfInBounds_toArray, List.set_cons_zero, List.set_cons_succ]
            first
              | (refine seq_skip (by simp only [List.getElem?_toArray, List.getElem?_cons_succ, List.getElem?_cons_zero]; rfl) (by rfl) ?_)
              | (refine seq_calc (by simp only [List.getElem?_toArray, List.getElem?_cons_succ, List.getElem?_cons_zero]; rfl) (by rfl) (fun u => by go_simp <;> with_reducible rfl) ?_)
            try simp only [Act.put, List.setIfInBounds_toArray, List.set_cons_zero, List.set_cons_succ]
            first
              | (refine seq_skip (by simp only [List.getElem?_toArray, List.getElem?_cons_succ, List.getElem?_cons_zero]; rfl) (by rfl) ?_)
              | (refine seq_calc (by simp only [List.getElem?_toArray, List.getElem?_cons_succ, List.getElem?_cons_zero]; rfl) (by rfl) (fun u => by go_simp <;> with_reducible rfl) ?_)
            try simp only [Act.put, List.setIfInBounds_toArray, List.set_cons_zero, List.set_cons_succ]
            first
              | (refine seq_skip (by simp only [List.getElem?_toArray, List.getElem?_cons_succ, List.getElem?_cons_zero]; rfl) (by rfl) ?_)
              | (refine seq_load1 (by simp only [List.getElem?_toArray, List.getElem?_cons_succ, List.getElem?_cons_zero]; rfl) (by rfl) rfl rfl Tryd.underlying22 rfl (by go_simp <;> with_reducible rfl) (by first | exact id | assumption | (simp; done) | (simp; omega)) ?_)
            try simp only [Act.put, List.setIfInBounds_toArray, List.set_cons_zero, List.set_cons_succ]
            first
              | (refine seq_skip (by simp only [List.getElem?_toArray, List.getElem?_cons_succ, List.getElem?_cons_zero]; rfl) (by rfl) ?_)
              | (refine seq_calc (by simp only [List.getElem?_toArray, List.getElem?_cons_succ, List.getElem?_cons_zero]; rfl) (by rfl) (fun u => by go_simp <;> with_reducible rfl) ?_)
            try simp only [Act.put, List.setIfInBounds_toArray, List.set_cons_zero, List.set_cons_succ]
            first
              | (refine seq_skip (by simp only [List.getElem?_toArray, List.getElem?_cons_succ, List.getElem?_cons_zero]; rfl) (by rfl) ?_)
              | (refine seq_calc (by simp only [List.getElem?_toArray, List.getElem?_cons_succ, List.getElem?_cons_zero]; rfl) (by rfl) (fun u => by go_simp <;> with_reducible rfl) ?_)
            try simp only [Act.put, List.setIfInBounds_toArray, List.set_cons_zero, List.set_cons_succ]
            first
              | (refine seq_skip (by simp only [List.getElem?_toArray, List.getElem?_cons_succ, List.getElem?_cons_zero]; rfl) (by rfl) ?_)
              | (refine seq_load1 (by simp only [List.getElem?_toArray, List.getElem?_cons_succ, List.getElem?_cons_zero]; rfl) (by rfl) rfl rfl Tryd.underlying22 rfl (by go_simp <;> with_reducible rfl) (by first | exact id | assumption | (simp; done) | (simp; omega)) ?_)
            try simp only [Act.put, List.setIfInBounds_toArray, List.set_cons_zero, List.set_cons_succ]
            first
              | (refine seq_skip (by simp only [List.getElem?_toArray, List.getElem?_cons_succ, List.getElem?_cons_zero]; rfl) (by rfl) ?_)
              | (refine seq_calc (by simp only [List.getElem?_toArray, List.getElem?_cons_succ, List.getElem?_cons_zero]; rfl) (by rfl) (fun u => by go_simp <;> with_reducible rfl) ?_)
            try simp only [Act.put, List.setIfInBounds_toArray, List.set_cons_zero, List.set_cons_succ]
            first
              | (refine seq_skip (by simp only [List.getElem?_toArray, List.getElem?_cons_succ, List.getElem?_cons_zero]; rfl) (by rfl) ?_)
              | (refine seq_load1 (by simp only [List.getElem?_toArray, List.getElem?_cons_succ, List.getElem?_cons_zero]; rfl) (by rfl) rfl rfl Tryd.underlying3 rfl (by go_simp <;> with_reducible rfl) (by first | exact id | assumption | (simp; done) | (simp; omega)) ?_)
            try simp only [Act.put, List.setIfInBounds_toArray, List.set_cons_zero, List.set_cons_succ]
            first
              | (refine seq_skip (by simp only [List.getElem?_toArray, List.getElem?_cons_succ, List.getElem?_cons_zero]; rfl) (by rfl) ?_)
              | (refine seq_do (by simp only [List.getElem?_toArray, List.getElem?_cons_succ, List.getElem?_cons_zero]; rfl) (by rfl) (fun K hK => ?_); go_wp2_with (fail); refine hK.out _ _ (by first | (with_reducible exact Chg.refl _ _) | (with_reducible assumption) | (refine Chg.of_below ?_; with_reducible assumption) | (with_reducible exact (Chg.refl _ _).alloc _) | (with_reducible exact (Chg.refl _ _).drewN _) | (with_reducible exact (Chg.refl _ _).drew) | exact ⟨rfl, rfl, rfl, Nat.le_refl _, fun _ _ _ => rfl⟩) ?_; clear hK K)
            try simp only [Act.put, List.setIfInBounds_toArray, List.set_cons_zero, List.set_cons_succ]
            first
              | (refine seq_skip (by simp only [List.getElem?_toArray, List.getElem?_cons_succ, List.getElem?_cons_zero]; rfl) (by rfl) ?_)
              | (refine seq_calc (by simp only [List.getElem?_toArray, List.getElem?_cons_succ, List.getElem?_cons_zero]; rfl) (by rfl) (fun u => by go_simp <;> with_reducible rfl) ?_)
            try simp only [Act.put, List.setIfInBounds_toArray, List.set_cons_zero, List.set_cons_succ]
            first
              | (refine seq_skip (by simp only [List.getElem?_toArray, List.getElem?_cons_succ, List.getElem?_cons_zero]; rfl) (by rfl) ?_)
              | (refine seq_calc (by simp only [List.getElem?_toArray, List.getElem?_cons_succ, List.getElem?_cons_zero]; rfl) (by rfl) (fun u => by go_simp <;> with_reducible rfl) ?_)
            try simp only [Act.put, List.setIfInBounds_toArray, List.set_cons_zero, List.set_cons_succ]
            first
              | (refine seq_skip (by simp only [List.getElem?_toArray, List.getElem?_cons_succ, List.getElem?_cons_zero]; rfl) (by rfl) ?_)
              | (refine seq_loads [_] (by simp only [List.getElem?_toArray, List.getElem?_cons_succ, List.getElem?_cons_zero]; rfl) (by rfl) rfl rfl Tryd.underlying67 rfl (by kernel_rfl) (by first | (with_reducible assumption) | (refine cellsAre_range ?_; simp only [cellsAre]; (repeat' (first | exact True.intro | apply And.intro)); all_goals (go_simp <;> with_reducible rfl))) (by first | exact id | assumption | (simp; done) | (simp; omega)) ?_)
            try simp only [Act.put, List.setIfInBounds_toArray, List.set_cons_zero, List.set_cons_succ]
            first
              | (refine seq_skip (by simp only [List.getElem?_toArray, List.getElem?_cons_succ, List.getElem?_cons_zero]; rfl) (by rfl) ?_)
              | (refine seq_calc (by simp only [List.getElem?_toArray, List.getElem?_cons_succ, List.getElem?_cons_zero]; rfl) (by rfl) (fun u => by go_simp <;> with_reducible rfl) ?_)
            try simp only [Act.put, List.setIfInBounds_toArray, List.set_cons_zero, List.set_cons_succ]
            first
              | (refine seq_skip (by simp only [List.getElem?_toArray, List.getElem?_cons_succ, List.getElem?_cons_zero]; rfl) (by rfl) ?_)
              | (refine seq_calc (by simp only [List.getElem?_toArray, List.getElem?_cons_succ, List.getElem?_cons_zero]; rfl) (by rfl) (fun u => by go_simp <;> with_reducible rfl) ?_)
            try simp only [Act.put, List.setIfInBounds_toArray, List.set_cons_zero, List.set_cons_succ]
            first
              | (refine seq_skip (by simp only [List.getElem?_toArray, List.getElem?_cons_succ, List.getElem?_cons_zero]; rfl) (by rfl) ?_)
              | (refine seq_last (by simp only [List.getElem?_toArray, List.getElem?_cons_succ, List.getElem?_cons_zero]; rfl) (by rfl) (fun K hK => ?_); go_wp2_with (fail); refine hK.out _ _ ?_; clear hK K)
            try simp only [Act.put, List.setIfInBounds_toArray, List.set_cons_zero, List.set_cons_succ]
            first
              | (refine seq_skip (by simp only [List.getElem?_toArray, List.getElem?_cons_succ, List.getElem?_cons_zero]; rfl) (by rfl) ?_)
              | (refine seq_calc (by simp only [List.getElem?_toArray, List.getElem?_cons_succ, List.getElem?_cons_zero]; rfl) (by rfl) (fun u => by go_simp <;> with_reducible rfl) ?_)
            try simp only [Act.put, List.setIfInBounds_toArray, List.set_cons_zero, List.set_cons_succ]
            first
              | (refine seq_skip (by simp only [List.getElem?_toArray, List.getElem?_cons_succ, List.getElem?_cons_zero]; rfl) (by rfl) ?_)
              | (refine seq_calc (by simp only [List.getElem?_toArray, List.getElem?_cons_succ, List.getElem?_cons_zero]; rfl) (by rfl) (fun u => by go_simp <;> with_reducible rfl) ?_)
            try simp only [Act.put, List.setIfInBounds_toArray, List.set_cons_zero, List.set_cons_succ]
            refine seq_calc (by simp only [List.getElem?_toArray, List.getElem?_cons_succ, List.getElem?_cons_zero]; rfl) (by rfl) (fun u => by go_simp <;> with_reducible rfl) ?_
            try simp only [Act.put, List.setIfInBounds_toArray, List.set_cons_zero, List.set_cons_succ]
            refine seq_nil ?_
            go_wp2
            go_meet
            exact ⟨m, s, A2.out.below (Below.refl _ _).drew, hoP.out⟩
        have n0' : (q == 0) = false := by simpa using q0
        by_cases q1 : q = 1
        · subst q1
          have HA := Lib.hid hA
          obtain ⟨c0, c1, c2, c3, c4⟩ := act5o hA.act
          have v0 := hA.view.cell 0
          have zA := hA.act.lt
          have zV := hA.view.lt
          have hgm := hA.good.1
          have HGD := Lib.hid hA.good
          clear hA
          have SU := Lib.hid (fun (w' : World) hg' he' => gset_any G 0 m I s x1 hgm E w' hg' he')
          have AT := Lib.hid (fun (w' : World) hg' he' => gat_any G 0 m (setT m s I x1) hgm I E w' hg' he')
          have FU := Lib.hid (fun (w' : World) hg' => gfull_any G 0 m (setT m s I x1) hgm w' hg')
          rw [← HCN.out] at FU
          have GG := Lib.hid (HGD.out.setA I x1)
          have hoP := Lib.hid (fun hb : bo = false => HBO.out.symm.trans hb)
          have hval : fullE m I true = 0 → (atS m (setT m s I x1) I).val = x1 := fun hz => by
            unfold atS setT; rw [if_pos hz, if_pos hz, putS_same]
          obtain ⟨⟨ek, ev, eh⟩, hea⟩ : ∃ ea, ea = atS m (setT m s I x1) I := ⟨_, rfl⟩
          rw [← hea] at AT hval
          simp only [EntS.val3] at AT hval
          clear hea
          generalize setT m s I x1 = s' at *
          generalize errN E (fullE m I true) = er at SU
          have s3 : ((cn : Int) != (cn : Int)) = false := by simp
          by_cases hf : fullE m I true = 0
          · rw [hf] at AT
            obtain rfl := hval hf
            have s1 : (ev != ev) = false := by simp
            clear hf hval
            go_wp2_with (first
              | (go_at_call 42; refine (SU.out _ HA.out.g (HE5.out.below HA.out.bel)).mono ?_; rintro e w2 ⟨rfl, g2, cg2⟩; have A2 := Lib.hid (HA.out.turn ⟨hGM, hGC, hGV, hG0⟩ GG.out g2 cg2); obtain ⟨d0, d1, d2, d3, d4⟩ := act5o A2.out.act; have v02 := A2.out.view.cell 0; have zC2 := A2.out.act.lt; have zV2 := A2.out.view.lt; clear g2 cg2)
              | (go_at_call 43; refine (AT.out _ A2.out.g (HE5.out.below A2.out.bel)).mono ?_; rintro e w3 ⟨rfl, hb3⟩; have A3 := Lib.hid (A2.out.below hb3); have hz3 := hb3.size; skip; have hcC := fun (o : Nat) => hb3.cell (p := ⟨C, o, none⟩) (by first | assumption | (simp <;> omega)); have hfC := fun (o : Nat) => hb3.frozen (p := ⟨C, o, none⟩) (by first | assumption | (simp <;> omega)); have hzC : C < w3.heap.size := Nat.lt_of_lt_of_le (by first | assumption | (simp <;> omega)) hb3.size; have hcV := fun (o : Nat) => hb3.cell (p := ⟨V, o, none⟩) (by first | assumption | (simp <;> omega)); have hfV := fun (o : Nat) => hb3.frozen (p := ⟨V, o, none⟩) (by first | assumption | (simp <;> omega)); have hzV : V < w3.heap.size := Nat.lt_of_lt_of_le (by first | assumption | (simp <;> omega)) hb3.size)
              | (go_at_call 40; refine (FU.out _ (A3.out.g.alloc _)).mono ?_; rintro e w4 ⟨rfl, hb4⟩; have A4 := Lib.hid ((A3.out.below ((Below.refl _ _).alloc (Nat.le_refl _) _)).below hb4)))
            go_meet
            exact ⟨m, s', A4.out, hoP.out⟩
          · rw [show (fullE m I true == 0) = false by simpa using hf] at AT
            clear hf hval
            go_wp2_with (first
              | (go_at_call 42; refine (SU.out _ HA.out.g (HE5.out.below HA.out.bel)).mono ?_; rintro e w2 ⟨rfl, g2, cg2⟩; have A2 := Lib.hid (HA.out.turn ⟨hGM, hGC, hGV, hG0⟩ GG.out g2 cg2); obtain ⟨d0, d1, d2, d3, d4⟩ := act5o A2.out.act; have v02 := A2.out.view.cell 0; have zC2 := A2.out.act.lt; have zV2 := A2.out.view.lt; clear g2 cg2)
              | (go_at_call 43; refine (AT.out _ A2.out.g (HE5.out.below A2.out.bel)).mono ?_; rintro e w3 ⟨rfl, hb3⟩; have A3 := Lib.hid (A2.out.below hb3); have hz3 := hb3.size; skip; have hcC := fun (o : Nat) => hb3.cell (p := ⟨C, o, none⟩) (by first | assumption | (simp <;> omega)); have hfC := fun (o : Nat) => hb3.frozen (p := ⟨C, o, none⟩) (by first | assumption | (simp <;> omega)); have hzC : C < w3.heap.size := Nat.lt_of_lt_of_le (by first | assumption | (simp <;> omega)) hb3.size; have hcV := fun (o : Nat) => hb3.cell (p := ⟨V, o, none⟩) (by first | assumption | (simp <;> omega)); have hfV := fun (o : Nat) => hb3.frozen (p := ⟨V, o, none⟩) (by first | assumption | (simp <;> omega)); have hzV : V < w3.heap.size := Nat.lt_of_lt_of_le (by first | assumption | (simp <;> omega)) hb3.size)
              | (go_at_call 40; refine (FU.out _ (A3.out.g.alloc _)).mono ?_; rintro e w4 ⟨rfl, hb4⟩; have A4 := Lib.hid ((A3.out.below ((Below.refl _ _).alloc (Nat.le_refl _) _)).below hb4)))
            go_meet
            exact ⟨m, s', A4.out, hoP.out⟩
        have n1' : (q == 1) = false := by simpa using q1
        by_cases q2 : q = 2
        · subst q2
          have HA := Lib.hid hA
          obtain ⟨c0, c1, c2, c3, c4⟩ := act5o hA.act
          have v0 := hA.view.cell 0
          have zA := hA.act.lt
          have zV := hA.view.lt
          have hgm := hA.good.1
          have HGD := Lib.hid hA.good
          clear hA
          by_cases hf : fullE m I true = 0
          · obtain ⟨j, rfl, hj, -⟩ := fullE_zero hf
            obtain ⟨-, h', hh', hh3, -⟩ := HGD.out.2 j hj
            have AT := Lib.hid (fun (w' : World) hg' he' => gat_any G 0 m s hgm (j : Int) E w' hg' he')
            rw [show atS m s (j : Int) = s j by unfold atS; rw [if_pos hf, Int.toNat_natCast], hf] at AT
            simp only [EntS.val3, hh'] at AT
            have ER := Lib.hid (fun (w' : World) hg' he' => gerase_ok G 0 m j s hgm hj hf E w' hg' he')
            rw [← HBO.out] at ER
            have GG := HGD.out.erase j
            have F2 := Lib.hid (fun (w' : World) hg' hT' => gfind_any G 0 (setL m j (goneN m)) h' (putS s j EntS.zero) (s j).key GG.1 hh3 w' hg' hT')
            have hfe := erase_find (m := m) (s := putS s j EntS.zero) (key := (s j).key) (h := h') hj
            have FU := Lib.hid (fun (w' : World) hg' => gfull_any G 0 (setL m j (goneN m)) (putS s j EntS.zero) GG.1 w' hg')
            have hcc := erase_count hj hf
            rw [← HCN.out] at hcc
            have hoP := Lib.hid (fun hb : bo = false => open_gone (k := j) (HBO.out.symm.trans hb))
            have HGG := Lib.hid GG
            clear GG hh'
            generalize findZ (putS s j EntS.zero) (s j).key (lanesL (equalB (setL m j (goneN m)) (h' % 128))) = zf at *
            generalize (lanesL (fullB (setL m j (goneN m)))).length = c2 at *
            generalize setL m j (goneN m) = m' at *
            generalize putS s j EntS.zero = s' at *
            generalize (s j).key = ek at *
            generalize (s j).val = ev at *
            have s1 : (zf == (j : Int)) = false := by simpa using hfe
            have s2 : ((!bo) == bo) = false := by cases bo <;> rfl
            obtain rfl : cn = c2 + 1 := hcc
            have s3 : ((c2 : Int) != ((c2 + 1 : Nat) : Int) - 1) = false := by simp
            have s4 : ((c2 : Int) != (c2 : Int) + 1 - 1) = false := by simp
            have s5 : IntKind.i64.wrap ((c2 : Int) + 1 - 1) = (c2 : Int) := by rw [IntKind.wrap_i64]; omega
            have s6 : IntKind.i64.wrap (c2 : Int) = (c2 : Int) := by rw [IntKind.wrap_i64]; omega
            clear hf hfe
            go_upto_region 26 with (first
              | (go_at_call 43; refine (AT.out _ HA.out.g (HE5.out.below HA.out.bel)).mono ?_; rintro e w3 ⟨rfl, hb3⟩; have A3 := Lib.hid (HA.out.below hb3); have hz3 := hb3.size; skip; have hcC := fun (o : Nat) => hb3.cell (p := ⟨C, o, none⟩) (by first | assumption | (simp <;> omega)); have hfC := fun (o : Nat) => hb3.frozen (p := ⟨C, o, none⟩) (by first | assumption | (simp <;> omega)); have hzC : C < w3.heap.size := Nat.lt_of_lt_of_le (by first | assumption | (simp <;> omega)) hb3.size; have hcV := fun (o : Nat) => hb3.cell (p := ⟨V, o, none⟩) (by first | assumption | (simp <;> omega)); have hfV := fun (o : Nat) => hb3.frozen (p := ⟨V, o, none⟩) (by first | assumption | (simp <;> omega)); have hzV : V < w3.heap.size := Nat.lt_of_lt_of_le (by first | assumption | (simp <;> omega)) hb3.size)
              | (go_at_call 36; refine (ER.out _ (A3.out.g.alloc _) (HE5.out.below (A3.out.bel.alloc A3.out.bel.size _))).mono ?_; rintro e w2 ⟨rfl, g2, cg2⟩; have A2 := Lib.hid ((A3.out.below ((Below.refl _ _).alloc (Nat.le_refl _) _)).turn ⟨hGM, hGC, hGV, hG0⟩ HGG.out g2 cg2); have hcX := Lib.hid (show Blk w2 w3.heap.size 62 #[.int .u64 ek, .int .u64 ev, .int .u64 (h' : Int)] from (Blk.new w3 _ _).chg cg2.chg (by have := HA.out.g.lt; omega)); clear g2 cg2))
            obtain ⟨d0, d1, d2, d3, d4⟩ := act5o A2.out.act
            have v02 := A2.out.view.cell 0
            have zC2 := A2.out.act.lt
            have zV2 := A2.out.view.lt
            have x0' := hcX.out.cell 0
            have x2' := hcX.out.cell 2
            have hB1 : Below w2.heap.size w2 w2.drew := (Below.refl _ _).drew
            refine wp_region_seq (fun _ => False) #[⟨0, 0, 2722258935367507707706996859454145691648, 32768, 0⟩, ⟨0, 0, 5444517870735015415413993718908291383296, 131072, 0⟩, ⟨2, 2, 10889035741470030830827987437816582766592, 5444517870735015415413993718908291383296, 0⟩, ⟨5, 7, 21778071482940061661655974875633165533184, 13611294676837538538534984297270728458240, 0⟩, ⟨8, 15, 43556142965880123323311949751266331066368, 21778071482940061661655974875633165533184, 0⟩, ⟨16, 31, 87112285931760246646623899502532662132736, 43556142965880123323311949751266331099136, 0⟩, ⟨48, 63, 174224571863520493293247799005065324265472, 130668428897640369969935849253798993199104, 0⟩, ⟨64, 127, 348449143727040986586495598010130648530944, 174224571863520493293247799005065324265600, 1⟩, ⟨64, 127, 696898287454081973172991196020261297061888, 174224571863520493293247799005065324281856, 0⟩, ⟨320, 383, 1393796574908163946345982392040522594123776, 871122859317602466466238995025326621327360, 1⟩, ⟨64, 127, 2787593149816327892691964784081045188247552, 174224571863520493293247799005065324281856, 0⟩, ⟨1088, 1151, 5575186299632655785383929568162090376495104, 2961817721679848385985212583086110512513024, 1⟩, ⟨2752, 4095, 11150372599265311570767859136324180752990208, 7491656590131381211609655357217808943415296, 2⟩, ⟨64, 127, 22300745198530623141535718272648361505980416, 174224571863520493293247799005065324265536, 0⟩, ⟨8256, 8319, 44601490397061246283071436545296723011960832, 22474969770394143634828966071653426830245888, 1⟩, ⟨20544, 32767, 89202980794122492566142873090593446023921664, 55926087568190078347132543480625969089216512, 0⟩, ⟨36928, 65535, 178405961588244985132285746181186892047843328, 89377205365986013059436120889598511348187136, 0⟩, ⟨65536, 131071, 356811923176489970264571492362373784095686656, 178405961588244985132285746181186892047908864, 0⟩, ⟨65536, 131071, 713623846352979940529142984724747568191373312, 178405961588244985132285746181186892047843584, 0⟩, ⟨458752, 524287, 1427247692705959881058285969449495136382746624, 1248841731117714895926000223268308244334903296, 0⟩, ⟨589888, 1048575, 2854495385411919762116571938898990272765493248, 1605827878866068386683864963429687093754855424, 0⟩, ⟨1114176, 2097151, 5708990770823839524233143877797980545530986496, 2854669609983783282609865186697995338089758720, 0⟩, ⟨2097152, 4194303, 11417981541647679048466287755595961091061972992, 5708990770823839524233143877797980545530986624, 1⟩, ⟨6291456, 8388607, 22835963083295358096932575511191922182123945984, 17126972312471518572699431633393941636592959488, 3⟩, ⟨2097152, 4194303, 45671926166590716193865151022383844364247891968, 5708990770823839524233143877797980545530987008, 0⟩, ⟨18874368, 20971519, 91343852333181432387730302044767688728495783936, 51380916937414555718098294900181824909778878464, 0⟩, ⟨44040192, 67108863, 182687704666362864775460604089535377456991567872, 119888806187300630008896021433757591456150716416, 0⟩, ⟨69206080, 134217727, 365375409332725729550921208179070754913983135744, 188396869661758567820187041215132363067846819840, 0⟩, ⟨134217808, 268435455, 730750818665451459101842416358141509827966271488, 365375627113440558951537824738819511245638467584, 0⟩, ⟨268435472, 536870911, 1461501637330902918203684832716283019655932542976, 730750862221594424981965739670091261094297337856, 0⟩] 4213376 [(0, 0), (1, 0), (2, 0), (3, 0), (4, 0), (5, 0), (6, 0), (7, 1), (8, 0), (9, 1), (10, 0), (11, 1), (13, 0), (14, 1), (12, 2), (15, 0), (16, 0), (17, 0), (18, 0), (19, 0), (20, 0), (21, 0), (22, 1), (24, 0), (25, 0), (23, 3), (26, 0), (27, 0), (28, 0), (29, 0)] (by kernel_rfl) (by kernel_rfl) (by kernel_rfl) (by kernel_rfl) (by kernel_rfl) (by kernel_rfl) (fun c a d v w h => by cases d <;> exact h) ?_
            refine seq_calc (by simp only [List.getElem?_toArray, List.getElem?_cons_succ, List.getElem?_cons_zero]; rfl) (by rfl) (fun u => by go_simp <;> with_reducible rfl) ?_
            try simp only [Act.put, List.setIfInBounds_toArray, List.set_cons_zero, List.set_cons_succ]
            refine seq_calc (by simp only [List.getElem?_toArray, List.getElem?_cons_succ, List.getElem?_cons_zero]; rfl) (by rfl) (fun u => by go_simp <;> with_reducible rfl) ?_
            try simp only [Act.put, List.setIfInBounds_toArray, List.set_cons_zero, List.set_cons_succ]
            refine seq_calc (by simp only [List.getElem?_toArray, List.getElem?_cons_succ, List.getElem?_cons_zero]; rfl) (by rfl) (fun u => by go_simp <;> with_reducible rfl) ?_
            try simp only [Act.put, List.setIfInBounds_toArray, List.set_cons_zero, List.set_cons_succ]
            refine seq_calc (by simp only [List.getElem?_toArray, List.getElem?_cons_succ, List.getElem?_cons_zero]; rfl) (by rfl) (fun u => by go_simp <;> with_reducible rfl) ?_
            try simp only [Act.put, List.setIfInBounds_toArray, List.set_cons_zero, List.set_cons_succ]
            refine seq_calc (by simp only [List.getElem?_toArray, List.getElem?_cons_succ, List.getElem?_cons_zero]; rfl) (by rfl) (fun u => by go_simp <;> with_reducible rfl) ?_
            try simp only [Act.put, List.setIfInBounds_toArray, List.set_cons_zero, List.set_cons_succ]
            first
              | (refine seq_skip (by simp only [List.getElem?_toArray, List.getElem?_cons_succ, List.getElem?_cons_zero]; rfl) (by rfl) ?_)
              | (refine seq_calc (by simp only [List.getElem?_toArray, List.getElem?_cons_succ, List.getElem?_cons_zero]; rfl) (by rfl) (fun u => by go_simp <;> with_reducible rfl) ?_)
            try simp only [Act.put, List.setIfInBounds_toArray, List.set_cons_zero, List.set_cons_succ]
            first
              | (refine seq_skip (by simp only [List.getElem?_toArray, List.getElem?_cons_succ, List.getElem?_cons_zero]; rfl) (by rfl) ?_)
              | (refine seq_calc (by simp only [List.getElem?_toArray, List.getElem?_cons_succ, List.getElem?_cons_zero]; rfl) (by rfl) (fun u => by go_simp <;> with_reducible rfl) ?_)
            try simp only [Act.put, List.setIfInBounds_toArray, List.set_cons_zero, List.set_cons_succ]
            first
              | (refine seq_skip (by simp only [List.getElem?_toArray, List.getElem?_cons_succ, List.getElem?_cons_zero]; rfl) (by rfl) ?_)
              | (refine seq_loads [_] (by simp only [List.getElem?_toArray, List.getElem?_cons_succ, List.getElem?_cons_zero]; rfl) (by rfl) rfl rfl Tryd.underlying67 rfl (by kernel_rfl) (by first | (with_reducible assumption) | (refine cellsAre_range ?_; simp only [cellsAre]; (repeat' (first | exact True.intro | apply And.intro)); all_goals (go_simp <;> with_reducible rfl))) (by first | exact id | assumption | (simp; done) | (simp; omega)) ?_)
            try simp only [Act.put, List.setIfInBounds_toArray, List.set_cons_zero, List.set_cons_succ]
            first
              | (refine seq_skip (by simp only [List.getElem?_toArray, List.getElem?_cons_succ, List.getElem?_cons_zero]; rfl) (by rfl) ?_)
              | (refine seq_calc (by simp only [List.getElem?_toArray, List.getElem?_cons_succ, List.getElem?_cons_zero]; rfl) (by rfl) (fun u => by go_simp <;> with_reducible rfl) ?_)
            try simp only [Act.put, List.setIfInBounds_toArray, List.set_cons_zero, List.set_cons_succ]
            first
              | (refine seq_skip (by simp only [List.getElem?_toArray, List.getElem?_cons_succ, List.getElem?_cons_zero]; rfl) (by rfl) ?_)
              | (refine seq_load1 (by simp only [List.getElem?_toArray, List.getElem?_cons_succ, List.getElem?_cons_zero]; rfl) (by rfl) rfl rfl Tryd.underlying22 rfl (by go_simp <;> with_reducible rfl) (by first | exact id | assumption | (simp; done) | (simp; omega)) ?_)
            try simp only [Act.put, List.setIfInBounds_toArray, List.set_cons_zero, List.set_cons_succ]
            first
              | (refine seq_skip (by simp only [List.getElem?_toArray, List.getElem?_cons_succ, List.getElem?_cons_zero]; rfl) (by rfl) ?_)
              | (refine seq_calc (by simp only [List.getElem?_toArray, List.getElem?_cons_succ, List.getElem?_cons_zero]; rfl) (by rfl) (fun u => by go_simp <;> with_reducible rfl) ?_)
            try simp only [Act.put, List.setIfInBounds_toArray, List.set_cons_zero, List.set_cons_succ]
            first
              | (refine seq_skip (by simp only [List.getElem?_toArray, List.getElem?_cons_succ, List.getElem?_cons_zero]; rfl) (by rfl) ?_)
              | (refine seq_load1 (by simp only [List.getElem?_toArray, List.getElem?_cons_succ, List.getElem?_cons_zero]; rfl) (by rfl) rfl rfl Tryd.underlying22 rfl (by go_simp <;> with_reducible rfl) (by first | exact id | assumption | (simp; done) | (simp; omega)) ?_)
            try simp only [Act.put, List.setIfInBounds_toArray, List.set_cons_zero, List.set_cons_succ]
            first
              | (refine seq_skip (by simp only [List.getElem?_toArray, List.getElem?_cons_succ, List.getElem?_cons_zero]; rfl) (by rfl) ?_)
              | (refine seq_calc (by simp only [List.getElem?_toArray, List.getElem?_cons_succ, List.getElem?_cons_zero]; rfl) (by rfl) (fun u => by go_simp <;> with_reducible rfl) ?_)
            try simp only [Act.put, List.setIfInBounds_toArray, List.set_cons_zero, List.set_cons_succ]
            first
              | (refine seq_skip (by simp only [List.getElem?_toArray, List.getElem?_cons_succ, List.getElem?_cons_zero]; rfl) (by rfl) ?_)
              | (refine seq_load1 (by simp only [List.getElem?_toArray, List.getElem?_cons_succ, List.getElem?_cons_zero]; rfl) (by rfl) rfl rfl Tryd.underlying3 rfl (by go_simp <;> with_reducible rfl) (by first | exact id | assumption | (simp; done) | (simp; omega)) ?_)
            try simp only [Act.put, List.setIfInBounds_toArray, List.set_cons_zero, List.set_cons_succ]
            first
              | (refine seq_skip (by simp only [List.getElem?_toArray, List.getElem?_cons_succ, List.getElem?_cons_zero]; rfl) (by rfl) ?_)
              | (refine seq_do (by simp only [List.getElem?_toArray, List.getElem?_cons_succ, List.getElem?_cons_zero]; rfl) (by rfl) (fun K hK => ?_); go_wp2_with (first | (go_at_call 41; refine (F2.out _ (A2.out.below hB1).g (HT.out.below (A2.out.below hB1).bel)).mono ?_; rintro e w4 ⟨rfl, hb4⟩; have hB1 : Below w2.heap.size w2 w4 := (by first | exact hB1.trans (hb4.mono hB1.size) | exact hB1.trans (Below.undrew (hb4.mono hB1.size)) | exact hb4 | exact Below.trans (by go_grown) (hb4.mono (by simp <;> omega))); have hcV := fun (o : Nat) => hb4.cell (p := ⟨V, o, none⟩) (by first | assumption | (simp <;> omega)); have hfV := fun (o : Nat) => hb4.frozen (p := ⟨V, o, none⟩) (by first | assumption | (simp <;> omega)); have hzV : V < w4.heap.size := Nat.lt_of_lt_of_le (by first | assumption | (simp <;> omega)) hb4.size; have hcC := fun (o : Nat) => hb4.cell (p := ⟨C, o, none⟩) (by first | assumption | (simp <;> omega)); have hfC := fun (o : Nat) => hb4.frozen (p := ⟨C, o, none⟩) (by first | assumption | (simp <;> omega)); have hzC : C < w4.heap.size := Nat.lt_of_lt_of_le (by first | assumption | (simp <;> omega)) hb4.size) | (go_at_call 40; refine (FU.out _ (A2.out.below hB1).g).mono ?_; rintro e w4 ⟨rfl, hb4⟩; have hB1 : Below w2.heap.size w2 w4 := (by first | exact hB1.trans (hb4.mono hB1.size) | exact hB1.trans (Below.undrew (hb4.mono hB1.size)) | exact hb4 | exact Below.trans (by go_grown) (hb4.mono (by simp <;> omega))); have hcV := fun (o : Nat) => hb4.cell (p := ⟨V, o, none⟩) (by first | assumption | (simp <;> omega)); have hfV := fun (o : Nat) => hb4.frozen (p := ⟨V, o, none⟩) (by first | assumption | (simp <;> omega)); have hzV : V < w4.heap.size := Nat.lt_of_lt_of_le (by first | assumption | (simp <;> omega)) hb4.size)); refine hK.out _ _ (by first | (with_reducible exact Chg.refl _ _) | (with_reducible assumption) | (refine Chg.of_below ?_; with_reducible assumption) | (with_reducible exact (Chg.refl _ _).alloc _) | (with_reducible exact (Chg.refl _ _).drewN _) | (with_reducible exact (Chg.refl _ _).drew) | exact ⟨rfl, rfl, rfl, Nat.le_refl _, fun _ _ _ => rfl⟩) ?_; clear hK K)
            try simp only [Act.put, List.setIfInBounds_toArray, List.set_cons_zero, List.set_cons_succ]
            first
              | (refine seq_skip (by simp only [List.getElem?_toArray, List.getElem?_cons_succ, List.getElem?_cons_zero]; rfl) (by rfl) ?_)
              | (refine seq_calc (by simp only [List.getElem?_toArray, List.getElem?_cons_succ, List.getElem?_cons_zero]; rfl) (by rfl) (fun u => by go_simp <;> with_reducible rfl) ?_)
            try simp only [Act.put, List.setIfInBounds_toArray, List.set_cons_zero, List.set_cons_succ]
            first
              | (refine seq_skip (by simp only [List.getElem?_toArray, List.getElem?_cons_succ, List.getElem?_cons_zero]; rfl) (by rfl) ?_)
              | (refine seq_calc (by simp only [List.getElem?_toArray, List.getElem?_cons_succ, List.getElem?_cons_zero]; rfl) (by rfl) (fun u => by go_simp <;> with_reducible rfl) ?_)
            try simp only [Act.put, List.setIfInBounds_toArray, List.set_cons_zero, List.set_cons_succ]
            first
              | (refine seq_skip (by simp only [List.getElem?_toArray, List.getElem?_cons_succ, List.getElem?_cons_zero]; rfl) (by rfl) ?_)
              | (refine seq_calc (by simp only [List.getElem?_toArray, List.getElem?_cons_succ, List.getElem?_cons_zero]; rfl) (by rfl) (fun u => by go_simp <;> with_reducible rfl) ?_)
            try simp only [Act.put, List.setIfInBounds_toArray, List.set_cons_zero, List.set_cons_succ]
            first
              | (refine seq_skip (by simp only [List.getElem?_toArray, List.getElem?_cons_succ, List.getElem?_cons_zero]; rfl) (by rfl) ?_)
              | (refine seq_calc (by simp only [List.getElem?_toArray, List.getElem?_cons_succ, List.getElem?_cons_zero]; rfl) (by rfl) (fun u => by go_simp <;> with_reducible rfl) ?_)
            try simp only [Act.put, List.setIfInBounds_toArray, List.set_cons_zero, List.set_cons_succ]
            first
              | (refine seq_skip (by simp only [List.getElem?_toArray, List.getElem?_cons_succ, List.getElem?_cons_zero]; rfl) (by rfl) ?_)
              | (refine seq_calc (by simp only [List.getElem?_toArray, List.getElem?_cons_succ, List.getElem?_cons_zero]; rfl) (by rfl) (fun u => by go_simp <;> with_reducible rfl) ?_)
            try simp only [Act.put, List.setIfInBounds_toArray, List.set_cons_zero, List.set_cons_succ]
            first
              | (refine seq_skip (by simp only [List.getElem?_toArray, List.getElem?_cons_succ, List.getElem?_cons_zero]; rfl) (by rfl) ?_)
              | (refine seq_calc (by simp only [List.getElem?_toArray, List.getElem?_cons_succ, List.getElem?_cons_zero]; rfl) (by rfl) (fun u => by go_simp <;> with_reducible rfl) ?_)
            try simp only [Act.put, List.setIfInBounds_toArray, List.set_cons_zero, List.set_cons_succ]
            first
              | (refine seq_skip (by simp only [List.getElem?_toArray, List.getElem?_cons_succ, List.getElem?_cons_zero]; rfl) (by rfl) ?_)
              | (refine seq_calc (by simp only [List.getElem?_toArray, List.getElem?_cons_succ, List.getElem?_cons_zero]; rfl) (by rfl) (fun u => by go_simp <;> with_reducible rfl) ?_)
            try simp only [Act.put, List.setIfInBounds_toArray, List.set_cons_zero, List.set_cons_succ]
            first
              | (refine seq_skip (by simp only [List.getElem?_toArray, List.getElem?_cons_succ, List.getElem?_cons_zero]; rfl) (by rfl) ?_)
              | (refine seq_loads [_] (by simp only [List.getElem?_toArray, List.getElem?_cons_succ, List.getElem?_cons_zero]; rfl) (by rfl) rfl rfl Tryd.underlying67 rfl (by kernel_rfl) (by first | (with_reducible assumption) | (refine cellsAre_range ?_; simp only [cellsAre]; (repeat' (first | exact True.intro | apply And.intro)); all_goals (go_simp <;> with_reducible rfl))) (by first | exact id | assumption | (simp; done) | (simp; omega)) ?_)
            try simp only [Act.put, List.setIfInBounds_toArray, List.set_cons_zero, List.set_cons_succ]
            first
              | (refine seq_skip (by simp only [List.getElem?_toArray, List.getElem?_cons_succ, List.getElem?_cons_zero]; rfl) (by rfl) ?_)
              | (refine seq_calc (by simp only [List.getElem?_toArray, List.getElem?_cons_succ, List.getElem?_cons_zero]; rfl) (by rfl) (fun u => by go_simp <;> with_reducible rfl) ?_)
            try simp only [Act.put, List.setIfInBounds_toArray, List.set_cons_zero, List.set_cons_succ]
            first
              | (refine seq_skip (by simp only [List.getElem?_toArray, List.getElem?_cons_succ, List.getElem?_cons_zero]; rfl) (by rfl) ?_)
              | (refine seq_calc (by simp only [List.getElem?_toArray, List.getElem?_cons_succ, List.getElem?_cons_zero]; rfl) (by rfl) (fun u => by go_simp <;> with_reducible rfl) ?_)
            try simp only [Act.put, List.setIfInBounds_toArray, List.set_cons_zero, List.set_cons_succ]
            first
              | (refine seq_skip (by simp only [List.getElem?_toArray, List.getElem?_cons_succ, List.getElem?_cons_zero]; rfl) (by rfl) ?_)
              | (refine seq_last (by simp only [List.getElem?_toArray, List.getElem?_cons_succ, List.getElem?_cons_zero]; rfl) (by rfl) (fun K hK => ?_); go_wp2_with (first | (go_at_call 41; refine (F2.out _ (A2.out.below hB1).g (HT.out.below (A2.out.below hB1).bel)).mono ?_; rintro e w4 ⟨rfl, hb4⟩; have hB1 : Below w2.heap.size w2 w4 := (by first | exact hB1.trans (hb4.mono hB1.size) | exact hB1.trans (Below.undrew (hb4.mono hB1.size)) | exact hb4 | exact Below.trans (by go_grown) (hb4.mono (by simp <;> omega))); have hcV := fun (o : Nat) => hb4.cell (p := ⟨V, o, none⟩) (by first | assumption | (simp <;> omega)); have hfV := fun (o : Nat) => hb4.frozen (p := ⟨V, o, none⟩) (by first | assumption | (simp <;> omega)); have hzV : V < w4.heap.size := Nat.lt_of_lt_of_le (by first | assumption | (simp <;> omega)) hb4.size; have hcC := fun (o : Nat) => hb4.cell (p := ⟨C, o, none⟩) (by first | assumption | (simp <;> omega)); have hfC := fun (o : Nat) => hb4.frozen (p := ⟨C, o, none⟩) (by first | assumption | (simp <;> omega)); have hzC : C < w4.heap.size := Nat.lt_of_lt_of_le (by first | assumption | (simp <;> omega)) hb4.size) | (go_at_call 40; refine (FU.out _ (A2.out.below hB1).g).mono ?_; rintro e w4 ⟨rfl, hb4⟩; have hB1 : Below w2.heap.size w2 w4 := (by first | exact hB1.trans (hb4.mono hB1.size) | exact hB1.trans (Below.undrew (hb4.mono hB1.size)) | exact hb4 | exact Below.trans (by go_grown) (hb4.mono (by simp <;> omega))); have hcV := fun (o : Nat) => hb4.cell (p := ⟨V, o, none⟩) (by first | assumption | (simp <;> omega)); have hfV := fun (o : Nat) => hb4.frozen (p := ⟨V, o, none⟩) (by first | assumption | (simp <;> omega)); have hzV : V < w4.heap.size := Nat.lt_of_lt_of_le (by first | assumption | (simp <;> omega)) hb4.size)); refine hK.out _ _ ?_; clear hK K)
            try simp only [Act.put, List.setIfInBounds_toArray, List.set_cons_zero, List.set_cons_succ]
            first
              | (refine seq_skip (by simp only [List.getElem?_toArray, List.getElem?_cons_succ, List.getElem?_cons_zero]; rfl) (by rfl) ?_)
              | (refine seq_calc (by simp only [List.getElem?_toArray, List.getElem?_cons_succ, List.getElem?_cons_zero]; rfl) (by rfl) (fun u => by go_simp <;> with_reducible rfl) ?_)
            try simp only [Act.put, List.setIfInBounds_toArray, List.set_cons_zero, List.set_cons_succ]
            first
              | (refine seq_skip (by simp only [List.getElem?_toArray, List.getElem?_cons_succ, List.getElem?_cons_zero]; rfl) (by rfl) ?_)
              | (refine seq_calc (by simp only [List.getElem?_toArray, List.getElem?_cons_succ, List.getElem?_cons_zero]; rfl) (by rfl) (fun u => by go_simp <;> with_reducible rfl) ?_)
            try simp only [Act.put, List.setIfInBounds_toArray, List.set_cons_zero, List.set_cons_succ]
            first
              | (refine seq_skip (by simp only [List.getElem?_toArray, List.getElem?_cons_succ, List.getElem?_cons_zero]; rfl) (by rfl) ?_)
              | (refine seq_calc (by simp only [List.getElem?_toArray, List.getElem?_cons_succ, List.getElem?_cons_zero]; rfl) (by rfl) (fun u => by go_simp <;> with_reducible rfl) ?_)
            try simp only [Act.put, List.setIfInBounds_toArray, List.set_cons_zero, List.set_cons_succ]
            refine seq_calc (by simp only [List.getElem?_toArray, List.getElem?_cons_succ, List.getElem?_cons_zero]; rfl) (by rfl) (fun u => by go_simp <;> with_reducible rfl) ?_
            try simp only [Act.put, List.setIfInBounds_toArray, List.set_cons_zero, List.set_cons_succ]
            refine seq_nil ?_
            go_wp2
            go_meet
            exact ⟨m', s', A2.out.below hB1, hoP.out⟩
          · have AT := Lib.hid (fun (w' : World) hg' he' => gat_any G 0 m s hgm I E w' hg' he')
            rw [show atS m s I = EntS.zero by unfold atS; rw [if_neg hf], show (fullE m I true == 0) = false by simpa using hf] at AT
            simp only [EntS.val3, EntS.zero] at AT
            have ER := Lib.hid (fun (w' : World) hg' he' => gerase_bad G 0 m I s hgm hf E w' hg' he')
            simp only [errN_iface E _ hf] at ER
            generalize fullE m I true = er at ER
            have hoP := Lib.hid (fun hb : bo = false => HBO.out.symm.trans hb)
            clear hf
            go_upto_region 26 with (first
              | (go_at_call 43; refine (AT.out _ HA.out.g (HE5.out.below HA.out.bel)).mono ?_; rintro e w3 ⟨rfl, hb3⟩; have A3 := Lib.hid (HA.out.below hb3); have hz3 := hb3.size; skip; have hcC := fun (o : Nat) => hb3.cell (p := ⟨C, o, none⟩) (by first | assumption | (simp <;> omega)); have hfC := fun (o : Nat) => hb3.frozen (p := ⟨C, o, none⟩) (by first | assumption | (simp <;> omega)); have hzC : C < w3.heap.size := Nat.lt_of_lt_of_le (by first | assumption | (simp <;> omega)) hb3.size; have hcV := fun (o : Nat) => hb3.cell (p := ⟨V, o, none⟩) (by first | assumption | (simp <;> omega)); have hfV := fun (o : Nat) => hb3.frozen (p := ⟨V, o, none⟩) (by first | assumption | (simp <;> omega)); have hzV : V < w3.heap.size := Nat.lt_of_lt_of_le (by first | assumption | (simp <;> omega)) hb3.size)
              | (go_at_call 36; refine (ER.out _ (A3.out.g.alloc _) (HE5.out.below (A3.out.bel.alloc A3.out.bel.size _))).mono ?_; rintro e w2 ⟨rfl, hb2⟩; have A2 := Lib.hid ((A3.out.below ((Below.refl _ _).alloc (Nat.le_refl _) _)).below hb2)))
            refine wp_region_seq (fun _ => False) #[⟨0, 0, 2722258935367507707706996859454145691648, 32768, 0⟩, ⟨0, 0, 5444517870735015415413993718908291383296, 131072, 0⟩, ⟨2, 2, 10889035741470030830827987437816582766592, 5444517870735015415413993718908291383296, 0⟩, ⟨5, 7, 21778071482940061661655974875633165533184, 13611294676837538538534984297270728458240, 0⟩, ⟨8, 15, 43556142965880123323311949751266331066368, 21778071482940061661655974875633165533184, 0⟩, ⟨16, 31, 87112285931760246646623899502532662132736, 43556142965880123323311949751266331099136, 0⟩, ⟨48, 63, 174224571863520493293247799005065324265472, 130668428897640369969935849253798993199104, 0⟩, ⟨64, 127, 348449143727040986586495598010130648530944, 174224571863520493293247799005065324265600, 1⟩, ⟨64, 127, 696898287454081973172991196020261297061888, 174224571863520493293247799005065324281856, 0⟩, ⟨320, 383, 1393796574908163946345982392040522594123776, 871122859317602466466238995025326621327360, 1⟩, ⟨64, 127, 2787593149816327892691964784081045188247552, 174224571863520493293247799005065324281856, 0⟩, ⟨1088, 1151, 5575186299632655785383929568162090376495104, 2961817721679848385985212583086110512513024, 1⟩, ⟨2752, 4095, 11150372599265311570767859136324180752990208, 7491656590131381211609655357217808943415296, 2⟩, ⟨64, 127, 22300745198530623141535718272648361505980416, 174224571863520493293247799005065324265536, 0⟩, ⟨8256, 8319, 44601490397061246283071436545296723011960832, 22474969770394143634828966071653426830245888, 1⟩, ⟨20544, 32767, 89202980794122492566142873090593446023921664, 55926087568190078347132543480625969089216512, 0⟩, ⟨36928, 65535, 178405961588244985132285746181186892047843328, 89377205365986013059436120889598511348187136, 0⟩, ⟨65536, 131071, 356811923176489970264571492362373784095686656, 178405961588244985132285746181186892047908864, 0⟩, ⟨65536, 131071, 713623846352979940529142984724747568191373312, 178405961588244985132285746181186892047843584, 0⟩, ⟨458752, 524287, 1427247692705959881058285969449495136382746624, 1248841731117714895926000223268308244334903296, 0⟩, ⟨589888, 1048575, 2854495385411919762116571938898990272765493248, 1605827878866068386683864963429687093754855424, 0⟩, ⟨1114176, 2097151, 5708990770823839524233143877797980545530986496, 2854669609983783282609865186697995338089758720, 0⟩, ⟨2097152, 4194303, 11417981541647679048466287755595961091061972992, 5708990770823839524233143877797980545530986624, 1⟩, ⟨6291456, 8388607, 22835963083295358096932575511191922182123945984, 17126972312471518572699431633393941636592959488, 3⟩, ⟨2097152, 4194303, 45671926166590716193865151022383844364247891968, 5708990770823839524233143877797980545530987008, 0⟩, ⟨18874368, 20971519, 91343852333181432387730302044767688728495783936, 51380916937414555718098294900181824909778878464, 0⟩, ⟨44040192, 67108863, 182687704666362864775460604089535377456991567872, 119888806187300630008896021433757591456150716416, 0⟩, ⟨69206080, 134217727, 365375409332725729550921208179070754913983135744, 188396869661758567820187041215132363067846819840, 0⟩, ⟨134217808, 268435455, 730750818665451459101842416358141509827966271488, 365375627113440558951537824738819511245638467584, 0⟩, ⟨268435472, 536870911, 1461501637330902918203684832716283019655932542976, 730750862221594424981965739670091261094297337856, 0⟩] 4213376 [(0, 0), (1, 0), (2, 0), (3, 0), (4, 0), (5, 0), (6, 0), (7, 1), (8, 0), (9, 1), (10, 0), (11, 1), (13, 0), (14, 1), (12, 2), (15, 0), (16, 0), (17, 0), (18, 0), (19, 0), (20, 0), (21, 0), (22, 1), (24, 0), (25, 0), (23, 3), (26, 0), (27, 0), (28, 0), (29, 0)] (by kernel_rfl) (by kernel_rfl) (by kernel_rfl) (by kernel_rfl) (by kernel_rfl) (by kernel_rfl) (fun c a d v w h => by cases d <;> exact h) ?_
            refine seq_calc (by simp only [List.getElem?_toArray, List.getElem?_cons_succ, List.getElem?_cons_zero]; rfl) (by rfl) (fun u => by go_simp <;> with_reducible rfl) ?_
            try simp only [Act.put, List.setIfInBounds_toArray, List.set_cons_zero, List.set_cons_succ]
            refine seq_calc (by simp only [List.getElem?_toArray, List.getElem?_cons_succ, List.getElem?_cons_zero]; rfl) (by rfl) (fun u => by go_simp <;> with_reducible rfl) ?_
            try simp only [Act.put, List.setIfInBounds_toArray, List.set_cons_zero, List.set_cons_succ]
            refine seq_calc (by simp only [List.getElem?_toArray, List.getElem?_cons_succ, List.getElem?_cons_zero]; rfl) (by rfl) (fun u => by go_simp <;> with_reducible rfl) ?_
            try simp only [Act.put, List.setIfInBounds_toArray, List.set_cons_zero, List.set_cons_succ]
            refine seq_calc (by simp only [List.getElem?_toArray, List.getElem?_cons_succ, List.getElem?_cons_zero]; rfl) (by rfl) (fun u => by go_simp <;> with_reducible rfl) ?_
            try simp only [Act.put, List.setIfInBounds_toArray, List.set_cons_zero, List.set_cons_succ]
            refine seq_calc (by simp only [List.getElem?_toArray, List.getElem?_cons_succ, List.getElem?_cons_zero]; rfl) (by rfl) (fun u => by go_simp <;> with_reducible rfl) ?_
            try simp only [Act.put, List.setIfInBounds_toArray, List.set_cons_zero, List.set_cons_succ]
            first
              | (refine seq_skip (by simp only [List.getElem?_toArray, List.getElem?_cons_succ, List.getElem?_cons_zero]; rfl) (by rfl) ?_)
              | (refine seq_calc (by simp only [List.getElem?_toArray, List.getElem?_cons_succ, List.getElem?_cons_zero]; rfl) (by rfl) (fun u => by go_simp <;> with_reducible rfl) ?_)
            try simp only [Act.put, List.setIfInBounds_toArray, List.set_cons_zero, List.set_cons_succ]
            first
              | (refine seq_skip (by simp only [List.getElem?_toArray, List.getElem?_cons_succ, List.getElem?_cons_zero]; rfl) (by rfl) ?_)
              | (refine seq_calc (by simp only [List.getElem?_toArray, List.getElem?_cons_succ, List.getElem?_cons_zero]; rfl) (by rfl) (fun u => by go_simp <;> with_reducible rfl) ?_)
            try simp only [Act.put, List.setIfInBounds_toArray, List.set_cons_zero, List.set_cons_succ]
            first
              | (refine seq_skip (by simp only [List.getElem?_toArray, List.getElem?_cons_succ, List.getElem?_cons_zero]; rfl) (by rfl) ?_)
              | (refine seq_loads [_] (by simp only [List.getElem?_toArray, List.getElem?_cons_succ, List.getElem?_cons_zero]; rfl) (by rfl) rfl rfl Tryd.underlying67 rfl (by kernel_rfl) (by first | (with_reducible assumption) | (refine cellsAre_range ?_; simp only [cellsAre]; (repeat' (first | exact True.intro | apply And.intro)); all_goals (go_simp <;> with_reducible rfl))) (by first | exact id | assumption | (simp; done) | (simp; omega)) ?_)
            try simp only [Act.put, List.setIfInBounds_toArray, List.set_cons_zero, List.set_cons_succ]
            first
              | (refine seq_skip (by simp only [List.getElem?_toArray, List.getElem?_cons_succ, List.getElem?_cons_zero]; rfl) (by rfl) ?_)
              | (refine seq_calc (by simp only [List.getElem?_toArray, List.getElem?_cons_succ, List.getElem?_cons_zero]; rfl) (by rfl) (fun u => by go_simp <;> with_reducible rfl) ?_)
            try simp only [Act.put, List.setIfInBounds_toArray, List.set_cons_zero, List.set_cons_succ]
            first
              | (refine seq_skip (by simp only [List.getElem?_toArray, List.getElem?_cons_succ, List.getElem?_cons_zero]; rfl) (by rfl) ?_)
              | (refine seq_load1 (by simp only [List.getElem?_toArray, List.getElem?_cons_succ, List.getElem?_cons_zero]; rfl) (by rfl) rfl rfl Tryd.underlying22 rfl (by go_simp <;> with_reducible rfl) (by first | exact id | assumption | (simp; done) | (simp; omega)) ?_)
            try simp only [Act.put, List.setIfInBounds_toArray, List.set_cons_zero, List.set_cons_succ]
            first
              | (refine seq_skip (by simp only [List.getElem?_toArray, List.getElem?_cons_succ, List.getElem?_cons_zero]; rfl) (by rfl) ?_)
              | (refine seq_calc (by simp only [List.getElem?_toArray, List.getElem?_cons_succ, List.getElem?_cons_zero]; rfl) (by rfl) (fun u => by go_simp <;> with_reducible rfl) ?_)
            try simp only [Act.put, List.setIfInBounds_toArray, List.set_cons_zero, List.set_cons_succ]
            first
              | (refine seq_skip (by simp only [List.getElem?_toArray, List.getElem?_cons_succ, List.getElem?_cons_zero]; rfl) (by rfl) ?_)
              | (refine seq_load1 (by simp only [List.getElem?_toArray, List.getElem?_cons_succ, List.getElem?_cons_zero]; rfl) (by rfl) rfl rfl Tryd.underlying22 rfl (by go_simp <;> with_reducible rfl) (by first | exact id | assumption | (simp; done) | (simp; omega)) ?_)
            try simp only [Act.put, List.setIfInBounds_toArray, List.set_cons_zero, List.set_cons_succ]
            first
              | (refine seq_skip (by simp only [List.getElem?_toArray, List.getElem?_cons_succ, List.getElem?_cons_zero]; rfl) (by rfl) ?_)
              | (refine seq_calc (by simp only [List.getElem?_toArray, List.getElem?_cons_succ, List.getElem?_cons_zero]; rfl) (by rfl) (fun u => by go_simp <;> with_reducible rfl) ?_)
            try simp only [Act.put, List.setIfInBounds_toArray, List.set_cons_zero, List.set_cons_succ]
            first
              | (refine seq_skip (by simp only [List.getElem?_toArray, List.getElem?_cons_succ, List.getElem?_cons_zero]; rfl) (by rfl) ?_)
              | (refine seq_load1 (by simp only [List.getElem?_toArray, List.getElem?_cons_succ, List.getElem?_cons_zero]; rfl) (by rfl) rfl rfl Tryd.underlying3 rfl (by go_simp <;> with_reducible rfl) (by first | exact id | assumption | (simp; done) | (simp; omega)) ?_)
            try simp only [Act.put, List.setIfInBounds_toArray, List.set_cons_zero, List.set_cons_succ]
            first
              | (refine seq_skip (by simp only [List.getElem?_toArray, List.getElem?_cons_succ, List.getElem?_cons_zero]; rfl) (by rfl) ?_)
              | (refine seq_do (by simp only [List.getElem?_toArray, List.getElem?_cons_succ, List.getElem?_cons_zero]; rfl) (by rfl) (fun K hK => ?_); go_wp2_with (fail); refine hK.out _ _ (by first | (with_reducible exact Chg.refl _ _) | (with_reducible assumption) | (refine Chg.of_below ?_; with_reducible assumption) | (with_reducible exact (Chg.refl _ _).alloc _) | (with_reducible exact (Chg.refl _ _).drewN _) | (with_reducible exact (Chg.refl _ _).drew) | exact ⟨rfl, rfl, rfl, Nat.le_refl _, fun _ _ _ => rfl⟩) ?_; clear hK K)
            try simp only [Act.put, List.setIfInBounds_toArray, List.set_cons_zero, List.set_cons_succ]
            first
              | (refine seq_skip (by simp only [List.getElem?_toArray, List.getElem?_cons_succ, List.getElem?_cons_zero]; rfl) (by rfl) ?_)
              | (refine seq_calc (by simp only [List.getElem?_toArray, List.getElem?_cons_succ, List.getElem?_cons_zero]; rfl) (by rfl) (fun u => by go_simp <;> with_reducible rfl) ?_)
            try simp only [Act.put, List.setIfInBounds_toArray, List.set_cons_zero, List.set_cons_succ]
            first
              | (refine seq_skip (by simp only [List.getElem?_toArray, List.getElem?_cons_succ, List.getElem?_cons_zero]; rfl) (by rfl) ?_)
              | (refine seq_calc (by simp only [List.getElem?_toArray, List.getElem?_cons_succ, List.getElem?_cons_zero]; rfl) (by rfl) (fun u => by go_simp <;> with_reducible rfl) ?_)
            try simp only [Act.put, List.setIfInBounds_toArray, List.set_cons_zero, List.set_cons_succ]
            first
              | (refine seq_skip (by simp only [List.getElem?_toArray, List.getElem?_cons_succ, List.getElem?_cons_zero]; rfl) (by rfl) ?_)
              | (refine seq_calc (by simp only [List.getElem?_toArray, List.getElem?_cons_succ, List.getElem?_cons_zero]; rfl) (by rfl) (fun u => by go_simp <;> with_reducible rfl) ?_)
            try simp only [Act.put, List.setIfInBounds_toArray, List.set_cons_zero, List.set_cons_succ]
            first
              | (refine seq_skip (by simp only [List.getElem?_toArray, List.getElem?_cons_succ, List.getElem?_cons_zero]; rfl) (by rfl) ?_)
              | (refine seq_calc (by simp only [List.getElem?_toArray, List.getElem?_cons_succ, List.getElem?_cons_zero]; rfl) (by rfl) (fun u => by go_simp <;> with_reducible rfl) ?_)
            try simp only [Act.put, List.setIfInBounds_toArray, List.set_cons_zero, List.set_cons_succ]
            first
              | (refine seq_skip (by simp only [List.getElem?_toArray, List.getElem?_cons_succ, List.getElem?_cons_zero]; rfl) (by rfl) ?_)
              | (refine seq_calc (by simp only [List.getElem?_toArray, List.getElem?_cons_succ, List.getElem?_cons_zero]; rfl) (by rfl) (fun u => by go_simp <;> with_reducible rfl) ?_)
            try simp only [Act.put, List.setIfInBounds_toArray, List.set_cons_zero, List.set_cons_succ]
            first
              | (refine seq_skip (by simp only [List.getElem?_toArray, List.getElem?_cons_succ, List.getElem?_cons_zero]; rfl) (by rfl) ?_)
              | (refine seq_calc (by simp only [List.getElem?_toArray, List.getElem?_cons_succ, List.getElem?_cons_zero]; rfl) (by rfl) (fun u => by go_simp <;> with_reducible rfl) ?_)
            try simp only [Act.put, List.setIfInBounds_toArray, List.set_cons_zero, List.set_cons_succ]
            first
              | (refine seq_skip (by simp only [List.getElem?_toArray, List.getElem?_cons_succ, List.getElem?_cons_zero]; rfl) (by rfl) ?_)
              | (refine seq_calc (by simp only [List.getElem?_toArray, List.getElem?_cons_succ, List.getElem?_cons_zero]; rfl) (by rfl) (fun u => by go_simp <;> with_reducible rfl) ?_)
            try simp only [Act.put, List.setIfInBounds_toArray, List.set_cons_zero, List.set_cons_succ]
            first
              | (refine seq_skip (by simp only [List.getElem?_toArray, List.getElem?_cons_succ, List.getElem?_cons_zero]; rfl) (by rfl) ?_)
              | (refine seq_loads [_] (by simp only [List.getElem?_toArray, List.getElem?_cons_succ, List.getElem?_cons_zero]; rfl) (by rfl) rfl rfl Tryd.underlying67 rfl (by kernel_rfl) (by first | (with_reducible assumption) | (refine cellsAre_range ?_; simp only [cellsAre]; (repeat' (first | exact True.intro | apply And.intro)); all_goals (go_simp <;> with_reducible rfl))) (by first | exact id | assumption | (simp; done) | (simp; omega)) ?_)
            try simp only [Act.put, List.setIfInBounds_toArray, List.set_cons_zero, List.set_cons_succ]
            first
              | (refine seq_skip (by simp only [List.getElem?_toArray, List.getElem?_cons_succ, List.getElem?_cons_zero]; rfl) (by rfl) ?_)
              | (refine seq_calc (by simp only [List.getElem?_toArray, List.getElem?_cons_succ, List.getElem?_cons_zero]; rfl) (by rfl) (fun u => by go_simp <;> with_reducible rfl) ?_)
            try simp only [Act.put, List.setIfInBounds_toArray, List.set_cons_zero, List.set_cons_succ]
            first
              | (refine seq_skip (by simp only [List.getElem?_toArray, List.getElem?_cons_succ, List.getElem?_cons_zero]; rfl) (by rfl) ?_)
              | (refine seq_calc (by simp only [List.getElem?_toArray, List.getElem?_cons_succ, List.getElem?_cons_zero]; rfl) (by rfl) (fun u => by go_simp <;> with_reducible rfl) ?_)
            try simp only [Act.put, List.setIfInBounds_toArray, List.set_cons_zero, List.set_cons_succ]
            first
              | (refine seq_skip (by simp only [List.getElem?_toArray, List.getElem?_cons_succ, List.getElem?_cons_zero]; rfl) (by rfl) ?_)
              | (refine seq_last (by simp only [List.getElem?_toArray, List.getElem?_cons_succ, List.getElem?_cons_zero]; rfl) (by rfl) (fun K hK => ?_); go_wp2_with (fail); refine hK.out _ _ ?_; clear hK K)
            try simp only [Act.put, List.setIfInBounds_toArray, List.set_cons_zero, List.set_cons_succ]
            first
              | (refine seq_skip (by simp only [List.getElem?_toArray, List.getElem?_cons_succ, List.getElem?_cons_zero]; rfl) (by rfl) ?_)
              | (refine seq_calc (by simp only [List.getElem?_toArray, List.getElem?_cons_succ, List.getElem?_cons_zero]; rfl) (by rfl) (fun u => by go_simp <;> with_reducible rfl) ?_)
            try simp only [Act.put, List.setIfInBounds_toArray, List.set_cons_zero, List.set_cons_succ]
            first
              | (refine seq_skip (by simp only [List.getElem?_toArray, List.getElem?_cons_succ, List.getElem?_cons_zero]; rfl) (by rfl) ?_)
              | (refine seq_calc (by simp only [List.getElem?_toArray, List.getElem?_cons_succ, List.getElem?_cons_zero]; rfl) (by rfl) (fun u => by go_simp <;> with_reducible rfl) ?_)
            try simp only [Act.put, List.setIfInBounds_toArray, List.set_cons_zero, List.set_cons_succ]
            first
              | (refine seq_skip (by simp only [List.getElem?_toArray, List.getElem?_cons_succ, List.getElem?_cons_zero]; rfl) (by rfl) ?_)
              | (refine seq_calc (by simp only [List.getElem?_toArray, List.getElem?_cons_succ, List.getElem?_cons_zero]; rfl) (by rfl) (fun u => by go_simp <;> with_reducible rfl) ?_)
            try simp only [Act.put, List.setIfInBounds_toArray, List.set_cons_zero, List.set_cons_succ]
            refine seq_calc (by simp only [List.getElem?_toArray, List.getElem?_cons_succ, List.getElem?_cons_zero]; rfl) (by rfl) (fun u => by go_simp <;> with_reducible rfl) ?_
            try simp only [Act.put, List.setIfInBounds_toArray, List.set_cons_zero, List.set_cons_succ]
            refine seq_nil ?_
            go_wp2
            go_meet
            exact ⟨m, s, A2.out.below (Below.refl _ _).drew, hoP.out⟩
        have n2' : (q == 2) = false := by simpa using q2
        have HN := Lib.hid hA
        have hoP := Lib.hid (fun hb : bo = false => HBO.out.symm.trans hb)
        clear hA
        by_cases q3 : q = 3
        · subst q3
          go_wp2
          go_roundw
          case rel => exact ⟨k + 1, _, _, _, by omega, by go_num, HN.out.good, HN.out.g, HN.out.me, HN.out.bel⟩
          case measure => simp [intOf]; omega
        · have n3' : (q == 3) = false := by simpa using q3
          go_wp2
          go_meet
          exact ⟨m, s, HN.out, hoP.out⟩
      case rest =>
        clear hA c0
        obtain ⟨m, s, hA, hop⟩ := hcut
        have OP := Lib.hid (fun (w' : World) hg' => gopen_any G 0 m s hA.good.1 w' hg')
        have v0 := hA.view.cell 0
        have zV := hA.view.lt
        have HA := Lib.hid hA
        clear hA
        cases bo with
        | true =>
          have HN := HA
          go_wp2
          go_roundw
          case rel => exact ⟨k + 1, _, _, _, by omega, by go_num, HN.out.good, HN.out.g, HN.out.me, HN.out.bel⟩
          case measure => simp [intOf]; omega
        | false =>
          rw [hop rfl] at OP
          go_wp2_with (go_at_call 39; refine (OP.out _ HA.out.g).mono ?_; rintro e w1 ⟨rfl, hb1⟩; have HN := Lib.hid (HA.out.below hb1))
          go_roundw
          case rel => exact ⟨k + 1, _, _, _, by omega, by go_num, HN.out.good, HN.out.g, HN.out.me, HN.out.bel⟩
          case measure => simp [intOf]; omega
    · obtain rfl : k = n0 := by omega
      have HB := Lib.hid hB
      clear hg hme hB
      go_wp2
      go_ret
      exact ⟨rfl, HB.out⟩
end Go.Proofs.YtcmjddkljmfklaaDoor
