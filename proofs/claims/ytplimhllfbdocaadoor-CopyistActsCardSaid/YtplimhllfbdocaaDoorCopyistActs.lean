/- The walk of CopyistActs. Condition: the errors' cells. -/
import Derived.Test.YtplimhllfbdocaaDoorCopyistKeeps
namespace Go.Proofs.YtplimhllfbdocaaDoor
set_option linter.unusedVariables false
set_option linter.unusedSimpArgs false
open Go.RowKit Go.Proofs
attribute [local go_sem] neq_nilC

theorem readsInts_row {w : World} {v : Value} {n : Nat} {f : Nat → Nat → Int} (h : RowsAt w v n 1 .i64 f) : ReadsInts w v ((List.range n).map fun i => f i 0) := by
  obtain ⟨⟨a, cap, rfl, hx⟩, -, -⟩ := h
  refine ⟨a, cap, by simp, fun hne => ?_⟩
  have hn : n ≠ 0 := by intro e; subst e; exact hne rfl
  obtain ⟨b, off, rfl, hc⟩ := hx hn
  refine ⟨b, off, rfl, fun i hi => ?_⟩
  have hi' : i < n := by simpa using hi
  simpa using hc i hi' 0 (by decide)
theorem rstep_any (K M Z d : Nat) (es : List Int) (nx : Nat) (tk : Bool) (w : World) (h : RC w K M Z d es nx tk) :
    Calls Tryd.prog 63 #[.pointer (some ⟨K, 0, none⟩)] w fun e w' => e = .returned (.bool (decide (nx < es.length))) ∧ RC w' K M Z d es (nxtC nx es.length) tk ∧ Chg (fun b => b = K) w w' := by
  unfold nxtC
  by_cases hn : nx < es.length
  · rw [if_pos hn, decide_eq_true hn]
    exact rstep_ok K M Z d es nx tk hn w h
  · obtain rfl : nx = es.length := by have := h.le; omega
    rw [if_neg hn, decide_eq_false hn]
    refine (rstep_end K M Z d es tk w h).mono ?_
    rintro e w' ⟨rfl, hb⟩
    exact ⟨rfl, h.below hb, Chg.of_below hb⟩
set_option maxRecDepth 100000 in
set_option maxHeartbeats 16000000 in
theorem acts_ok (d : Nat) (hd : d ≤ 4) (v v2 : Value) (n1 n2 : Nat) (h1 : n1 ≤ 40) (h2 : n2 ≤ 100) (g f : Nat → Nat → Int) (E : Nat → Addr) (w0 : World) (he : ErrsAre w0 E) (r1 : RowsAt w0 v n1 1 .i64 g) (r2 : RowsAt w0 v2 n2 4 .i64 f) :
    Calls Tryd.prog 10 #[.int .i64 (d : Int), v, v2] w0 fun e w' => e = .returned (.bool true) ∧ Below w0.heap.size w0 w' := by
  have BG := Lib.hid (fun (w : World) (hb : Below w0.heap.size w0 w) => begun_ok d hd v ((List.range n1).map fun i => g i 0) (by simpa using h1) E w ((readsInts_row r1).later hb) ((he.below hb).ec.sub (by decide)))
  unfold BegunC at BG
  obtain ⟨a, cap, rfl, -⟩ := r1.cellAt (by decide)
  obtain ⟨a2, cap2, rfl, hx2⟩ := r2.cellAt (by decide)
  have HE := Lib.hid he
  have HX := Lib.hid hx2
  clear r1 r2 he hx2
  have AL := Lib.hid alive17_any
  have hd5 : ((d : Int) == 5) = false := by simp; omega
  go_enter Tryd.func10, Tryd.ntmps10
  go_wp2_with (first
    | (go_at_call 50; refine (AL.out _).mono ?_; rintro e w1 ⟨rfl, hb1⟩)
    | (go_at_call 51; refine (BG.out _ hb1).mono ?_; rintro e w2 ⟨C, B, R, F, S, Kb, M, Z, es0, rfl, hC, hR, g1, g2, g3, g4, g5, hb2⟩; have HC0 := Lib.hid hC; have HR0 := Lib.hid hR; clear hC hR))
  have z1 := hb1.size
  have z2 := hb2.size
  have lC := HC0.out.head.lt
  have lB := HC0.out.old.head.lt
  have lR := HC0.out.old.ring.lt
  have lF := HC0.out.fresh.head.lt
  have lS := HC0.out.fresh.ring.lt
  have lK := HR0.out.head.lt
  have lM := HR0.out.old.head.lt
  have lZ := HR0.out.old.ring.lt
  obtain ⟨G, hG⟩ : ∃ G, G = w2.heap.size := ⟨_, rfl⟩
  have HG := Lib.hid (show Blk (w2.alloc (.cells (unitM 0).cells 64)) G 64 (unitM 0).cells by rw [hG]; exact Blk.new _ _ _)
  have HC := Lib.hid (HC0.out.below ((Below.refl _ w2).alloc (Nat.le_refl _) (.cells (unitM 0).cells 64)))
  have HR := Lib.hid (HR0.out.below ((Below.refl _ w2).alloc (Nat.le_refl _) (.cells (unitM 0).cells 64)))
  have HB := Lib.hid (show Below w0.heap.size w0 (w2.alloc (.cells (unitM 0).cells 64)) from (hb1.trans (hb2.mono z1)).alloc (by omega) _)
  have hGn : G ≠ C ∧ G ≠ B ∧ G ≠ R ∧ G ≠ F ∧ G ≠ S := by omega
  have hGr : G ≠ Kb ∧ G ≠ M ∧ G ≠ Z := by omega
  have hG0 : w0.heap.size ≤ G ∧ w0.heap.size ≤ C ∧ w0.heap.size ≤ R ∧ w0.heap.size ≤ S ∧ w0.heap.size ≤ Kb ∧ w0.heap.size ≤ Z := by omega
  have HGn := Lib.hid hGn
  have HGr := Lib.hid hGr
  have HG0 := Lib.hid hG0
  have K1 := Lib.hid g3
  have K2 := Lib.hid g4
  have K3 := Lib.hid g5
  rw [← hG]
  clear hG hb1 hb2 HC0 HR0 z1 z2 lC lB lR lF lS lK lM lZ hGn hGr hG0 g1 g2 g3 g4 g5
  go_loopw [68] (fun v68 wr => ∃ (k : Nat) (es : List Int) (nx : Nat), k ≤ n2 ∧ v68 = .int .i64 (k : Int) ∧ CW wr C B R F S d es nx false ∧ RC wr Kb M Z d es nx false ∧ Blk wr G 64 (unitM nx).cells ∧ Below w0.heap.size w0 wr) (fun v68 _ => n2 - (intOf v68).toNat)
  case atStart => exact ⟨0, es0, 0, Nat.zero_le _, rfl, HC.out, HR.out, HG.out, HB.out⟩
  case round =>
    clear HC HG HB HR
    obtain ⟨k, es, nx, hk, rfl, hC, hR, hM, hBW⟩ := hrel
    have HC := Lib.hid hC
    have HR := Lib.hid hR
    have HM := Lib.hid hM
    have lG := hM.lt
    have hpos := hC.old.pos
    have hle := hC.le
    clear hC hM hR
    by_cases hlt : k < n2
    · obtain ⟨b, off, rfl, hbz, hcells⟩ := HX.out (by omega)
      have c0 : wr.cell? ⟨b, off + k * 4, none⟩ = some (.int .i64 (f k 0)) := by simpa using hcells wr hBW k hlt 0 (by decide)
      have c1 : wr.cell? ⟨b, off + k * 4 + 1, none⟩ = some (.int .i64 (f k 1)) := by simpa [Nat.add_assoc] using hcells wr hBW k hlt 1 (by decide)
      have c2 : wr.cell? ⟨b, off + k * 4 + 2, none⟩ = some (.int .i64 (f k 2)) := by simpa [Nat.add_assoc] using hcells wr hBW k hlt 2 (by decide)
      have c3 : wr.cell? ⟨b, off + k * 4 + 3, none⟩ = some (.int .i64 (f k 3)) := by simpa [Nat.add_assoc] using hcells wr hBW k hlt 3 (by decide)
      generalize f k 0 = q at c0
      generalize f k 1 = p at c1
      generalize f k 2 = dd at c2
      generalize f k 3 = x at c3
      clear hcells
      have hal : Below wr.heap.size wr (wr.alloc (.cells #[.int .i64 q, .int .i64 p, .int .i64 dd, .int .i64 x] 90)) := (Below.refl _ _).alloc (Nat.le_refl _) _
      have hBA := Lib.hid (hBW.alloc hBW.size (.cells #[.int .i64 q, .int .i64 p, .int .i64 dd, .int .i64 x] 90))
      have hAct := Lib.hid (show Blk (wr.alloc (.cells #[.int .i64 q, .int .i64 p, .int .i64 dd, .int .i64 x] 90)) wr.heap.size 90 #[.int .i64 q, .int .i64 p, .int .i64 dd, .int .i64 x] from Blk.new _ _ _)
      have hCA := Lib.hid (HC.out.below hal)
      have hRA := Lib.hid (HR.out.below hal)
      have hMA := Lib.hid (HM.out.below hal lG)
      have lAct : wr.heap.size ≠ R ∧ wr.heap.size ≠ S := by have := HC.out.old.ring.lt; have := HC.out.fresh.ring.lt; omega
      clear hal
      by_cases hq : q = 0
      · subst hq
        have hn2 := csetN_le d p dd x nx (by omega) (by omega)
        have ST := Lib.hid (cset_any C B R F S d p dd x es nx false E _ hCA.out ((HE.out.below hBA.out).ec.sub (by decide)))
        have RT := Lib.hid (fun w' h => rcset_any Kb M Z d p dd x es nx false w' h)
        have hse := setErr_le d p dd x
        generalize csetN d p dd x nx = nn at *
        generalize setErr d p dd x = ee at *
        generalize setE d es p dd x = es' at *
        have hnn : ((nn : Int) != (nn : Int)) = false := by simp
        have hee : ((ee : Int) != (ee : Int)) = false := by simp
        go_upto_region 33 with (first
          | (go_at_call 52; refine ST.out.mono ?_; rintro e w3 ⟨rfl, h3, d3⟩; have H3 := Lib.hid h3; have A3 := Lib.hid (hAct.out.chg d3 (by omega)); have a1 := A3.out.cell 1; have a2 := A3.out.cell 2; have a3 := A3.out.cell 3; have R3 := Lib.hid (hRA.out.chg d3 (by have := K1.out; omega) (by have := K2.out; omega) (by have := K3.out; omega)); have M3 := Lib.hid (hMA.out.chg d3 (by have := HGn.out; omega)); have B3 := Lib.hid (hBA.out.trans (d3.below (n := w0.heap.size) hBA.out.size (fun k hk e => by have := HG0.out; omega))); clear h3)
          | (go_at_call 59; refine (RT.out _ R3.out).mono ?_; rintro e w4 ⟨rfl, h4, d4⟩; have R4 := Lib.hid h4; have H4 := Lib.hid (H3.out.chg d4 (by have := K3.out; omega) (by have := K3.out; omega) (by have := K3.out; omega) (by have := K3.out; omega) (by have := K3.out; omega)); have M4 := Lib.hid (M3.out.chg d4 (by have := HGr.out; omega)); have B4 := Lib.hid (B3.out.trans (d4.below (n := w0.heap.size) B3.out.size (fun k hk e => by have := HG0.out; omega))); clear h4)
          | (go_at_call 20; refine (num_any E ee hse _ (HE.out.below B4.out)).mono ?_; rintro e w5 ⟨rfl, hb5⟩; have HCt := Lib.hid (H4.out.below hb5); have HRt := Lib.hid (R4.out.below hb5); have HMt := Lib.hid (M4.out.below hb5 M4.out.lt); have HBt := Lib.hid (B4.out.trans (hb5.mono B4.out.size))))
        clear hnn hee hn2 hle hpos
        refine wp_at (fun w hW => ?_)
        rw [← hW] at HCt HRt HMt HBt
        clear hW
        have hles := HCt.out.le
        have hpes := HCt.out.old.pos
        obtain ⟨hk, -⟩ := rHead_cells HRt.out.head
        obtain ⟨hm0, hm1⟩ := rdHead_cells HRt.out.old
        have hzK := HRt.out.head.lt
        have hzM := HRt.out.old.head.lt
        have LF := Lib.hid (fun w' (hb : Below w.heap.size w w') => cleft_any C B R F S d es' nx false w' (HCt.out.below hb))
        have MA := Lib.hid (fun w' (hb : Below w.heap.size w w') => meterAll_any (unitM nx) G 64 w' (HMt.out.below hb HMt.out.lt))
        have hw : IntKind.i64.wrap (((es').length : Int) - ((nx : Nat) : Int)) = (((es').length - nx : Nat) : Int) := by rw [IntWalk.i64_in _ (by omega)]; omega
        have hqq : ((((es').length - nx : Nat) : Int) != (((es').length - nx : Nat) : Int)) = false := by simp
        generalize (es').length - nx = lq at *
        generalize (es').length = ln at hm1 hw
        refine wp_region_seq (fun _ => False) #[⟨0, 0, 1496577676626844588240573268701473812127674924007424, 128, 0⟩, ⟨1, 1, 2993155353253689176481146537402947624255349848014848, 1496577676626844588240573268701473812127674924007424, 2⟩, ⟨0, 0, 5986310706507378352962293074805895248510699696029696, 256, 0⟩, ⟨4, 4, 11972621413014756705924586149611790497021399392059392, 5986310706507378352962293074805895248510699696029696, 0⟩, ⟨8, 12, 23945242826029513411849172299223580994042798784118784, 11972621413014756705924586149611790497021399392059392, 0⟩, ⟨16, 28, 47890485652059026823698344598447161988085597568237568, 23945242826029513411849172299223580994042798784118784, 1⟩, ⟨32, 60, 95780971304118053647396689196894323976171195136475136, 47890485652059026823698344598447161988085597568237568, 0⟩, ⟨64, 124, 191561942608236107294793378393788647952342390272950272, 95780971304118053647396689196894323976171195136475136, 0⟩, ⟨128, 252, 383123885216472214589586756787577295904684780545900544, 191561942608236107294793378393788647952342390272950272, 1⟩, ⟨256, 508, 766247770432944429179173513575154591809369561091801088, 383123885216472214589586756787577295904684780545900544, 0⟩, ⟨0, 0, 1532495540865888858358347027150309183618739122183602176, 256, 0⟩, ⟨1024, 1024, 3064991081731777716716694054300618367237478244367204352, 1532495540865888858358347027150309183618739122183602176, 0⟩, ⟨2048, 3072, 6129982163463555433433388108601236734474956488734408704, 3064991081731777716716694054300618367237478244367204352, 0⟩, ⟨4096, 7168, 12259964326927110866866776217202473468949912977468817408, 6129982163463555433433388108601236734474956488734408704, 1⟩, ⟨8704, 16380, 24519928653854221733733552434404946937899825954937634816, 13026212097360055296045949730777628060759282538560618496, 0⟩, ⟨16386, 32767, 49039857307708443467467104868809893875799651909875269632, 24522921809207475422910033580942349885524081304785649664, 0⟩, ⟨32770, 65535, 98079714615416886934934209737619787751599303819750539264, 49039857307708443467467104868809893875799651909875269632, 0⟩, ⟨65536, 131071, 196159429230833773869868419475239575503198607639501078528, 98079714615416886934934209737619787751599303819750540288, 0⟩, ⟨196608, 262143, 392318858461667547739736838950479151006397215279002157056, 294239143846250660804802629212859363254797911459251617792, 2⟩, ⟨65536, 131071, 784637716923335095479473677900958302012794430558004314112, 98079714615416886934934209737619787751599303819750539520, 0⟩, ⟨589824, 655359, 1569275433846670190958947355801916604025588861116008628224, 882717431538751982414407887638578089764393734377754853376, 0⟩, ⟨1114112, 1703935, 3138550867693340381917894711603833208051177722232017256448, 1667355148462087077893881565539536391777188164935759167488, 0⟩, ⟨2162688, 3801087, 6277101735386680763835789423207666416102355444464034512896, 3236630582308757268852828921341452995802777026051767795712, 1⟩, ⟨4259840, 7995391, 12554203470773361527671578846415332832204710888928069025792, 6375181450002097650770723632945286203853954748283785052160, 0⟩, ⟨8716288, 16777215, 25108406941546723055343157692830665664409421777856138051584, 13044602043850445962346249895103431770962707408026821722112, 0⟩, ⟨16842752, 33554431, 50216813883093446110686315385661331328818843555712276103168, 25206486656162139942278091902568285452161021081675888590848, 0⟩] 4202784 [(0, 0), (2, 0), (3, 0), (4, 0), (5, 1), (6, 0), (7, 0), (8, 1), (9, 0), (10, 0), (11, 0), (12, 0), (13, 1), (14, 0), (1, 2), (15, 0), (16, 0), (17, 0), (19, 0), (20, 0), (21, 0), (22, 1), (23, 0), (18, 2), (24, 0), (25, 0)] (by kernel_rfl) (by kernel_rfl) (by kernel_rfl) (by kernel_rfl) (by kernel_rfl) (by kernel_rfl) (fun c a d v w h => by cases d <;> exact h) ?_
        refine seq_calc (by simp only [List.getElem?_toArray, List.getElem?_cons_succ, List.getElem?_cons_zero]; rfl) (by rfl) (fun u => by go_simp <;> with_reducible rfl) ?_
        try simp only [Act.put, List.setIfInBounds_toArray, List.set_cons_zero, List.set_cons_succ]
        refine seq_calc (by simp only [List.getElem?_toArray, List.getElem?_cons_succ, List.getElem?_cons_zero]; rfl) (by rfl) (fun u => by go_simp <;> with_reducible rfl) ?_
        try simp only [Act.put, List.setIfInBounds_toArray, List.set_cons_zero, List.set_cons_succ]
        refine seq_calc (by simp only [List.getElem?_toArray, List.getElem?_cons_succ, List.getElem?_cons_zero]; rfl) (by rfl) (fun u => by go_simp <;> with_reducible rfl) ?_
        try simp only [Act.put, List.setIfInBounds_toArray, List.set_cons_zero, List.set_cons_succ]
        refine seq_calc (by simp only [List.getElem?_toArray, List.getElem?_cons_succ, List.getElem?_cons_zero]; rfl) (by rfl) (fun u => by go_simp <;> with_reducible rfl) ?_
        try simp only [Act.put, List.setIfInBounds_toArray, List.set_cons_zero, List.set_cons_succ]
        refine seq_load1 (by simp only [List.getElem?_toArray, List.getElem?_cons_succ, List.getElem?_cons_zero]; rfl) (by rfl) rfl rfl Tryd.underlying100 rfl (by go_simp <;> with_reducible rfl) (by first | exact id | assumption | (simp; done) | (simp; omega)) ?_
        try simp only [Act.put, List.setIfInBounds_toArray, List.set_cons_zero, List.set_cons_succ]
        refine seq_calc (by simp only [List.getElem?_toArray, List.getElem?_cons_succ, List.getElem?_cons_zero]; rfl) (by rfl) (fun u => by go_simp <;> with_reducible rfl) ?_
        try simp only [Act.put, List.setIfInBounds_toArray, List.set_cons_zero, List.set_cons_succ]
        refine seq_calc (by simp only [List.getElem?_toArray, List.getElem?_cons_succ, List.getElem?_cons_zero]; rfl) (by rfl) (fun u => by go_simp <;> with_reducible rfl) ?_
        try simp only [Act.put, List.setIfInBounds_toArray, List.set_cons_zero, List.set_cons_succ]
        refine seq_load1 (by simp only [List.getElem?_toArray, List.getElem?_cons_succ, List.getElem?_cons_zero]; rfl) (by rfl) rfl rfl Tryd.underlying52 rfl (by go_simp <;> with_reducible rfl) (by first | exact id | assumption | (simp; done) | (simp; omega)) ?_
        try simp only [Act.put, List.setIfInBounds_toArray, List.set_cons_zero, List.set_cons_succ]
        refine seq_calc (by simp only [List.getElem?_toArray, List.getElem?_cons_succ, List.getElem?_cons_zero]; rfl) (by rfl) (fun u => by go_simp <;> with_reducible rfl) ?_
        try simp only [Act.put, List.setIfInBounds_toArray, List.set_cons_zero, List.set_cons_succ]
        refine seq_calc (by simp only [List.getElem?_toArray, List.getElem?_cons_succ, List.getElem?_cons_zero]; rfl) (by rfl) (fun u => by go_simp <;> with_reducible rfl) ?_
        try simp only [Act.put, List.setIfInBounds_toArray, List.set_cons_zero, List.set_cons_succ]
        refine seq_calc (by simp only [List.getElem?_toArray, List.getElem?_cons_succ, List.getElem?_cons_zero]; rfl) (by rfl) (fun u => by go_simp <;> with_reducible rfl) ?_
        try simp only [Act.put, List.setIfInBounds_toArray, List.set_cons_zero, List.set_cons_succ]
        refine seq_calc (by simp only [List.getElem?_toArray, List.getElem?_cons_succ, List.getElem?_cons_zero]; rfl) (by rfl) (fun u => by go_simp <;> with_reducible rfl) ?_
        try simp only [Act.put, List.setIfInBounds_toArray, List.set_cons_zero, List.set_cons_succ]
        refine seq_load1 (by simp only [List.getElem?_toArray, List.getElem?_cons_succ, List.getElem?_cons_zero]; rfl) (by rfl) rfl rfl Tryd.underlying3 rfl (by go_simp <;> with_reducible rfl) (by first | exact id | assumption | (simp; done) | (simp; omega)) ?_
        try simp only [Act.put, List.setIfInBounds_toArray, List.set_cons_zero, List.set_cons_succ]
        refine seq_calc (by simp only [List.getElem?_toArray, List.getElem?_cons_succ, List.getElem?_cons_zero]; rfl) (by rfl) (fun u => by go_simp <;> with_reducible rfl) ?_
        try simp only [Act.put, List.setIfInBounds_toArray, List.set_cons_zero, List.set_cons_succ]
        refine seq_do (by simp only [List.getElem?_toArray, List.getElem?_cons_succ, List.getElem?_cons_zero]; rfl) (by rfl) (fun K hK => ?_); go_wp2_with (first | (go_at_call 58; refine (LF.out _ (by go_grown)).mono ?_; rintro e w1 ⟨rfl, hb1⟩; have hB1 : Below w.heap.size w w1 := (by first | exact hB1.trans (hb1.mono hB1.size) | exact hB1.trans (Below.undrew (hb1.mono hB1.size)) | exact hb1 | exact Below.trans (by go_grown) (hb1.mono (by simp <;> omega))); have hcKb := fun (o : Nat) => hb1.cell (p := ⟨Kb, o, none⟩) (by first | assumption | (simp <;> omega)); have hfKb := fun (o : Nat) => hb1.frozen (p := ⟨Kb, o, none⟩) (by first | assumption | (simp <;> omega)); have hzKb : Kb < w1.heap.size := Nat.lt_of_lt_of_le (by first | assumption | (simp <;> omega)) hb1.size; have hcM := fun (o : Nat) => hb1.cell (p := ⟨M, o, none⟩) (by first | assumption | (simp <;> omega)); have hfM := fun (o : Nat) => hb1.frozen (p := ⟨M, o, none⟩) (by first | assumption | (simp <;> omega)); have hzM : M < w1.heap.size := Nat.lt_of_lt_of_le (by first | assumption | (simp <;> omega)) hb1.size) | (go_at_call 45; refine (MA.out _ hB1).mono ?_; simp only [unitM]; rintro e w1 ⟨rfl, hb1⟩; have hB1 : Below w.heap.size w w1 := (by first | exact hB1.trans (hb1.mono hB1.size) | exact hB1.trans (Below.undrew (hb1.mono hB1.size)) | exact hb1 | exact Below.trans (by go_grown) (hb1.mono (by simp <;> omega))); have hcKb := fun (o : Nat) => hb1.cell (p := ⟨Kb, o, none⟩) (by first | assumption | (simp <;> omega)); have hfKb := fun (o : Nat) => hb1.frozen (p := ⟨Kb, o, none⟩) (by first | assumption | (simp <;> omega)); have hzKb : Kb < w1.heap.size := Nat.lt_of_lt_of_le (by first | assumption | (simp <;> omega)) hb1.size; have hcM := fun (o : Nat) => hb1.cell (p := ⟨M, o, none⟩) (by first | assumption | (simp <;> omega)); have hfM := fun (o : Nat) => hb1.frozen (p := ⟨M, o, none⟩) (by first | assumption | (simp <;> omega)); have hzM : M < w1.heap.size := Nat.lt_of_lt_of_le (by first | assumption | (simp <;> omega)) hb1.size)); refine hK.out _ _ (by first | (with_reducible exact Chg.refl _ _) | (with_reducible assumption) | (refine Chg.of_below ?_; with_reducible assumption) | (with_reducible exact (Chg.refl _ _).alloc _) | (with_reducible exact (Chg.refl _ _).drewN _) | (with_reducible exact (Chg.refl _ _).drew) | exact ⟨rfl, rfl, rfl, Nat.le_refl _, fun _ _ _ => rfl⟩) ?_; clear hK K
        try simp only [Act.put, List.setIfInBounds_toArray, List.set_cons_zero, List.set_cons_succ]
        refine seq_calc (by simp only [List.getElem?_toArray, List.getElem?_cons_succ, List.getElem?_cons_zero]; rfl) (by rfl) (fun u => by go_simp <;> with_reducible rfl) ?_
        try simp only [Act.put, List.setIfInBounds_toArray, List.set_cons_zero, List.set_cons_succ]
        refine seq_calc (by simp only [List.getElem?_toArray, List.getElem?_cons_succ, List.getElem?_cons_zero]; rfl) (by rfl) (fun u => by go_simp <;> with_reducible rfl) ?_
        try simp only [Act.put, List.setIfInBounds_toArray, List.set_cons_zero, List.set_cons_succ]
        first
          | (refine seq_skip (by simp only [List.getElem?_toArray, List.getElem?_cons_succ, List.getElem?_cons_zero]; rfl) (by rfl) ?_)
          | (refine seq_calc (by simp only [List.getElem?_toArray, List.getElem?_cons_succ, List.getElem?_cons_zero]; rfl) (by rfl) (fun u => by go_simp <;> with_reducible rfl) ?_)
        try simp only [Act.put, List.setIfInBounds_toArray, List.set_cons_zero, List.set_cons_succ]
        first
          | (refine seq_skip (by simp only [List.getElem?_toArray, List.getElem?_cons_succ, List.getElem?_cons_zero]; rfl) (by rfl) ?_)
          | (refine seq_calc (by simp only [List.getElem?_toArray, List.getElem?_cons_succ, List.getElem?_cons_zero]; rfl) (by rfl) (fun u => by go_simp <;> with_reducible rfl) ?_)
        try simp only [Act.put, List.setIfInBounds_toArray, List.set_cons_zero, List.set_cons_succ]
        first
          | (refine seq_skip (by simp only [List.getElem?_toArray, List.getElem?_cons_succ, List.getElem?_cons_zero]; rfl) (by rfl) ?_)
          | (refine seq_calc (by simp only [List.getElem?_toArray, List.getElem?_cons_succ, List.getElem?_cons_zero]; rfl) (by rfl) (fun u => by go_simp <;> with_reducible rfl) ?_)
        try simp only [Act.put, List.setIfInBounds_toArray, List.set_cons_zero, List.set_cons_succ]
        first
          | (refine seq_skip (by simp only [List.getElem?_toArray, List.getElem?_cons_succ, List.getElem?_cons_zero]; rfl) (by rfl) ?_)
          | (refine seq_calc (by simp only [List.getElem?_toArray, List.getElem?_cons_succ, List.getElem?_cons_zero]; rfl) (by rfl) (fun u => by go_simp <;> with_reducible rfl) ?_)
        try simp only [Act.put, List.setIfInBounds_toArray, List.set_cons_zero, List.set_cons_succ]
        first
          | (refine seq_skip (by simp only [List.getElem?_toArray, List.getElem?_cons_succ, List.getElem?_cons_zero]; rfl) (by rfl) ?_)
          | (refine seq_load1 (by simp only [List.getElem?_toArray, List.getElem?_cons_succ, List.getElem?_cons_zero]; rfl) (by rfl) rfl rfl Tryd.underlying3 rfl (by go_simp <;> with_reducible rfl) (by first | exact id | assumption | (simp; done) | (simp; omega)) ?_)
        try simp only [Act.put, List.setIfInBounds_toArray, List.set_cons_zero, List.set_cons_succ]
        first
          | (refine seq_skip (by simp only [List.getElem?_toArray, List.getElem?_cons_succ, List.getElem?_cons_zero]; rfl) (by rfl) ?_)
          | (refine seq_calc (by simp only [List.getElem?_toArray, List.getElem?_cons_succ, List.getElem?_cons_zero]; rfl) (by rfl) (fun u => by go_simp <;> with_reducible rfl) ?_)
        try simp only [Act.put, List.setIfInBounds_toArray, List.set_cons_zero, List.set_cons_succ]
        first
          | (refine seq_skip (by simp only [List.getElem?_toArray, List.getElem?_cons_succ, List.getElem?_cons_zero]; rfl) (by rfl) ?_)
          | (refine seq_do (by simp only [List.getElem?_toArray, List.getElem?_cons_succ, List.getElem?_cons_zero]; rfl) (by rfl) (fun K hK => ?_); go_wp2_with (first | (go_at_call 58; refine (LF.out _ (by go_grown)).mono ?_; rintro e w1 ⟨rfl, hb1⟩; have hB1 : Below w.heap.size w w1 := (by first | exact hB1.trans (hb1.mono hB1.size) | exact hB1.trans (Below.undrew (hb1.mono hB1.size)) | exact hb1 | exact Below.trans (by go_grown) (hb1.mono (by simp <;> omega))); have hcKb := fun (o : Nat) => hb1.cell (p := ⟨Kb, o, none⟩) (by first | assumption | (simp <;> omega)); have hfKb := fun (o : Nat) => hb1.frozen (p := ⟨Kb, o, none⟩) (by first | assumption | (simp <;> omega)); have hzKb : Kb < w1.heap.size := Nat.lt_of_lt_of_le (by first | assumption | (simp <;> omega)) hb1.size; have hcM := fun (o : Nat) => hb1.cell (p := ⟨M, o, none⟩) (by first | assumption | (simp <;> omega)); have hfM := fun (o : Nat) => hb1.frozen (p := ⟨M, o, none⟩) (by first | assumption | (simp <;> omega)); have hzM : M < w1.heap.size := Nat.lt_of_lt_of_le (by first | assumption | (simp <;> omega)) hb1.size) | (go_at_call 45; refine (MA.out _ hB1).mono ?_; simp only [unitM]; rintro e w1 ⟨rfl, hb1⟩; have hB1 : Below w.heap.size w w1 := (by first | exact hB1.trans (hb1.mono hB1.size) | exact hB1.trans (Below.undrew (hb1.mono hB1.size)) | exact hb1 | exact Below.trans (by go_grown) (hb1.mono (by simp <;> omega))); have hcKb := fun (o : Nat) => hb1.cell (p := ⟨Kb, o, none⟩) (by first | assumption | (simp <;> omega)); have hfKb := fun (o : Nat) => hb1.frozen (p := ⟨Kb, o, none⟩) (by first | assumption | (simp <;> omega)); have hzKb : Kb < w1.heap.size := Nat.lt_of_lt_of_le (by first | assumption | (simp <;> omega)) hb1.size; have hcM := fun (o : Nat) => hb1.cell (p := ⟨M, o, none⟩) (by first | assumption | (simp <;> omega)); have hfM := fun (o : Nat) => hb1.frozen (p := ⟨M, o, none⟩) (by first | assumption | (simp <;> omega)); have hzM : M < w1.heap.size := Nat.lt_of_lt_of_le (by first | assumption | (simp <;> omega)) hb1.size)); refine hK.out _ _ (by first | (with_reducible exact Chg.refl _ _) | (with_reducible assumption) | (refine Chg.of_below ?_; with_reducible assumption) | (with_reducible exact (Chg.refl _ _).alloc _) | (with_reducible exact (Chg.refl _ _).drewN _) | (with_reducible exact (Chg.refl _ _).drew) | exact ⟨rfl, rfl, rfl, Nat.le_refl _, fun _ _ _ => rfl⟩) ?_; clear hK K)
        try simp only [Act.put, List.setIfInBounds_toArray, List.set_cons_zero, List.set_cons_succ]
        first
          | (refine seq_skip (by simp only [List.getElem?_toArray, List.getElem?_cons_succ, List.getElem?_cons_zero]; rfl) (by rfl) ?_)
          | (refine seq_calc (by simp only [List.getElem?_toArray, List.getElem?_cons_succ, List.getElem?_cons_zero]; rfl) (by rfl) (fun u => by go_simp <;> with_reducible rfl) ?_)
        try simp only [Act.put, List.setIfInBounds_toArray, List.set_cons_zero, List.set_cons_succ]
        refine seq_calc (by simp only [List.getElem?_toArray, List.getElem?_cons_succ, List.getElem?_cons_zero]; rfl) (by rfl) (fun u => by go_simp <;> with_reducible rfl) ?_
        try simp only [Act.put, List.setIfInBounds_toArray, List.set_cons_zero, List.set_cons_succ]
        refine seq_nil ?_
        go_wp2
        go_roundw
        case rel => exact ⟨k + 1, es', nx, by omega, by go_num, HCt.out.below hB1, HRt.out.below hB1, HMt.out.below hB1 HMt.out.lt, HBt.out.trans (hB1.mono HBt.out.size)⟩
        case measure => simp [intOf]; omega
      by_cases hq1 : q = 1
      · subst hq1
        by_cases hn : nx < es.length
        · have TB := ctake_bad C B R F S d es nx false (.inl hn) E _ hCA.out ((HE.out.below hBA.out).ec.sub (by decide))
          have NU := Lib.hid (fun w' (hb : Below w0.heap.size w0 w') => num_err w' E (HE.out.below hb) 5 (by decide) (by decide))
          have hnI : (nx : Int) < (es.length : Int) := by omega
          unfold errAt at TB NU
          replace TB := Lib.hid TB
          go_wp2_with (go_at_call 54; refine TB.out.mono ?_; rintro e w3 ⟨rfl, hb3⟩; have H3 := Lib.hid (hCA.out.below hb3); have R3 := Lib.hid (hRA.out.below hb3); have M3 := Lib.hid (hMA.out.below hb3 hMA.out.lt); have B3 := Lib.hid (hBA.out.trans (hb3.mono hBA.out.size)); obtain ⟨hk, -⟩ := rHead_cells R3.out.head; obtain ⟨hm0, hm1⟩ := rdHead_cells R3.out.old)
          refine wp_region_seq (fun _ => False) #[⟨0, 0, 1329227995784915872903807060280344576, 256, 0⟩, ⟨1, 1, 2658455991569831745807614120560689152, 1329227995784915872903807060280344576, 0⟩, ⟨2, 3, 5316911983139663491615228241121378304, 2658455991569831745807614120560689152, 0⟩, ⟨4, 7, 10633823966279326983230456482242756608, 5316911983139663491615228241121378304, 1⟩, ⟨0, 0, 21267647932558653966460912964485513216, 256, 0⟩, ⟨16, 16, 42535295865117307932921825928971026432, 21267647932558653966460912964485513216, 0⟩, ⟨32, 48, 85070591730234615865843651857942052864, 42535295865117307932921825928971026432, 0⟩, ⟨64, 112, 170141183460469231731687303715884105728, 85070591730234615865843651857942052864, 1⟩, ⟨128, 240, 340282366920938463463374607431768211456, 170141183460469231731687303715884105728, 0⟩, ⟨256, 496, 680564733841876926926749214863536422912, 340282366920938463463374607431768211456, 0⟩, ⟨512, 1008, 1361129467683753853853498429727072845824, 680564733841876926926749214863536422912, 1⟩, ⟨1024, 2032, 2722258935367507707706996859454145691648, 1361129467683753853853498429727072845824, 0⟩, ⟨2056, 4095, 5444517870735015415413993718908291383296, 2732892759333787034690227315936388448256, 0⟩, ⟨4096, 8191, 10889035741470030830827987437816582766592, 5444517870735015415413993718908291383296, 0⟩, ⟨8192, 16383, 21778071482940061661655974875633165533184, 10889035741470030830827987437816582766848, 0⟩, ⟨24576, 32767, 43556142965880123323311949751266331066368, 32667107224410092492483962313449748299776, 0⟩, ⟨40960, 65535, 87112285931760246646623899502532662132736, 54445178707350154154139937189082913832960, 0⟩, ⟨73728, 131071, 174224571863520493293247799005065324265472, 98001321673230277477451886940349244899328, 1⟩, ⟨139264, 262143, 348449143727040986586495598010130648530944, 185113607604990524124075786442881907032064, 0⟩] 132232 [(0, 0), (1, 0), (2, 0), (3, 1), (4, 0), (5, 0), (6, 0), (7, 1), (8, 0), (9, 0), (10, 1), (11, 0), (12, 0), (13, 0), (14, 0), (15, 0), (16, 0), (17, 1), (18, 0)] (by kernel_rfl) (by kernel_rfl) (by kernel_rfl) (by kernel_rfl) (by kernel_rfl) (by kernel_rfl) (fun c a d v w h => by cases d <;> exact h) ?_
          refine seq_calc (by simp only [List.getElem?_toArray, List.getElem?_cons_succ, List.getElem?_cons_zero]; rfl) (by rfl) (fun u => by go_simp <;> with_reducible rfl) ?_
          try simp only [Act.put, List.setIfInBounds_toArray, List.set_cons_zero, List.set_cons_succ]
          refine seq_calc (by simp only [List.getElem?_toArray, List.getElem?_cons_succ, List.getElem?_cons_zero]; rfl) (by rfl) (fun u => by go_simp <;> with_reducible rfl) ?_
          try simp only [Act.put, List.setIfInBounds_toArray, List.set_cons_zero, List.set_cons_succ]
          refine seq_calc (by simp only [List.getElem?_toArray, List.getElem?_cons_succ, List.getElem?_cons_zero]; rfl) (by rfl) (fun u => by go_simp <;> with_reducible rfl) ?_
          try simp only [Act.put, List.setIfInBounds_toArray, List.set_cons_zero, List.set_cons_succ]
          refine seq_load1 (by simp only [List.getElem?_toArray, List.getElem?_cons_succ, List.getElem?_cons_zero]; rfl) (by rfl) rfl rfl Tryd.underlying3 rfl (by go_simp <;> with_reducible rfl) (by first | exact id | assumption | (simp; done) | (simp; omega)) ?_
          try simp only [Act.put, List.setIfInBounds_toArray, List.set_cons_zero, List.set_cons_succ]
          refine seq_calc (by simp only [List.getElem?_toArray, List.getElem?_cons_succ, List.getElem?_cons_zero]; rfl) (by rfl) (fun u => by go_simp <;> with_reducible rfl) ?_
          try simp only [Act.put, List.setIfInBounds_toArray, List.set_cons_zero, List.set_cons_succ]
          refine seq_calc (by simp only [List.getElem?_toArray, List.getElem?_cons_succ, List.getElem?_cons_zero]; rfl) (by rfl) (fun u => by go_simp <;> with_reducible rfl) ?_
          try simp only [Act.put, List.setIfInBounds_toArray, List.set_cons_zero, List.set_cons_succ]
          refine seq_calc (by simp only [List.getElem?_toArray, List.getElem?_cons_succ, List.getElem?_cons_zero]; rfl) (by rfl) (fun u => by go_simp <;> with_reducible rfl) ?_
          try simp only [Act.put, List.setIfInBounds_toArray, List.set_cons_zero, List.set_cons_succ]
          refine seq_load1 (by simp only [List.getElem?_toArray, List.getElem?_cons_succ, List.getElem?_cons_zero]; rfl) (by rfl) rfl rfl Tryd.underlying100 rfl (by go_simp <;> with_reducible rfl) (by first | exact id | assumption | (simp; done) | (simp; omega)) ?_
          try simp only [Act.put, List.setIfInBounds_toArray, List.set_cons_zero, List.set_cons_succ]
          refine seq_calc (by simp only [List.getElem?_toArray, List.getElem?_cons_succ, List.getElem?_cons_zero]; rfl) (by rfl) (fun u => by go_simp <;> with_reducible rfl) ?_
          try simp only [Act.put, List.setIfInBounds_toArray, List.set_cons_zero, List.set_cons_succ]
          refine seq_calc (by simp only [List.getElem?_toArray, List.getElem?_cons_succ, List.getElem?_cons_zero]; rfl) (by rfl) (fun u => by go_simp <;> with_reducible rfl) ?_
          try simp only [Act.put, List.setIfInBounds_toArray, List.set_cons_zero, List.set_cons_succ]
          refine seq_load1 (by simp only [List.getElem?_toArray, List.getElem?_cons_succ, List.getElem?_cons_zero]; rfl) (by rfl) rfl rfl Tryd.underlying52 rfl (by go_simp <;> with_reducible rfl) (by first | exact id | assumption | (simp; done) | (simp; omega)) ?_
          try simp only [Act.put, List.setIfInBounds_toArray, List.set_cons_zero, List.set_cons_succ]
          refine seq_calc (by simp only [List.getElem?_toArray, List.getElem?_cons_succ, List.getElem?_cons_zero]; rfl) (by rfl) (fun u => by go_simp <;> with_reducible rfl) ?_
          try simp only [Act.put, List.setIfInBounds_toArray, List.set_cons_zero, List.set_cons_succ]
          refine seq_calc (by simp only [List.getElem?_toArray, List.getElem?_cons_succ, List.getElem?_cons_zero]; rfl) (by rfl) (fun u => by go_simp <;> with_reducible rfl) ?_
          try simp only [Act.put, List.setIfInBounds_toArray, List.set_cons_zero, List.set_cons_succ]
          refine seq_calc (by simp only [List.getElem?_toArray, List.getElem?_cons_succ, List.getElem?_cons_zero]; rfl) (by rfl) (fun u => by go_simp <;> with_reducible rfl) ?_
          try simp only [Act.put, List.setIfInBounds_toArray, List.set_cons_zero, List.set_cons_succ]
          first
            | (refine seq_skip (by simp only [List.getElem?_toArray, List.getElem?_cons_succ, List.getElem?_cons_zero]; rfl) (by rfl) ?_)
            | (refine seq_calc (by simp only [List.getElem?_toArray, List.getElem?_cons_succ, List.getElem?_cons_zero]; rfl) (by rfl) (fun u => by go_simp <;> with_reducible rfl) ?_)
          try simp only [Act.put, List.setIfInBounds_toArray, List.set_cons_zero, List.set_cons_succ]
          first
            | (refine seq_skip (by simp only [List.getElem?_toArray, List.getElem?_cons_succ, List.getElem?_cons_zero]; rfl) (by rfl) ?_)
            | (refine seq_calc (by simp only [List.getElem?_toArray, List.getElem?_cons_succ, List.getElem?_cons_zero]; rfl) (by rfl) (fun u => by go_simp <;> with_reducible rfl) ?_)
          try simp only [Act.put, List.setIfInBounds_toArray, List.set_cons_zero, List.set_cons_succ]
          first
            | (refine seq_skip (by simp only [List.getElem?_toArray, List.getElem?_cons_succ, List.getElem?_cons_zero]; rfl) (by rfl) ?_)
            | (refine seq_calc (by simp only [List.getElem?_toArray, List.getElem?_cons_succ, List.getElem?_cons_zero]; rfl) (by rfl) (fun u => by go_simp <;> with_reducible rfl) ?_)
          try simp only [Act.put, List.setIfInBounds_toArray, List.set_cons_zero, List.set_cons_succ]
          first
            | (refine seq_skip (by simp only [List.getElem?_toArray, List.getElem?_cons_succ, List.getElem?_cons_zero]; rfl) (by rfl) ?_)
            | (refine seq_load1 (by simp only [List.getElem?_toArray, List.getElem?_cons_succ, List.getElem?_cons_zero]; rfl) (by rfl) rfl rfl Tryd.underlying4 rfl (by go_simp <;> with_reducible rfl) (by first | exact id | assumption | (simp; done) | (simp; omega)) ?_)
          try simp only [Act.put, List.setIfInBounds_toArray, List.set_cons_zero, List.set_cons_succ]
          refine seq_calc (by simp only [List.getElem?_toArray, List.getElem?_cons_succ, List.getElem?_cons_zero]; rfl) (by rfl) (fun u => by go_simp <;> with_reducible rfl) ?_
          try simp only [Act.put, List.setIfInBounds_toArray, List.set_cons_zero, List.set_cons_succ]
          refine seq_nil ?_
          go_wp2_with (go_at_call 20; refine (NU.out _ B3.out.drew).mono ?_; rintro e w5 ⟨rfl, rfl⟩)
          go_roundw
          case rel =>
            have hb5 : Below w3.heap.size w3 (w3.drew.alloc (.cells (errRow E) 25)) := (Below.refl _ _).drew.alloc (by simp) _
            first | exact ⟨k + 1, es, nx, by omega, by go_num, H3.out.below hb5, R3.out.below hb5, M3.out.below hb5 M3.out.lt, B3.out.trans (hb5.mono B3.out.size)⟩ | ((repeat apply Exists.intro); exact ⟨⟨k + 1, es, nx, by omega, by go_num, H3.out.below hb5, R3.out.below hb5, M3.out.below hb5 M3.out.lt, B3.out.trans (hb5.mono B3.out.size)⟩, rfl⟩)
          case measure => simp [intOf]; omega
        · obtain rfl : nx = es.length := by omega
          have TK := Lib.hid (ctake_ok C B R F S d es _ hCA.out)
          go_wp2_with (go_at_call 54; refine TK.out.mono ?_; rintro e w3 ⟨rfl, h3, d3⟩; have H3 := Lib.hid h3; have R3 := Lib.hid (hRA.out.chg d3 (by have := K1.out; omega) (by have := K2.out; omega) (by have := K3.out; omega)); have B3 := Lib.hid (hBA.out.trans (d3.below (n := w0.heap.size) hBA.out.size (fun k hk e => by have := HG0.out; omega))); obtain ⟨hk, hkf⟩ := rHead_cells R3.out.head; obtain ⟨hm0, hm1⟩ := rdHead_cells R3.out.old; have hzK := R3.out.head.lt; clear h3)
          refine wp_region_seq (fun _ => False) #[⟨0, 0, 1329227995784915872903807060280344576, 256, 0⟩, ⟨1, 1, 2658455991569831745807614120560689152, 1329227995784915872903807060280344576, 0⟩, ⟨2, 3, 5316911983139663491615228241121378304, 2658455991569831745807614120560689152, 0⟩, ⟨4, 7, 10633823966279326983230456482242756608, 5316911983139663491615228241121378304, 1⟩, ⟨0, 0, 21267647932558653966460912964485513216, 256, 0⟩, ⟨16, 16, 42535295865117307932921825928971026432, 21267647932558653966460912964485513216, 0⟩, ⟨32, 48, 85070591730234615865843651857942052864, 42535295865117307932921825928971026432, 0⟩, ⟨64, 112, 170141183460469231731687303715884105728, 85070591730234615865843651857942052864, 1⟩, ⟨128, 240, 340282366920938463463374607431768211456, 170141183460469231731687303715884105728, 0⟩, ⟨256, 496, 680564733841876926926749214863536422912, 340282366920938463463374607431768211456, 0⟩, ⟨512, 1008, 1361129467683753853853498429727072845824, 680564733841876926926749214863536422912, 1⟩, ⟨1024, 2032, 2722258935367507707706996859454145691648, 1361129467683753853853498429727072845824, 0⟩, ⟨2056, 4095, 5444517870735015415413993718908291383296, 2732892759333787034690227315936388448256, 0⟩, ⟨4096, 8191, 10889035741470030830827987437816582766592, 5444517870735015415413993718908291383296, 0⟩, ⟨8192, 16383, 21778071482940061661655974875633165533184, 10889035741470030830827987437816582766848, 0⟩, ⟨24576, 32767, 43556142965880123323311949751266331066368, 32667107224410092492483962313449748299776, 0⟩, ⟨40960, 65535, 87112285931760246646623899502532662132736, 54445178707350154154139937189082913832960, 0⟩, ⟨73728, 131071, 174224571863520493293247799005065324265472, 98001321673230277477451886940349244899328, 1⟩, ⟨139264, 262143, 348449143727040986586495598010130648530944, 185113607604990524124075786442881907032064, 0⟩] 132232 [(0, 0), (1, 0), (2, 0), (3, 1), (4, 0), (5, 0), (6, 0), (7, 1), (8, 0), (9, 0), (10, 1), (11, 0), (12, 0), (13, 0), (14, 0), (15, 0), (16, 0), (17, 1), (18, 0)] (by kernel_rfl) (by kernel_rfl) (by kernel_rfl) (by kernel_rfl) (by kernel_rfl) (by kernel_rfl) (fun c a d v w h => by cases d <;> exact h) ?_
          refine seq_calc (by simp only [List.getElem?_toArray, List.getElem?_cons_succ, List.getElem?_cons_zero]; rfl) (by rfl) (fun u => by go_simp <;> with_reducible rfl) ?_
          try simp only [Act.put, List.setIfInBounds_toArray, List.set_cons_zero, List.set_cons_succ]
          refine seq_calc (by simp only [List.getElem?_toArray, List.getElem?_cons_succ, List.getElem?_cons_zero]; rfl) (by rfl) (fun u => by go_simp <;> with_reducible rfl) ?_
          try simp only [Act.put, List.setIfInBounds_toArray, List.set_cons_zero, List.set_cons_succ]
          refine seq_calc (by simp only [List.getElem?_toArray, List.getElem?_cons_succ, List.getElem?_cons_zero]; rfl) (by rfl) (fun u => by go_simp <;> with_reducible rfl) ?_
          try simp only [Act.put, List.setIfInBounds_toArray, List.set_cons_zero, List.set_cons_succ]
          refine seq_load1 (by simp only [List.getElem?_toArray, List.getElem?_cons_succ, List.getElem?_cons_zero]; rfl) (by rfl) rfl rfl Tryd.underlying3 rfl (by go_simp <;> with_reducible rfl) (by first | exact id | assumption | (simp; done) | (simp; omega)) ?_
          try simp only [Act.put, List.setIfInBounds_toArray, List.set_cons_zero, List.set_cons_succ]
          refine seq_calc (by simp only [List.getElem?_toArray, List.getElem?_cons_succ, List.getElem?_cons_zero]; rfl) (by rfl) (fun u => by go_simp <;> with_reducible rfl) ?_
          try simp only [Act.put, List.setIfInBounds_toArray, List.set_cons_zero, List.set_cons_succ]
          refine seq_calc (by simp only [List.getElem?_toArray, List.getElem?_cons_succ, List.getElem?_cons_zero]; rfl) (by rfl) (fun u => by go_simp <;> with_reducible rfl) ?_
          try simp only [Act.put, List.setIfInBounds_toArray, List.set_cons_zero, List.set_cons_succ]
          refine seq_calc (by simp only [List.getElem?_toArray, List.getElem?_cons_succ, List.getElem?_cons_zero]; rfl) (by rfl) (fun u => by go_simp <;> with_reducible rfl) ?_
          try simp only [Act.put, List.setIfInBounds_toArray, List.set_cons_zero, List.set_cons_succ]
          refine seq_load1 (by simp only [List.getElem?_toArray, List.getElem?_cons_succ, List.getElem?_cons_zero]; rfl) (by rfl) rfl rfl Tryd.underlying100 rfl (by go_simp <;> with_reducible rfl) (by first | exact id | assumption | (simp; done) | (simp; omega)) ?_
          try simp only [Act.put, List.setIfInBounds_toArray, List.set_cons_zero, List.set_cons_succ]
          refine seq_calc (by simp only [List.getElem?_toArray, List.getElem?_cons_succ, List.getElem?_cons_zero]; rfl) (by rfl) (fun u => by go_simp <;> with_reducible rfl) ?_
          try simp only [Act.put, List.setIfInBounds_toArray, List.set_cons_zero, List.set_cons_succ]
          refine seq_calc (by simp only [List.getElem?_toArray, List.getElem?_cons_succ, List.getElem?_cons_zero]; rfl) (by rfl) (fun u => by go_simp <;> with_reducible rfl) ?_
          try simp only [Act.put, List.setIfInBounds_toArray, List.set_cons_zero, List.set_cons_succ]
          refine seq_load1 (by simp only [List.getElem?_toArray, List.getElem?_cons_succ, List.getElem?_cons_zero]; rfl) (by rfl) rfl rfl Tryd.underlying52 rfl (by go_simp <;> with_reducible rfl) (by first | exact id | assumption | (simp; done) | (simp; omega)) ?_
          try simp only [Act.put, List.setIfInBounds_toArray, List.set_cons_zero, List.set_cons_succ]
          refine seq_calc (by simp only [List.getElem?_toArray, List.getElem?_cons_succ, List.getElem?_cons_zero]; rfl) (by rfl) (fun u => by go_simp <;> with_reducible rfl) ?_
          try simp only [Act.put, List.setIfInBounds_toArray, List.set_cons_zero, List.set_cons_succ]
          refine seq_calc (by simp only [List.getElem?_toArray, List.getElem?_cons_succ, List.getElem?_cons_zero]; rfl) (by rfl) (fun u => by go_simp <;> with_reducible rfl) ?_
          try simp only [Act.put, List.setIfInBounds_toArray, List.set_cons_zero, List.set_cons_succ]
          refine seq_calc (by simp only [List.getElem?_toArray, List.getElem?_cons_succ, List.getElem?_cons_zero]; rfl) (by rfl) (fun u => by go_simp <;> with_reducible rfl) ?_
          try simp only [Act.put, List.setIfInBounds_toArray, List.set_cons_zero, List.set_cons_succ]
          first
            | (refine seq_skip (by simp only [List.getElem?_toArray, List.getElem?_cons_succ, List.getElem?_cons_zero]; rfl) (by rfl) ?_)
            | (refine seq_calc (by simp only [List.getElem?_toArray, List.getElem?_cons_succ, List.getElem?_cons_zero]; rfl) (by rfl) (fun u => by go_simp <;> with_reducible rfl) ?_)
          try simp only [Act.put, List.setIfInBounds_toArray, List.set_cons_zero, List.set_cons_succ]
          first
            | (refine seq_skip (by simp only [List.getElem?_toArray, List.getElem?_cons_succ, List.getElem?_cons_zero]; rfl) (by rfl) ?_)
            | (refine seq_calc (by simp only [List.getElem?_toArray, List.getElem?_cons_succ, List.getElem?_cons_zero]; rfl) (by rfl) (fun u => by go_simp <;> with_reducible rfl) ?_)
          try simp only [Act.put, List.setIfInBounds_toArray, List.set_cons_zero, List.set_cons_succ]
          first
            | (refine seq_skip (by simp only [List.getElem?_toArray, List.getElem?_cons_succ, List.getElem?_cons_zero]; rfl) (by rfl) ?_)
            | (refine seq_calc (by simp only [List.getElem?_toArray, List.getElem?_cons_succ, List.getElem?_cons_zero]; rfl) (by rfl) (fun u => by go_simp <;> with_reducible rfl) ?_)
          try simp only [Act.put, List.setIfInBounds_toArray, List.set_cons_zero, List.set_cons_succ]
          first
            | (refine seq_skip (by simp only [List.getElem?_toArray, List.getElem?_cons_succ, List.getElem?_cons_zero]; rfl) (by rfl) ?_)
            | (refine seq_load1 (by simp only [List.getElem?_toArray, List.getElem?_cons_succ, List.getElem?_cons_zero]; rfl) (by rfl) rfl rfl Tryd.underlying4 rfl (by go_simp <;> with_reducible rfl) (by first | exact id | assumption | (simp; done) | (simp; omega)) ?_)
          try simp only [Act.put, List.setIfInBounds_toArray, List.set_cons_zero, List.set_cons_succ]
          refine seq_calc (by simp only [List.getElem?_toArray, List.getElem?_cons_succ, List.getElem?_cons_zero]; rfl) (by rfl) (fun u => by go_simp <;> with_reducible rfl) ?_
          try simp only [Act.put, List.setIfInBounds_toArray, List.set_cons_zero, List.set_cons_succ]
          refine seq_nil ?_
          go_upto_region 30 with (fail)
          refine wp_at (fun w hW => ?_)
          have R4 := Lib.hid (show RC w Kb M Z d es es.length true from by
            have hr := R3.out
            rw [hW]
            exact ⟨hr.head.drew.set 2 (.bool true), ⟨hr.old.head.drew.other (fun e => hr.n1 e.symm) _ _, hr.old.ring.drew.other (fun e => hr.n2 e.symm) _ _, hr.old.ne, hr.old.deep, hr.old.len⟩, hr.le, hr.n1, hr.n2⟩)
          have F4 := Lib.hid (show DW w F S (d + 1) (dblF es.length es.length (gD es)) from by
            have hr := H3.out.fresh
            rw [hW]
            exact ⟨hr.head.drew.other (by have := K1.out; omega) _ _, hr.ring.drew.other (by have := K1.out; omega) _ _, hr.ne, hr.deep, hr.len⟩)
          have B4 := Lib.hid (show Below w0.heap.size w0 w from by rw [hW]; exact B3.out.drew.setCell (p := ⟨Kb, 2, none⟩) (by have := HG0.out; simp; omega) _)
          clear hW H3 R3 B3 hk hkf hm0 hm1 hzK
          have DP := ddepth_any F S (d + 1) _ w F4.out
          rw [show (((d + 1 : Nat)) : Int) = (d : Int) + 1 by omega] at DP
          have DL := dlist_any F S (d + 1) _ w F4.out
          unfold GivesD at DL
          have RN := Lib.hid (fun w' (hb : Below w.heap.size w w') => rcnew_any Kb M Z d es es.length true w' (R4.out.below hb))
          replace DP := Lib.hid DP
          replace DL := Lib.hid DL
          have hdd : (((d : Int) + 1) != ((d : Int) + 1)) = false := by simp
          have hll : (dblF es.length es.length (gD es)).length ≤ 64 := by rw [dblF_len]; omega
          have heq := Lib.hid (twoL_dbl es es.length)
          generalize dblF es.length es.length (gD es) = Lx at *
          go_wp2_with (first
            | (go_at_call 60; refine DP.out.mono ?_; rintro e w' ⟨rfl, rfl⟩)
            | (go_at_call 61; refine DL.out.mono ?_; rintro e w5 ⟨a5, q5, rfl, hr, hb5⟩; have R5 := Lib.hid (readsInts_own hr); clear hr)
            | (go_at_call 62; refine (RN.out _ hb5).mono ?_; rintro e w6 ⟨v6, rfl, hr, hb6⟩; rw [heq.out] at hr; have R6 := Lib.hid (readsInts_own hr); obtain ⟨a6, q6, rfl⟩ := ownsRow_slice hr; have R7 := Lib.hid (R5.out.later hb6); clear hr)
            | (go_at_call 39; refine (sameInts_any _ _ Lx Lx _ R7.out R6.out (by omega)).mono ?_; rw [decide_eq_true (rfl : Lx = Lx)]; rintro e w' ⟨rfl, rfl⟩))
          go_ret
          exact ⟨rfl, B4.out.trans ((hb5.trans (hb6.mono hb5.size)).mono B4.out.size)⟩
      · have e0 : (q == 0) = false := by simpa using hq
        have e1 : (q == 1) = false := by simpa using hq1
        have ST := Lib.hid (cstep_m C B R F S d G es nx false _ hCA.out hMA.out HGn.out)
        have RT := Lib.hid (fun w' h => rstep_any Kb M Z d es nx false w' h)
        generalize nxtC nx es.length = nx' at *
        generalize decide (nx < es.length) = bb at *
        have hbb : (bb != bb) = false := by cases bb <;> rfl
        go_upto_region 33 with (first
          | (go_at_call 53; refine ST.out.mono ?_; rintro e w3 ⟨rfl, h3, m3, d3⟩; have H3 := Lib.hid h3; have R3 := Lib.hid (hRA.out.chg d3 (by have := K1.out; have := HGr.out; omega) (by have := K2.out; have := HGr.out; omega) (by have := K3.out; have := HGr.out; omega)); have M3 := Lib.hid m3; have B3 := Lib.hid (hBA.out.trans (d3.below (n := w0.heap.size) hBA.out.size (fun k hk e => by have := HG0.out; omega))); clear h3 m3)
          | (go_at_call 63; refine (RT.out _ R3.out).mono ?_; rintro e w4 ⟨rfl, h4, d4⟩; have HRt := Lib.hid h4; have HCt := Lib.hid (H3.out.chg d4 (by have := K1.out; omega) (by have := K1.out; omega) (by have := K1.out; omega) (by have := K1.out; omega) (by have := K1.out; omega)); have HMt := Lib.hid (M3.out.chg d4 (by have := HGr.out; omega)); have HBt := Lib.hid (B3.out.trans (d4.below (n := w0.heap.size) B3.out.size (fun k hk e => by have := HG0.out; omega))); clear h4))
        clear hbb hle hpos
        refine wp_at (fun w hW => ?_)
        rw [← hW] at HCt HRt HMt HBt
        clear hW
        have hles := HCt.out.le
        have hpes := HCt.out.old.pos
        obtain ⟨hk, -⟩ := rHead_cells HRt.out.head
        obtain ⟨hm0, hm1⟩ := rdHead_cells HRt.out.old
        have hzK := HRt.out.head.lt
        have hzM := HRt.out.old.head.lt
        have LF := Lib.hid (fun w' (hb : Below w.heap.size w w') => cleft_any C B R F S d es nx' false w' (HCt.out.below hb))
        have MA := Lib.hid (fun w' (hb : Below w.heap.size w w') => meterAll_any (unitM nx') G 64 w' (HMt.out.below hb HMt.out.lt))
        have hw : IntKind.i64.wrap (((es).length : Int) - ((nx' : Nat) : Int)) = (((es).length - nx' : Nat) : Int) := by rw [IntWalk.i64_in _ (by omega)]; omega
        have hqq : ((((es).length - nx' : Nat) : Int) != (((es).length - nx' : Nat) : Int)) = false := by simp
        generalize (es).length - nx' = lq at *
        generalize (es).length = ln at hm1 hw
        refine wp_region_seq (fun _ => False) #[⟨0, 0, 1496577676626844588240573268701473812127674924007424, 128, 0⟩, ⟨1, 1, 2993155353253689176481146537402947624255349848014848, 1496577676626844588240573268701473812127674924007424, 2⟩, ⟨0, 0, 5986310706507378352962293074805895248510699696029696, 256, 0⟩, ⟨4, 4, 11972621413014756705924586149611790497021399392059392, 5986310706507378352962293074805895248510699696029696, 0⟩, ⟨8, 12, 23945242826029513411849172299223580994042798784118784, 11972621413014756705924586149611790497021399392059392, 0⟩, ⟨16, 28, 47890485652059026823698344598447161988085597568237568, 23945242826029513411849172299223580994042798784118784, 1⟩, ⟨32, 60, 95780971304118053647396689196894323976171195136475136, 47890485652059026823698344598447161988085597568237568, 0⟩, ⟨64, 124, 191561942608236107294793378393788647952342390272950272, 95780971304118053647396689196894323976171195136475136, 0⟩, ⟨128, 252, 383123885216472214589586756787577295904684780545900544, 191561942608236107294793378393788647952342390272950272, 1⟩, ⟨256, 508, 766247770432944429179173513575154591809369561091801088, 383123885216472214589586756787577295904684780545900544, 0⟩, ⟨0, 0, 1532495540865888858358347027150309183618739122183602176, 256, 0⟩, ⟨1024, 1024, 3064991081731777716716694054300618367237478244367204352, 1532495540865888858358347027150309183618739122183602176, 0⟩, ⟨2048, 3072, 6129982163463555433433388108601236734474956488734408704, 3064991081731777716716694054300618367237478244367204352, 0⟩, ⟨4096, 7168, 12259964326927110866866776217202473468949912977468817408, 6129982163463555433433388108601236734474956488734408704, 1⟩, ⟨8704, 16380, 24519928653854221733733552434404946937899825954937634816, 13026212097360055296045949730777628060759282538560618496, 0⟩, ⟨16386, 32767, 49039857307708443467467104868809893875799651909875269632, 24522921809207475422910033580942349885524081304785649664, 0⟩, ⟨32770, 65535, 98079714615416886934934209737619787751599303819750539264, 49039857307708443467467104868809893875799651909875269632, 0⟩, ⟨65536, 131071, 196159429230833773869868419475239575503198607639501078528, 98079714615416886934934209737619787751599303819750540288, 0⟩, ⟨196608, 262143, 392318858461667547739736838950479151006397215279002157056, 294239143846250660804802629212859363254797911459251617792, 2⟩, ⟨65536, 131071, 784637716923335095479473677900958302012794430558004314112, 98079714615416886934934209737619787751599303819750539520, 0⟩, ⟨589824, 655359, 1569275433846670190958947355801916604025588861116008628224, 882717431538751982414407887638578089764393734377754853376, 0⟩, ⟨1114112, 1703935, 3138550867693340381917894711603833208051177722232017256448, 1667355148462087077893881565539536391777188164935759167488, 0⟩, ⟨2162688, 3801087, 6277101735386680763835789423207666416102355444464034512896, 3236630582308757268852828921341452995802777026051767795712, 1⟩, ⟨4259840, 7995391, 12554203470773361527671578846415332832204710888928069025792, 6375181450002097650770723632945286203853954748283785052160, 0⟩, ⟨8716288, 16777215, 25108406941546723055343157692830665664409421777856138051584, 13044602043850445962346249895103431770962707408026821722112, 0⟩, ⟨16842752, 33554431, 50216813883093446110686315385661331328818843555712276103168, 25206486656162139942278091902568285452161021081675888590848, 0⟩] 4202784 [(0, 0), (2, 0), (3, 0), (4, 0), (5, 1), (6, 0), (7, 0), (8, 1), (9, 0), (10, 0), (11, 0), (12, 0), (13, 1), (14, 0), (1, 2), (15, 0), (16, 0), (17, 0), (19, 0), (20, 0), (21, 0), (22, 1), (23, 0), (18, 2), (24, 0), (25, 0)] (by kernel_rfl) (by kernel_rfl) (by kernel_rfl) (by kernel_rfl) (by kernel_rfl) (by kernel_rfl) (fun c a d v w h => by cases d <;> exact h) ?_
        refine seq_calc (by simp only [List.getElem?_toArray, List.getElem?_cons_succ, List.getElem?_cons_zero]; rfl) (by rfl) (fun u => by go_simp <;> with_reducible rfl) ?_
        try simp only [Act.put, List.setIfInBounds_toArray, List.set_cons_zero, List.set_cons_succ]
        refine seq_calc (by simp only [List.getElem?_toArray, List.getElem?_cons_succ, List.getElem?_cons_zero]; rfl) (by rfl) (fun u => by go_simp <;> with_reducible rfl) ?_
        try simp only [Act.put, List.setIfInBounds_toArray, List.set_cons_zero, List.set_cons_succ]
        refine seq_calc (by simp only [List.getElem?_toArray, List.getElem?_cons_succ, List.getElem?_cons_zero]; rfl) (by rfl) (fun u => by go_simp <;> with_reducible rfl) ?_
        try simp only [Act.put, List.setIfInBounds_toArray, List.set_cons_zero, List.set_cons_succ]
        refine seq_calc (by simp only [List.getElem?_toArray, List.getElem?_cons_succ, List.getElem?_cons_zero]; rfl) (by rfl) (fun u => by go_simp <;> with_reducible rfl) ?_
        try simp only [Act.put, List.setIfInBounds_toArray, List.set_cons_zero, List.set_cons_succ]
        refine seq_load1 (by simp only [List.getElem?_toArray, List.getElem?_cons_succ, List.getElem?_cons_zero]; rfl) (by rfl) rfl rfl Tryd.underlying100 rfl (by go_simp <;> with_reducible rfl) (by first | exact id | assumption | (simp; done) | (simp; omega)) ?_
        try simp only [Act.put, List.setIfInBounds_toArray, List.set_cons_zero, List.set_cons_succ]
        refine seq_calc (by simp only [List.getElem?_toArray, List.getElem?_cons_succ, List.getElem?_cons_zero]; rfl) (by rfl) (fun u => by go_simp <;> with_reducible rfl) ?_
        try simp only [Act.put, List.setIfInBounds_toArray, List.set_cons_zero, List.set_cons_succ]
        refine seq_calc (by simp only [List.getElem?_toArray, List.getElem?_cons_succ, List.getElem?_cons_zero]; rfl) (by rfl) (fun u => by go_simp <;> with_reducible rfl) ?_
        try simp only [Act.put, List.setIfInBounds_toArray, List.set_cons_zero, List.set_cons_succ]
        refine seq_load1 (by simp only [List.getElem?_toArray, List.getElem?_cons_succ, List.getElem?_cons_zero]; rfl) (by rfl) rfl rfl Tryd.underlying52 rfl (by go_simp <;> with_reducible rfl) (by first | exact id | assumption | (simp; done) | (simp; omega)) ?_
        try simp only [Act.put, List.setIfInBounds_toArray, List.set_cons_zero, List.set_cons_succ]
        refine seq_calc (by simp only [List.getElem?_toArray, List.getElem?_cons_succ, List.getElem?_cons_zero]; rfl) (by rfl) (fun u => by go_simp <;> with_reducible rfl) ?_
        try simp only [Act.put, List.setIfInBounds_toArray, List.set_cons_zero, List.set_cons_succ]
        refine seq_calc (by simp only [List.getElem?_toArray, List.getElem?_cons_succ, List.getElem?_cons_zero]; rfl) (by rfl) (fun u => by go_simp <;> with_reducible rfl) ?_
        try simp only [Act.put, List.setIfInBounds_toArray, List.set_cons_zero, List.set_cons_succ]
        refine seq_calc (by simp only [List.getElem?_toArray, List.getElem?_cons_succ, List.getElem?_cons_zero]; rfl) (by rfl) (fun u => by go_simp <;> with_reducible rfl) ?_
        try simp only [Act.put, List.setIfInBounds_toArray, List.set_cons_zero, List.set_cons_succ]
        refine seq_calc (by simp only [List.getElem?_toArray, List.getElem?_cons_succ, List.getElem?_cons_zero]; rfl) (by rfl) (fun u => by go_simp <;> with_reducible rfl) ?_
        try simp only [Act.put, List.setIfInBounds_toArray, List.set_cons_zero, List.set_cons_succ]
        refine seq_load1 (by simp only [List.getElem?_toArray, List.getElem?_cons_succ, List.getElem?_cons_zero]; rfl) (by rfl) rfl rfl Tryd.underlying3 rfl (by go_simp <;> with_reducible rfl) (by first | exact id | assumption | (simp; done) | (simp; omega)) ?_
        try simp only [Act.put, List.setIfInBounds_toArray, List.set_cons_zero, List.set_cons_succ]
        refine seq_calc (by simp only [List.getElem?_toArray, List.getElem?_cons_succ, List.getElem?_cons_zero]; rfl) (by rfl) (fun u => by go_simp <;> with_reducible rfl) ?_
        try simp only [Act.put, List.setIfInBounds_toArray, List.set_cons_zero, List.set_cons_succ]
        refine seq_do (by simp only [List.getElem?_toArray, List.getElem?_cons_succ, List.getElem?_cons_zero]; rfl) (by rfl) (fun K hK => ?_); go_wp2_with (first | (go_at_call 58; refine (LF.out _ (by go_grown)).mono ?_; rintro e w1 ⟨rfl, hb1⟩; have hB1 : Below w.heap.size w w1 := (by first | exact hB1.trans (hb1.mono hB1.size) | exact hB1.trans (Below.undrew (hb1.mono hB1.size)) | exact hb1 | exact Below.trans (by go_grown) (hb1.mono (by simp <;> omega))); have hcKb := fun (o : Nat) => hb1.cell (p := ⟨Kb, o, none⟩) (by first | assumption | (simp <;> omega)); have hfKb := fun (o : Nat) => hb1.frozen (p := ⟨Kb, o, none⟩) (by first | assumption | (simp <;> omega)); have hzKb : Kb < w1.heap.size := Nat.lt_of_lt_of_le (by first | assumption | (simp <;> omega)) hb1.size; have hcM := fun (o : Nat) => hb1.cell (p := ⟨M, o, none⟩) (by first | assumption | (simp <;> omega)); have hfM := fun (o : Nat) => hb1.frozen (p := ⟨M, o, none⟩) (by first | assumption | (simp <;> omega)); have hzM : M < w1.heap.size := Nat.lt_of_lt_of_le (by first | assumption | (simp <;> omega)) hb1.size) | (go_at_call 45; refine (MA.out _ hB1).mono ?_; simp only [unitM]; rintro e w1 ⟨rfl, hb1⟩; have hB1 : Below w.heap.size w w1 := (by first | exact hB1.trans (hb1.mono hB1.size) | exact hB1.trans (Below.undrew (hb1.mono hB1.size)) | exact hb1 | exact Below.trans (by go_grown) (hb1.mono (by simp <;> omega))); have hcKb := fun (o : Nat) => hb1.cell (p := ⟨Kb, o, none⟩) (by first | assumption | (simp <;> omega)); have hfKb := fun (o : Nat) => hb1.frozen (p := ⟨Kb, o, none⟩) (by first | assumption | (simp <;> omega)); have hzKb : Kb < w1.heap.size := Nat.lt_of_lt_of_le (by first | assumption | (simp <;> omega)) hb1.size; have hcM := fun (o : Nat) => hb1.cell (p := ⟨M, o, none⟩) (by first | assumption | (simp <;> omega)); have hfM := fun (o : Nat) => hb1.frozen (p := ⟨M, o, none⟩) (by first | assumption | (simp <;> omega)); have hzM : M < w1.heap.size := Nat.lt_of_lt_of_le (by first | assumption | (simp <;> omega)) hb1.size)); refine hK.out _ _ (by first | (with_reducible exact Chg.refl _ _) | (with_reducible assumption) | (refine Chg.of_below ?_; with_reducible assumption) | (with_reducible exact (Chg.refl _ _).alloc _) | (with_reducible exact (Chg.refl _ _).drewN _) | (with_reducible exact (Chg.refl _ _).drew) | exact ⟨rfl, rfl, rfl, Nat.le_refl _, fun _ _ _ => rfl⟩) ?_; clear hK K
        try simp only [Act.put, List.setIfInBounds_toArray, List.set_cons_zero, List.set_cons_succ]
        refine seq_calc (by simp only [List.getElem?_toArray, List.getElem?_cons_succ, List.getElem?_cons_zero]; rfl) (by rfl) (fun u => by go_simp <;> with_reducible rfl) ?_
        try simp only [Act.put, List.setIfInBounds_toArray, List.set_cons_zero, List.set_cons_succ]
        refine seq_calc (by simp only [List.getElem?_toArray, List.getElem?_cons_succ, List.getElem?_cons_zero]; rfl) (by rfl) (fun u => by go_simp <;> with_reducible rfl) ?_
        try simp only [Act.put, List.setIfInBounds_toArray, List.set_cons_zero, List.set_cons_succ]
        first
          | (refine seq_skip (by simp only [List.getElem?_toArray, List.getElem?_cons_succ, List.getElem?_cons_zero]; rfl) (by rfl) ?_)
          | (refine seq_calc (by simp only [List.getElem?_toArray, List.getElem?_cons_succ, List.getElem?_cons_zero]; rfl) (by rfl) (fun u => by go_simp <;> with_reducible rfl) ?_)
        try simp only [Act.put, List.setIfInBounds_toArray, List.set_cons_zero, List.set_cons_succ]
        first
          | (refine seq_skip (by simp only [List.getElem?_toArray, List.getElem?_cons_succ, List.getElem?_cons_zero]; rfl) (by rfl) ?_)
          | (refine seq_calc (by simp only [List.getElem?_toArray, List.getElem?_cons_succ, List.getElem?_cons_zero]; rfl) (by rfl) (fun u => by go_simp <;> with_reducible rfl) ?_)
        try simp only [Act.put, List.setIfInBounds_toArray, List.set_cons_zero, List.set_cons_succ]
        first
          | (refine seq_skip (by simp only [List.getElem?_toArray, List.getElem?_cons_succ, List.getElem?_cons_zero]; rfl) (by rfl) ?_)
          | (refine seq_calc (by simp only [List.getElem?_toArray, List.getElem?_cons_succ, List.getElem?_cons_zero]; rfl) (by rfl) (fun u => by go_simp <;> with_reducible rfl) ?_)
        try simp only [Act.put, List.setIfInBounds_toArray, List.set_cons_zero, List.set_cons_succ]
        first
          | (refine seq_skip (by simp only [List.getElem?_toArray, List.getElem?_cons_succ, List.getElem?_cons_zero]; rfl) (by rfl) ?_)
          | (refine seq_calc (by simp only [List.getElem?_toArray, List.getElem?_cons_succ, List.getElem?_cons_zero]; rfl) (by rfl) (fun u => by go_simp <;> with_reducible rfl) ?_)
        try simp only [Act.put, List.setIfInBounds_toArray, List.set_cons_zero, List.set_cons_succ]
        first
          | (refine seq_skip (by simp only [List.getElem?_toArray, List.getElem?_cons_succ, List.getElem?_cons_zero]; rfl) (by rfl) ?_)
          | (refine seq_load1 (by simp only [List.getElem?_toArray, List.getElem?_cons_succ, List.getElem?_cons_zero]; rfl) (by rfl) rfl rfl Tryd.underlying3 rfl (by go_simp <;> with_reducible rfl) (by first | exact id | assumption | (simp; done) | (simp; omega)) ?_)
        try simp only [Act.put, List.setIfInBounds_toArray, List.set_cons_zero, List.set_cons_succ]
        first
          | (refine seq_skip (by simp only [List.getElem?_toArray, List.getElem?_cons_succ, List.getElem?_cons_zero]; rfl) (by rfl) ?_)
          | (refine seq_calc (by simp only [List.getElem?_toArray, List.getElem?_cons_succ, List.getElem?_cons_zero]; rfl) (by rfl) (fun u => by go_simp <;> with_reducible rfl) ?_)
        try simp only [Act.put, List.setIfInBounds_toArray, List.set_cons_zero, List.set_cons_succ]
        first
          | (refine seq_skip (by simp only [List.getElem?_toArray, List.getElem?_cons_succ, List.getElem?_cons_zero]; rfl) (by rfl) ?_)
          | (refine seq_do (by simp only [List.getElem?_toArray, List.getElem?_cons_succ, List.getElem?_cons_zero]; rfl) (by rfl) (fun K hK => ?_); go_wp2_with (first | (go_at_call 58; refine (LF.out _ (by go_grown)).mono ?_; rintro e w1 ⟨rfl, hb1⟩; have hB1 : Below w.heap.size w w1 := (by first | exact hB1.trans (hb1.mono hB1.size) | exact hB1.trans (Below.undrew (hb1.mono hB1.size)) | exact hb1 | exact Below.trans (by go_grown) (hb1.mono (by simp <;> omega))); have hcKb := fun (o : Nat) => hb1.cell (p := ⟨Kb, o, none⟩) (by first | assumption | (simp <;> omega)); have hfKb := fun (o : Nat) => hb1.frozen (p := ⟨Kb, o, none⟩) (by first | assumption | (simp <;> omega)); have hzKb : Kb < w1.heap.size := Nat.lt_of_lt_of_le (by first | assumption | (simp <;> omega)) hb1.size; have hcM := fun (o : Nat) => hb1.cell (p := ⟨M, o, none⟩) (by first | assumption | (simp <;> omega)); have hfM := fun (o : Nat) => hb1.frozen (p := ⟨M, o, none⟩) (by first | assumption | (simp <;> omega)); have hzM : M < w1.heap.size := Nat.lt_of_lt_of_le (by first | assumption | (simp <;> omega)) hb1.size) | (go_at_call 45; refine (MA.out _ hB1).mono ?_; simp only [unitM]; rintro e w1 ⟨rfl, hb1⟩; have hB1 : Below w.heap.size w w1 := (by first | exact hB1.trans (hb1.mono hB1.size) | exact hB1.trans (Below.undrew (hb1.mono hB1.size)) | exact hb1 | exact Below.trans (by go_grown) (hb1.mono (by simp <;> omega))); have hcKb := fun (o : Nat) => hb1.cell (p := ⟨Kb, o, none⟩) (by first | assumption | (simp <;> omega)); have hfKb := fun (o : Nat) => hb1.frozen (p := ⟨Kb, o, none⟩) (by first | assumption | (simp <;> omega)); have hzKb : Kb < w1.heap.size := Nat.lt_of_lt_of_le (by first | assumption | (simp <;> omega)) hb1.size; have hcM := fun (o : Nat) => hb1.cell (p := ⟨M, o, none⟩) (by first | assumption | (simp <;> omega)); have hfM := fun (o : Nat) => hb1.frozen (p := ⟨M, o, none⟩) (by first | assumption | (simp <;> omega)); have hzM : M < w1.heap.size := Nat.lt_of_lt_of_le (by first | assumption | (simp <;> omega)) hb1.size)); refine hK.out _ _ (by first | (with_reducible exact Chg.refl _ _) | (with_reducible assumption) | (refine Chg.of_below ?_; with_reducible assumption) | (with_reducible exact (Chg.refl _ _).alloc _) | (with_reducible exact (Chg.refl _ _).drewN _) | (with_reducible exact (Chg.refl _ _).drew) | exact ⟨rfl, rfl, rfl, Nat.le_refl _, fun _ _ _ => rfl⟩) ?_; clear hK K)
        try simp only [Act.put, List.setIfInBounds_toArray, List.set_cons_zero, List.set_cons_succ]
        first
          | (refine seq_skip (by simp only [List.getElem?_toArray, List.getElem?_cons_succ, List.getElem?_cons_zero]; rfl) (by rfl) ?_)
          | (refine seq_calc (by simp only [List.getElem?_toArray, List.getElem?_cons_succ, List.getElem?_cons_zero]; rfl) (by rfl) (fun u => by go_simp <;> with_reducible rfl) ?_)
        try simp only [Act.put, List.setIfInBounds_toArray, List.set_cons_zero, List.set_cons_succ]
        refine seq_calc (by simp only [List.getElem?_toArray, List.getElem?_cons_succ, List.getElem?_cons_zero]; rfl) (by rfl) (fun u => by go_simp <;> with_reducible rfl) ?_
        try simp only [Act.put, List.setIfInBounds_toArray, List.set_cons_zero, List.set_cons_succ]
        refine seq_nil ?_
        go_wp2
        go_roundw
        case rel => exact ⟨k + 1, es, nx', by omega, by go_num, HCt.out.below hB1, HRt.out.below hB1, HMt.out.below hB1 HMt.out.lt, HBt.out.trans (hB1.mono HBt.out.size)⟩
        case measure => simp [intOf]; omega
    · obtain rfl : k = n2 := by omega
      go_wp2
      go_ret
      exact ⟨rfl, hBW⟩
set_option maxRecDepth 100000 in
set_option maxHeartbeats 4000000 in
theorem copyistActs_law (depth : Int) (v v2 : Value) (n1 n2 : Nat) (g f : Nat → Nat → Int) (E : Nat → Addr) (w0 : World) (he : ErrsAre w0 E) (r1 : RowsAt w0 v n1 1 .i64 g) (r2 : RowsAt w0 v2 n2 4 .i64 f) :
    Calls Tryd.prog 10 #[.int .i64 depth, v, v2] w0 fun e w' => e = .returned (.bool true) ∧ Below w0.heap.size w0 w' := by
  have m1 := r1.2.2
  have m2 := r2.2.2
  unfold maxLen at m1 m2
  by_cases hgood : n1 ≤ 40 ∧ n2 ≤ 100 ∧ 0 ≤ depth ∧ depth ≤ 4
  · obtain ⟨h1, h2, h3, h4⟩ := hgood
    obtain ⟨d, rfl⟩ : ∃ d : Nat, depth = (d : Int) := ⟨depth.toNat, by omega⟩
    exact acts_ok d (by omega) v v2 n1 n2 h1 h2 g f E w0 he r1 r2
  have BG5 := Lib.hid (fun (h1 : n1 ≤ 40) (w : World) (hb : Below w0.heap.size w0 w) => begun_deep v ((List.range n1).map fun i => g i 0) (by simpa using h1) E w ((readsInts_row r1).later hb) ((he.below hb).ec.sub (by decide)))
  obtain ⟨a, cap, rfl, -⟩ := r1.cellAt (by decide)
  obtain ⟨a2, cap2, rfl, -⟩ := r2.cellAt (by decide)
  have AL := Lib.hid alive17_any
  have HE := Lib.hid he
  clear r1 r2 he
  by_cases g2 : 40 < n1
  · have g2' : (40 : Int) < (n1 : Int) := by omega
    clear hgood BG5
    go_enter Tryd.func10, Tryd.ntmps10
    go_wp2_with (go_at_call 50; refine (AL.out _).mono ?_; rintro e w1 ⟨rfl, hb1⟩)
    go_ret
    exact ⟨rfl, hb1⟩
  have g2' : (n1 : Int) ≤ 40 := by omega
  by_cases g1 : 100 < n2
  · have g1' : (100 : Int) < (n2 : Int) := by omega
    clear hgood BG5
    go_enter Tryd.func10, Tryd.ntmps10
    go_wp2_with (go_at_call 50; refine (AL.out _).mono ?_; rintro e w1 ⟨rfl, hb1⟩)
    go_ret
    exact ⟨rfl, hb1⟩
  have g1' : (n2 : Int) ≤ 100 := by omega
  have NU := Lib.hid (fun p (h1 : 1 ≤ p) (h2 : p ≤ 16) w' (hb : Below w0.heap.size w0 w') => num_err w' E (HE.out.below hb) p h1 h2)
  by_cases g3 : depth = 5
  · subst g3
    have BG := Lib.hid (BG5.out (by omega))
    have NU1 := Lib.hid (NU.out 1 (by decide) (by decide))
    unfold errAt at BG NU1
    clear hgood BG5 NU
    go_enter Tryd.func10, Tryd.ntmps10
    go_wp2_with (first
      | (go_at_call 50; refine (AL.out _).mono ?_; rintro e w1 ⟨rfl, hb1⟩)
      | (go_at_call 51; refine (BG.out _ hb1).mono ?_; rintro e w2 ⟨Kb, rfl, hb2⟩; have B2 := Lib.hid (hb1.trans (hb2.mono hb1.size)))
      | (go_at_call 20; refine (NU1.out _ B2.out).mono ?_; rintro e w5 ⟨rfl, rfl⟩))
    go_ret
    exact ⟨rfl, B2.out.alloc B2.out.size _⟩
  · have BG := Lib.hid (fun (w : World) (v : Value) (hE : EC w E [1, 4]) => begun_none depth (by omega) v E w hE)
    have NU4 := Lib.hid (NU.out 4 (by decide) (by decide))
    unfold errAt at BG NU4
    clear BG5 NU
    by_cases g0 : depth < 0
    · clear hgood g3
      go_enter Tryd.func10, Tryd.ntmps10
      go_wp2_with (first
        | (go_at_call 50; refine (AL.out _).mono ?_; rintro e w1 ⟨rfl, hb1⟩)
        | (go_at_call 51; refine (BG.out _ _ ((HE.out.below hb1).ec.sub (by decide))).mono ?_; rintro e w2 ⟨rfl, hb2⟩; have B2 := Lib.hid (hb1.trans (hb2.mono hb1.size)))
        | (go_at_call 20; refine (NU4.out _ B2.out).mono ?_; rintro e w5 ⟨rfl, rfl⟩))
      go_ret
      exact ⟨rfl, B2.out.alloc B2.out.size _⟩
    · have g5 : 5 < depth := by omega
      clear hgood g3
      go_enter Tryd.func10, Tryd.ntmps10
      go_wp2_with (first
        | (go_at_call 50; refine (AL.out _).mono ?_; rintro e w1 ⟨rfl, hb1⟩)
        | (go_at_call 51; refine (BG.out _ _ ((HE.out.below hb1).ec.sub (by decide))).mono ?_; rintro e w2 ⟨rfl, hb2⟩; have B2 := Lib.hid (hb1.trans (hb2.mono hb1.size)))
        | (go_at_call 20; refine (NU4.out _ B2.out).mono ?_; rintro e w5 ⟨rfl, rfl⟩))
      go_ret
      exact ⟨rfl, B2.out.alloc B2.out.size _⟩
end Go.Proofs.YtplimhllfbdocaaDoor
