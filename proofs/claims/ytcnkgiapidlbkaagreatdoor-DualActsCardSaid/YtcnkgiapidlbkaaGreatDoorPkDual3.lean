/- Texts joined: DualZ DualFunP DualStepsP DualCase DualAlive. No condition but those that stand within. -/
import Derived.Test.YtcnkgiapidlbkaaGreatDoorPkSwar
import Derived.Test.YtcnkgiapidlbkaaGreatDoorPkMeter
import Derived.Test.YtcnkgiapidlbkaaGreatDoorPkErrs
import Derived.Test.YtcnkgiapidlbkaaGreatDoorPkGroup
import Derived.Test.YtcnkgiapidlbkaaGreatDoorPkTab
import Derived.Test.YtcnkgiapidlbkaaGreatDoorPkTab2
import Derived.Test.YtcnkgiapidlbkaaGreatDoorPkTab3
import Derived.Test.YtcnkgiapidlbkaaGreatDoorPkTake
import Derived.Test.YtcnkgiapidlbkaaGreatDoorPkTabM
import Derived.Test.YtcnkgiapidlbkaaGreatDoorPkBuild
import Derived.Test.YtcnkgiapidlbkaaGreatDoorPkEvac
import Derived.Test.YtcnkgiapidlbkaaGreatDoorPkSound
import Derived.Test.YtcnkgiapidlbkaaGreatDoorPkRef09
import Derived.Test.YtcnkgiapidlbkaaGreatDoorPkEvac2
import Derived.Test.YtcnkgiapidlbkaaGreatDoorPkEvac3
import Derived.Test.YtcnkgiapidlbkaaGreatDoorPkSound2
import Derived.Test.YtcnkgiapidlbkaaGreatDoorPkActs
import Derived.Test.YtcnkgiapidlbkaaGreatDoorPkDual1
import Derived.Test.YtcnkgiapidlbkaaGreatDoorPkDual2
set_option linter.unusedVariables false
set_option linter.unusedSimpArgs false
set_option maxRecDepth 100000
set_option maxHeartbeats 8000000
namespace Go.Proofs.YtcnkgiapidlbkaaGreatDoor
open Go.RowKit Go.Proofs
def DuS.stp (s:DuS):DuS:=if s.bare=0 then (if s.nx<s.T.n then s.move else s) else s.prep
def DuS.stpM (s:DuS) (mt:MeterS):MeterS:=if s.bare=0 then (if s.nx<s.T.n then addN (mt.add 0 0 1) 0 1 0 (1+(evF s.k s.d (entsL (s.T.M s.nx) (s.T.S s.nx)) (s.U,0)).2) else mt) else (mt.add 0 1 0).add 0 0 1
def DuS.evOk (s:DuS):Prop:=s.bare=0→s.nx<s.T.n→EvOk s.k s.d (entsL (s.T.M s.nx) (s.T.S s.nx)) s.U
structure DZ (w:World) (n:Nat) (a:Nat→Nat→Nat) (s:Nat→DuS) (tk:Bool) (M:Nat) (mt:MeterS) (K:Nat→Prop) (E:Nat→Addr) (w0:World):Prop where
 v:∀i,i<n→DuV w (a i) (s i) tk E w0
 m:Blk w M 36 mt.cells
 ml:mt.limited=false
 mz:w0.heap.size≤M∧¬K M
 am:∀i,i<n→∀b,DuX (a i) (s i) b→b≠M∧¬K b
 ap:∀i j,i<n→j<n→i≠j→∀b,DuX (a i) (s i) b→¬DuX (a j) (s j) b
 kz:∀b,K b→b<w.heap.size
 hb:Below w0.heap.size w0 w
def DZs (w:World) (n:Nat) (D:Nat→Nat) (s:Nat→DuS) (tk:Bool) (M:Nat) (mt:MeterS) (K:Nat→Prop) (E:Nat→Addr) (w0:World):Prop := ∃a,(∀i,i<n→a i 0=D i)∧DZ w n a s tk M mt K E w0
def KC (K:Nat→Prop) (n0:Nat) (b:Nat):Prop:=n0≤b∧¬K b
section
variable {w w' w0:World} {n:Nat} {a:Nat→Nat→Nat} {s:Nat→DuS} {tk:Bool} {M:Nat} {mt mt':MeterS} {K:Nat→Prop} {E:Nat→Addr} {D:Nat→Nat}
theorem DZ.later (h:DZ w n a s tk M mt K E w0) (hb:Below w.heap.size w w'):DZ w' n a s tk M mt K E w0 :=
 ⟨fun i hi=>(h.v i hi).later hb,h.m.below hb h.m.lt,h.ml,h.mz,h.am,h.ap,fun b hK=>Nat.lt_of_lt_of_le (h.kz b hK) hb.size,h.hb.trans (hb.mono h.hb.size)⟩
theorem DZs.later (h:DZs w n D s tk M mt K E w0) (hb:Below w.heap.size w w'):DZs w' n D s tk M mt K E w0:=by
 obtain ⟨a,h0,h1⟩:=h
 exact ⟨a,h0,h1.later hb⟩
theorem DZ.chg {Y:Nat→Prop} (h:DZ w n a s tk M mt K E w0) (hc:Chg Y w w') (h0:∀b,Y b→w0.heap.size≤b) (hY:∀b,Y b→b≠M∧∀i,i<n→¬DuX (a i) (s i) b):DZ w' n a s tk M mt K E w0 :=
 ⟨fun i hi=>(h.v i hi).chg hc h0 (fun x hx e=>(hY _ e).2 i hi ⟨x,hx,rfl⟩),h.m.chg hc (fun e=>(hY _ e).1 rfl),h.ml,h.mz,h.am,h.ap,fun b hK=>Nat.lt_of_lt_of_le (h.kz b hK) hc.size,
  h.hb.trans (hc.below h.hb.size (fun k hk e=>by have:=h0 k e;omega))⟩
theorem DZs.kept {Y:Nat→Prop} (h:DZs w n D s tk M mt K E w0) (hc:Chg Y w w') (hY:∀b,Y b→K b∧w0.heap.size≤b):DZs w' n D s tk M mt K E w0:=by
 obtain ⟨a,h0,h1⟩:=h
 exact ⟨a,h0,h1.chg hc (fun b e=>(hY b e).2) (fun b e=>⟨fun e2=>h1.mz.2 (e2▸(hY b e).1),fun i hi e2=>(h1.am i hi b e2).2 (hY b e).1⟩)⟩
theorem DZ.lens (h:DZ w n a s tk M mt K E w0) {i:Nat} (hi:i<n):LensV (some M) (a i) (s i) w0.heap.size:=fun b e=>by
 cases e
 exact ⟨h.mz.1,fun x hx e=>(h.am i hi _ ⟨x,hx,rfl⟩).1 e.symm⟩
theorem DuV.xlt {b:Nat} {a:Nat→Nat} {s:DuS} (h:DuV w a s tk E w0) (hb:DuX a s b):b<w.heap.size∧w0.heap.size≤b:=by
 obtain ⟨x,hx,rfl⟩:=hb
 exact ⟨h.lt x hx,h.n.ge x hx⟩
theorem DZ.turn {i:Nat} {a2:Nat→Nat} {s2:DuS} (h:DZ w n a s tk M mt K E w0) (hi:i<n) (hv:DuV w' a2 s2 tk E w0) (hm:Blk w' M 36 mt'.cells) (hl:mt'.limited=false) (hX:∀b,DuX a2 s2 b→DuX (a i) (s i) b∨w.heap.size≤b) (hc:Chg (fun b=>b=M∨DuX (a i) (s i) b) w w') :
 DZ w' n (upd a i a2) (upd s i s2) tk M mt' K E w0∧Chg (KC K w0.heap.size) w w':=by
 have hx:=fun b e=>(h.v i hi).xlt (b:=b) e
 have hY0:∀b,b=M∨DuX (a i) (s i) b→w0.heap.size≤b:=fun b e=>by
  rcases e with e|e
  · rw [e];exact h.mz.1
  · exact (hx b e).2
 have hv2:=fun j (hj:j<n) (hne:j≠i)=>(h.v j hj).chg hc hY0 (fun x hx e=>by
  rcases e with e|e
  · exact (h.am j hj _ ⟨x,hx,rfl⟩).1 e
  · exact h.ap j i hj hi hne _ ⟨x,hx,rfl⟩ e)
 refine ⟨⟨fun j hj=>?_,hm,hl,h.mz,fun j hj b hb=>?_,fun j j2 hj hj2 hne b hb=>?_,fun b hK=>Nat.lt_of_lt_of_le (h.kz b hK) hc.size,h.hb.trans (hc.below h.hb.size (fun k hk e=>by have:=hY0 k e;omega))⟩,hc.mono (fun b _ e=>⟨hY0 b e,fun hK=>?_⟩)⟩
 · by_cases e:j=i
   · subst e;rw [upd_same,upd_same];exact hv
   · rw [upd_other _ _ e,upd_other _ _ e];exact hv2 j hj e
 · by_cases e:j=i
   · subst e;rw [upd_same,upd_same] at hb
     rcases hX b hb with e|e
     · exact h.am j hj b e
     · exact ⟨fun e2=>by have:=h.m.lt;omega,fun hK=>by have:=h.kz b hK;omega⟩
   · rw [upd_other _ _ e,upd_other _ _ e] at hb;exact h.am j hj b hb
 · by_cases e:j=i
   · subst e
     have e2:j2≠j:=fun e=>hne e.symm
     rw [upd_same,upd_same] at hb
     rw [upd_other _ _ e2,upd_other _ _ e2]
     rcases hX b hb with e|e
     · exact h.ap j j2 hj hj2 hne b e
     · intro e3;have:=((h.v j2 hj2).xlt e3).1;omega
   · rw [upd_other _ _ e,upd_other _ _ e] at hb
     by_cases e2:j2=i
     · subst e2
       rw [upd_same,upd_same]
       intro e3
       rcases hX b e3 with e4|e4
       · exact h.ap j j2 hj hj2 hne b hb e4
       · have:=((h.v j hj).xlt hb).1;omega
     · rw [upd_other _ _ e2,upd_other _ _ e2];exact h.ap j j2 hj hj2 hne b hb
 · rcases e with e|e
   · rw [e] at hK;exact h.mz.2 hK
   · exact (h.am i hi b e).2 hK
theorem DZs.of_turn {i:Nat} {a2:Nat→Nat} {s2:DuS} (h0:∀i,i<n→a i 0=D i) (h2:a2 0=a i 0) (h:DZ w' n (upd a i a2) (upd s i s2) tk M mt' K E w0):DZs w' n D (upd s i s2) tk M mt' K E w0 :=
 ⟨_,fun j hj=>by
  by_cases e:j=i
  · subst e;rw [upd_same,h2];exact h0 j hj
  · rw [upd_other _ _ e];exact h0 j hj,h⟩
theorem put_kb (s:DuS) (key v:Int) (h:Nat) (more:Bool):(s.put key v h more).k=s.k∧(s.put key v h more).bare=s.bare:=by
 unfold DuS.put
 split
 · exact ⟨rfl,rfl⟩
 · split
   · exact ⟨rfl,rfl⟩
   · split
     · exact ⟨rfl,rfl⟩
     · split <;> exact ⟨rfl,rfl⟩
theorem del_kb (s:DuS) (key:Int) (h:Nat):(s.del key h).k=s.k∧(s.del key h).bare=s.bare:=by
 unfold DuS.del;split <;> exact ⟨rfl,rfl⟩
theorem duX_eq {a:Nat→Nat} {s s2:DuS} (hk:s2.k=s.k∧s2.bare=s.bare) (b:Nat):DuX a s2 b↔DuX a s b:=by
 unfold DuX;rw [hk.1,hk.2]
theorem selB_x {s:DuS} (h:DuOK s) (a:Nat→Nat) (key:Int) (hh:Nat) {b:Nat} (hb:some M=some b∨b=s.selB a key hh∨b=s.selQ a key hh):b=M∨DuX a s b:=by
 obtain ⟨⟨x,hx,e1⟩,⟨y,hy,e2⟩⟩:=selB_used h a key hh
 rcases hb with e|e|e
 · cases e;exact .inl rfl
 · exact .inr ⟨x,hx,e.trans e1⟩
 · exact .inr ⟨y,hy,e.trans e2⟩
theorem DZs.put {i:Nat} (h:DZs w n D s tk M mt K E w0) (hi:i<n) (key v:Int) (hh:Nat) (hb:hh<18446744073709551616) (more:Bool) (x y z:Int) :
 Calls Tryz.prog 11 #[.pointer (some ⟨D i,0,none⟩),.agg #[.pointer (some ⟨M,0,none⟩),.int .i64 x,.int .i64 y,.int .i64 z],.agg #[.int .u64 key,.int .u64 v,.int .u64 (hh:Int)],.bool more] w fun e w' =>
  e = .returned (.tuple #[.bool ((s i).putB key hh more),errN E ((s i).putN key hh more)])∧DZs w' n D (upd s i ((s i).put key v hh more)) tk M (addN mt x y z ((s i).lkU key hh+(s i).lkT key hh)) K E w0∧Chg (KC K w0.heap.size) w w':=by
 obtain ⟨a,h0,h1⟩:=h
 have hv:=h1.v i hi
 rw [←h0 i hi]
 refine (hv.put (mt:=mt) (lp:=some M) (fun b e=>by cases e;exact h1.m) (h1.lens hi) key v hh hb more (some ⟨M,0,none⟩) (.inr ⟨M,rfl,rfl⟩) x y z).mono ?_
 rintro e w' ⟨rfl,g1,g2,g3⟩
 obtain ⟨t1,t2⟩:=h1.turn hi g1 (g2 M rfl) ((addN_limited _ _ _ _ _).trans h1.ml) (fun b e => .inl ((duX_eq (put_kb _ _ _ _ _) b).1 e)) (g3.mono (fun b _ e=>selB_x hv.ok _ _ _ e))
 exact ⟨rfl,.of_turn h0 rfl t1,t2⟩
theorem DZs.del {i:Nat} (h:DZs w n D s tk M mt K E w0) (hi:i<n) (key:Int) (hh:Nat) (hb:hh<18446744073709551616) (x y z:Int) :
 Calls Tryz.prog 15 #[.pointer (some ⟨D i,0,none⟩),.agg #[.pointer (some ⟨M,0,none⟩),.int .i64 x,.int .i64 y,.int .i64 z],.int .u64 key,.int .u64 (hh:Int)] w fun e w' =>
  e = .returned (.tuple #[.agg #[.int .u64 ((s i).ent key hh).key,.int .u64 ((s i).ent key hh).val,.int .u64 ((s i).ent key hh).hash],.bool ((s i).has key hh)])∧DZs w' n D (upd s i ((s i).del key hh)) tk M (addN mt x y z ((s i).lkU key hh+(s i).lkT key hh)) K E w0∧Chg (KC K w0.heap.size) w w':=by
 obtain ⟨a,h0,h1⟩:=h
 have hv:=h1.v i hi
 rw [←h0 i hi]
 refine (hv.del (mt:=mt) (lp:=some M) (fun b e=>by cases e;exact h1.m) (h1.lens hi) key hh hb (some ⟨M,0,none⟩) (.inr ⟨M,rfl,rfl⟩) x y z).mono ?_
 rintro e w' ⟨rfl,g1,g2,g3⟩
 obtain ⟨t1,t2⟩:=h1.turn hi g1 (g2 M rfl) ((addN_limited _ _ _ _ _).trans h1.ml) (fun b e => .inl ((duX_eq (del_kb _ _ _) b).1 e)) (g3.mono (fun b _ e=>selB_x hv.ok _ _ _ e))
 exact ⟨rfl,.of_turn h0 rfl t1,t2⟩
theorem DZs.find {i:Nat} (h:DZs w n D s tk M mt K E w0) (hi:i<n) (key:Int) (hh:Nat) (hb:hh<18446744073709551616) (x y z:Int) :
 Calls Tryz.prog 17 #[.pointer (some ⟨D i,0,none⟩),.agg #[.pointer (some ⟨M,0,none⟩),.int .i64 x,.int .i64 y,.int .i64 z],.int .u64 key,.int .u64 (hh:Int)] w fun e w' =>
  e = .returned (.tuple #[.agg #[.int .u64 ((s i).ent key hh).key,.int .u64 ((s i).ent key hh).val,.int .u64 ((s i).ent key hh).hash],.bool ((s i).has key hh)])∧DZs w' n D s tk M (addN mt x y z ((s i).lkU key hh+(s i).lkT key hh)) K E w0∧Chg (KC K w0.heap.size) w w':=by
 obtain ⟨a,h0,h1⟩:=h
 have hv:=h1.v i hi
 rw [←h0 i hi]
 refine (hv.find (mt:=mt) (lp:=some M) (fun b e=>by cases e;exact h1.m) (h1.lens hi) key hh hb (some ⟨M,0,none⟩) (.inr ⟨M,rfl,rfl⟩) x y z).mono ?_
 rintro e w' ⟨rfl,g1,g2,g3⟩
 obtain ⟨t1,t2⟩:=h1.turn hi g1 (g2 M rfl) ((addN_limited _ _ _ _ _).trans h1.ml) (fun b e => .inl e) (g3.mono (fun b _ e => .inl (by cases e;rfl)))
 rw [upd_self] at t1
 rw [upd_self] at t1
 exact ⟨rfl,⟨a,h0,t1⟩,t2⟩
theorem DZs.step {i:Nat} (h:DZs w n D s tk M mt K E w0) (hi:i<n) (hev:(s i).evOk) :
 Calls Tryz.prog 30 #[.pointer (some ⟨D i,0,none⟩),.pointer (some ⟨M,0,none⟩)] w fun e w' =>
  e = .returned (.bool (decide (0<(s i).left)))∧DZs w' n D (upd s i (s i).stp) tk M ((s i).stpM mt) K E w0∧Chg (KC K w0.heap.size) w w':=by
 obtain ⟨a,h0,h1⟩:=h
 have hv:=h1.v i hi
 have hls:=h1.lens hi
 unfold LensV at hls
 rw [←h0 i hi]
 unfold DuS.left DuS.stp DuS.stpM
 rcases hv.m with ⟨bcap,hA⟩ | ⟨bcap,fcap,cap5,hB⟩
 · have hb0:¬ (s i).bare=0:=by have:=hA.hb;omega
   rw [decide_eq_false hb0] at hls
   rw [if_neg hb0,if_neg hb0,decide_eq_true (show 0<(s i).bare+((s i).T.n-(s i).nx) by have:=hA.hb;omega)]
   refine (hA.step hv.ok h1.m hls h1.ml).mono ?_
   rintro e w' ⟨rfl,⟨a',g1,g2,g3⟩,g4,g5⟩
   obtain ⟨t1,t2⟩:=h1.turn hi g1 g4 h1.ml (fun b e=>by
    obtain ⟨x,hx,rfl⟩:=e
    by_cases hx2:Used (s i).k false x
    · rw [g2 x hx2]
      exact .inl ⟨x,by rw [decide_eq_false hb0];exact hx2,rfl⟩
    · have hx3:Used (s i).k (decide ((s i).bare-1=0)) x:=hx
      unfold Used at hx2 hx3
      simp only [Bool.false_eq_true,false_and,false_or] at hx2
      rcases hx3 with e | ⟨e1,e2⟩|e
      · exact absurd (.inl e) hx2
      · rcases g3 x (by omega) e2 with e3|e3
        · exact .inr e3
        · rw [decide_eq_true_eq] at e1;omega
      · exact absurd (.inr e) hx2) g5
   exact ⟨rfl,.of_turn h0 (g2 0 (.lt4 (by decide))) t1,t2⟩
 · have hb0:=hB.hb
   have hxn:=hv.ok.hx
   rw [decide_eq_true hb0] at hls
   rw [if_pos hb0,if_pos hb0]
   by_cases hn:(s i).nx<(s i).T.n
   · rw [if_pos hn,if_pos hn,decide_eq_true (show 0<(s i).bare+((s i).T.n-(s i).nx) by omega)]
     refine (hB.stepOk hv.ok h1.m hls h1.ml hn (hev hb0 hn)).mono ?_
     rintro e w' ⟨rfl,g1,g2,g3⟩
     obtain ⟨t1,t2⟩:=h1.turn hi g1 g2 ((addN_limited _ _ _ _ _).trans h1.ml) (fun b e => .inl ((duX_eq ⟨rfl,rfl⟩ b).1 e)) g3
     exact ⟨rfl,.of_turn h0 rfl t1,t2⟩
   · rw [if_neg hn,if_neg hn,decide_eq_false (show ¬0<(s i).bare+((s i).T.n-(s i).nx) by omega)]
     refine (hB.stepNo hv.ok h1.m hls (by omega)).mono ?_
     rintro e w' ⟨rfl,g1⟩
     rw [upd_self]
     exact ⟨rfl,⟨a,h0,h1.later g1⟩,Chg.of_below g1⟩
theorem DZs.ready {i:Nat} (h:DZs w n D s tk M mt K E w0) (hi:i<n):Calls Tryz.prog 36 #[.pointer (some ⟨D i,0,none⟩)] w fun e w'=>e = .returned (.bool (decide ((s i).bare=0)))∧w=w':=by
 obtain ⟨a,h0,h1⟩:=h
 rw [←h0 i hi]
 rcases (h1.v i hi).m with ⟨bcap,hA⟩ | ⟨bcap,fcap,cap5,hB⟩
 · rw [decide_eq_false (by have:=hA.hb;omega)];exact hA.ready
 · rw [decide_eq_true hB.hb];exact hB.ready
theorem DZs.left {i:Nat} (h:DZs w n D s tk M mt K E w0) (hi:i<n):Calls Tryz.prog 35 #[.pointer (some ⟨D i,0,none⟩)] w fun e w'=>e = .returned (.int .i64 (((s i).left:Nat):Int))∧Below w.heap.size w w':=by
 obtain ⟨a,h0,h1⟩:=h
 rw [←h0 i hi]
 exact (h1.v i hi).left
theorem DZs.len {i:Nat} (h:DZs w n D s tk M mt K E w0) (hi:i<n):Calls Tryz.prog 37 #[.pointer (some ⟨D i,0,none⟩)] w fun e w'=>e = .returned (.int .i64 (((s i).all (s i).k).length:Int))∧Below w.heap.size w w':=by
 obtain ⟨a,h0,h1⟩:=h
 rw [←h0 i hi]
 exact (h1.v i hi).len
theorem DZ.congr {s':Nat→DuS} (h:DZ w n a s tk M mt K E w0) (e:∀i,i<n→s i=s' i):DZ w n a s' tk M mt K E w0 :=
 ⟨fun i hi=>by rw [←e i hi];exact h.v i hi,h.m,h.ml,h.mz,fun i hi=>by rw [←e i hi];exact h.am i hi,fun i j hi hj=>by rw [←e i hi,←e j hj];exact h.ap i j hi hj,h.kz,h.hb⟩
end
def D1s (w:World) (D:Nat) (s:DuS) (tk:Bool) (M:Nat) (mt:MeterS) (K:Nat→Prop) (E:Nat→Addr) (w0:World):Prop:=DZs w 1 (fun _=>D) (fun _=>s) tk M mt K E w0
section
variable {w w' w0:World} {D:Nat} {s:DuS} {tk:Bool} {M:Nat} {mt mt':MeterS} {K:Nat→Prop} {E:Nat→Addr}
theorem D1s.mk {a:Nat→Nat} (hv:DuV w a s tk E w0) (hm:Blk w M 36 mt.cells) (hl:mt.limited=false) (hM:w0.heap.size≤M∧¬K M) (hX:∀b,DuX a s b→b≠M∧¬K b) (hK:∀b,K b→b<w.heap.size):D1s w (a 0) s tk M mt K E w0 :=
 ⟨fun _=>a,fun _ _=>rfl,fun _ _=>hv,hm,hl,hM,fun _ _=>hX,fun i j hi hj hij=>by omega,hK,hv.bel⟩
theorem D1s.of_upd {s':DuS} (h:DZs w' 1 (fun _=>D) (upd (fun _=>s) 0 s') tk M mt' K E w0):D1s w' D s' tk M mt' K E w0:=by
 obtain ⟨a,h0,h1⟩:=h
 refine ⟨a,h0,h1.congr (fun i hi=>?_)⟩
 obtain rfl:i=0:=by omega
 exact upd_same _ _ _
theorem D1s.later (h:D1s w D s tk M mt K E w0) (hb:Below w.heap.size w w'):D1s w' D s tk M mt K E w0:=DZs.later h hb
theorem D1s.kept {Y:Nat→Prop} (h:D1s w D s tk M mt K E w0) (hc:Chg Y w w') (hY:∀b,Y b→K b∧w0.heap.size≤b):D1s w' D s tk M mt K E w0:=DZs.kept h hc hY
theorem D1s.put (h:D1s w D s tk M mt K E w0) (key v:Int) (hh:Nat) (hb:hh<18446744073709551616) (more:Bool) (x y z:Int) :
 Calls Tryz.prog 11 #[.pointer (some ⟨D,0,none⟩),.agg #[.pointer (some ⟨M,0,none⟩),.int .i64 x,.int .i64 y,.int .i64 z],.agg #[.int .u64 key,.int .u64 v,.int .u64 (hh:Int)],.bool more] w fun e w' =>
  e = .returned (.tuple #[.bool (s.putB key hh more),errN E (s.putN key hh more)])∧D1s w' D (s.put key v hh more) tk M (addN mt x y z (s.lkU key hh+s.lkT key hh)) K E w0∧Chg (KC K w0.heap.size) w w':=by
 refine (DZs.put h (by decide:0<1) key v hh hb more x y z).mono ?_
 rintro e w' ⟨rfl,h1,h2⟩
 exact ⟨rfl,.of_upd h1,h2⟩
theorem D1s.del (h:D1s w D s tk M mt K E w0) (key:Int) (hh:Nat) (hb:hh<18446744073709551616) (x y z:Int) :
 Calls Tryz.prog 15 #[.pointer (some ⟨D,0,none⟩),.agg #[.pointer (some ⟨M,0,none⟩),.int .i64 x,.int .i64 y,.int .i64 z],.int .u64 key,.int .u64 (hh:Int)] w fun e w' =>
  e = .returned (.tuple #[.agg #[.int .u64 (s.ent key hh).key,.int .u64 (s.ent key hh).val,.int .u64 (s.ent key hh).hash],.bool (s.has key hh)])∧D1s w' D (s.del key hh) tk M (addN mt x y z (s.lkU key hh+s.lkT key hh)) K E w0∧Chg (KC K w0.heap.size) w w':=by
 refine (DZs.del h (by decide:0<1) key hh hb x y z).mono ?_
 rintro e w' ⟨rfl,h1,h2⟩
 exact ⟨rfl,.of_upd h1,h2⟩
theorem D1s.find (h:D1s w D s tk M mt K E w0) (key:Int) (hh:Nat) (hb:hh<18446744073709551616) (x y z:Int) :
 Calls Tryz.prog 17 #[.pointer (some ⟨D,0,none⟩),.agg #[.pointer (some ⟨M,0,none⟩),.int .i64 x,.int .i64 y,.int .i64 z],.int .u64 key,.int .u64 (hh:Int)] w fun e w' =>
  e = .returned (.tuple #[.agg #[.int .u64 (s.ent key hh).key,.int .u64 (s.ent key hh).val,.int .u64 (s.ent key hh).hash],.bool (s.has key hh)])∧D1s w' D s tk M (addN mt x y z (s.lkU key hh+s.lkT key hh)) K E w0∧Chg (KC K w0.heap.size) w w':=DZs.find h (by decide:0<1) key hh hb x y z
theorem D1s.step (h:D1s w D s tk M mt K E w0) (hev:s.evOk) :
 Calls Tryz.prog 30 #[.pointer (some ⟨D,0,none⟩),.pointer (some ⟨M,0,none⟩)] w fun e w' =>
  e = .returned (.bool (decide (0<s.left)))∧D1s w' D s.stp tk M (s.stpM mt) K E w0∧Chg (KC K w0.heap.size) w w':=by
 refine (DZs.step h (by decide:0<1) hev).mono ?_
 rintro e w' ⟨rfl,h1,h2⟩
 exact ⟨rfl,.of_upd h1,h2⟩
theorem D1s.ready (h:D1s w D s tk M mt K E w0):Calls Tryz.prog 36 #[.pointer (some ⟨D,0,none⟩)] w fun e w'=>e = .returned (.bool (decide (s.bare=0)))∧w=w':=DZs.ready h (by decide:0<1)
theorem D1s.left (h:D1s w D s tk M mt K E w0):Calls Tryz.prog 35 #[.pointer (some ⟨D,0,none⟩)] w fun e w'=>e = .returned (.int .i64 ((s.left:Nat):Int))∧Below w.heap.size w w':=DZs.left h (by decide:0<1)
theorem D1s.len (h:D1s w D s tk M mt K E w0):Calls Tryz.prog 37 #[.pointer (some ⟨D,0,none⟩)] w fun e w'=>e = .returned (.int .i64 ((s.all s.k).length:Int))∧Below w.heap.size w w':=DZs.len h (by decide:0<1)
theorem D1s.v (h:D1s w D s tk M mt K E w0):∃a,a 0=D∧DuV w a s tk E w0:=by
 obtain ⟨a,h0,h1⟩:=h
 exact ⟨a 0,h0 0 (by decide),h1.v 0 (by decide)⟩
end
section
variable {s:DuS} {H:Int→Nat}
def DuS.ok (s:DuS) (q:Int) (h:Nat):Bool:=s.has q h || decide (1≤(s.fst h).left)
theorem DuF.put_at (h:DuF s H) (q v:Int) (hh:H q<18446744073709551616) (q':Int) :
 (s.put q v (H q) true).has q' (H q')=(if q'=q then s.ok q (H q) else s.has q' (H q'))∧
  (s.put q v (H q) true).ent q' (H q')=if q'=q then (if s.ok q (H q)=true then ⟨q,v,H q⟩ else EntS.zero) else s.ent q' (H q'):=by
 have h':=h.put q v hh true
 rw [h'.has_eq,h'.ent_eq,h.has_eq,h.ent_eq]
 have hu:=h.u.at h.ok.hk q v hh _ (h.ok.yk (H q')) q'
 have ht:=h.t.put_at q v hh q'
 have hap:=h.apart q
 unfold DuS.ok
 rw [h.has_eq]
 unfold DuS.put DuS.fst
 rw [h.inU_eq]
 rw [show tIx s.k s.d (H q)=s.y (H q) from rfl] at hu
 cases c1:(s.U (s.y (H q))).has q (H q) with
 | true =>
  rw [if_pos rfl]
  show ((upd s.U (s.y (H q)) ((s.U (s.y (H q))).putT q v (H q)) (s.y (H q'))).has q' (H q') || s.T.has q' (H q'))=_∧(if (upd s.U (s.y (H q)) ((s.U (s.y (H q))).putT q v (H q)) (s.y (H q'))).has q' (H q')=true then (upd s.U (s.y (H q)) ((s.U (s.y (H q))).putT q v (H q)) (s.y (H q'))).ent q' (H q') else s.T.ent q' (H q'))=_
  rw [hu.1,hu.2]
  unfold TabS.ok
  rw [c1]
  by_cases e:q'=q
  · subst e;simp
  · simp [e]
 | false =>
  rw [if_neg Bool.false_ne_true]
  cases c2:s.T.has q (H q) with
  | true =>
   rw [if_pos rfl]
   show ((s.U (s.y (H q'))).has q' (H q') || (s.T.putT q v (H q)).has q' (H q'))=_∧(if (s.U (s.y (H q'))).has q' (H q')=true then (s.U (s.y (H q'))).ent q' (H q') else (s.T.putT q v (H q)).ent q' (H q'))=_
   rw [ht.1,ht.2]
   unfold TabS.ok
   rw [c2]
   by_cases e:q'=q
   · subst e;simp [c1]
   · simp [e]
  | false =>
   rw [if_neg Bool.false_ne_true,if_neg (by decide)]
   by_cases hb:s.bare=0
   · rw [if_pos hb,if_pos hb]
     show ((upd s.U (s.y (H q)) ((s.U (s.y (H q))).putT q v (H q)) (s.y (H q'))).has q' (H q') || s.T.has q' (H q'))=_∧(if (upd s.U (s.y (H q)) ((s.U (s.y (H q))).putT q v (H q)) (s.y (H q'))).has q' (H q')=true then (upd s.U (s.y (H q)) ((s.U (s.y (H q))).putT q v (H q)) (s.y (H q'))).ent q' (H q') else s.T.ent q' (H q'))=_
     rw [hu.1,hu.2]
     unfold TabS.ok
     rw [c1]
     by_cases e:q'=q
     · subst e
       by_cases e2:1≤(s.U (s.y (H q'))).left
       · simp [e2]
       · simp [e2,c2,TFun.ent_not c2]
     · simp [e]
   · rw [if_neg hb,if_neg hb]
     show ((s.U (s.y (H q'))).has q' (H q') || (s.T.putT q v (H q)).has q' (H q'))=_∧(if (s.U (s.y (H q'))).has q' (H q')=true then (s.U (s.y (H q'))).ent q' (H q') else (s.T.putT q v (H q)).ent q' (H q'))=_
     rw [ht.1,ht.2]
     unfold TabS.ok
     rw [c2]
     by_cases e:q'=q
     · subst e;simp [c1]
     · simp [e]
structure DuL (s:DuS) (H:Int→Nat) (m c:Int) (P:Int→Bool) (V:Int→EntS):Prop where
 f:DuF s H
 p:∀q,s.has q (H q)=P q
 e:∀q,s.ent q (H q)=V q
 c:s.T.lv+lvSum s.U s.k=c
 l1:s.T.lv+ltSum s.U s.k≤m
 l2:0<s.bare→s.T.lv+s.T.tb≤m
 z:∀q g' k',s.T.At q g' k'→s.nx≤g'
def putP (P:Int→Bool) (q:Int) (b:Bool):Int→Bool:=fun q'=>if q'=q then b else P q'
def putV (V:Int→EntS) (q:Int) (e:EntS):Int→EntS:=fun q'=>if q'=q then e else V q'
variable {m c:Int} {P:Int→Bool} {V:Int→EntS}
theorem DuL.k12 (h:DuL s H m c P V):s.k=1∨s.k=2:=by have:=h.f.ok.hk;omega
theorem DuL.u0 (h:DuL s H m c P V):∀i,i<s.k→0≤(s.U i).lv+(s.U i).tb:=fun i hi=>by have:=(h.f.ok.u i hi).1.bounds;omega
theorem DuL.okm (h:DuL s H m c P V) (hm:m<7*(s.gn:Int)) (hm2:0<s.bare→m<7*(s.T.n:Int)) (q:Int):s.ok q (H q)=true:=by
 have hy:=h.f.ok.yk (H q)
 have hb:=h.f.t.good.bounds
 have hle:=ltSum_le h.k12 hy h.u0
 have h1:=h.l1
 have:1≤(s.fst (H q)).left:=by
  unfold DuS.fst TabS.left
  split
  · rw [(h.f.ok.u _ hy).2];omega
  · rename_i c
    have:=h.l2 (by omega);have:=hm2 (by omega);omega
 unfold DuS.ok
 rw [decide_eq_true this,Bool.or_true]
theorem at_putT_has {T:TabS} {q v:Int} {h:Nat} (hh:T.has q h=true) {i:Int} {g k:Nat} (ha:(T.putT q v h).At i g k):T.At i g k:=by
 unfold TabS.putT at ha
 rw [if_pos hh] at ha
 exact (at_setV _ _ _ _ _ _ _).1 ha
theorem DuL.put (h:DuL s H m c P V) (q v:Int) (hh:H q<18446744073709551616) :
 DuL (s.put q v (H q) true) H (m+1) (c+if (!P q && s.ok q (H q))=true then 1 else 0) (putP P q (s.ok q (H q))) (putV V q (if s.ok q (H q)=true then ⟨q,v,H q⟩ else EntS.zero)):=by
 have hy:=h.f.ok.yk (H q)
 have hat:=fun q'=>h.f.put_at q v hh q'
 have hp:=h.p q
 have hl1:=h.l1
 have hc:=h.c
 have hput:(!P q && s.ok q (H q))=(!s.has q (H q) && decide (1≤(s.fst (H q)).left)):=by
  unfold DuS.ok;cases e:P q <;> rw [e] at hp <;> simp [hp]
 refine ⟨h.f.put q v hh true,fun q'=>by rw [(hat q').1];unfold putP;rw [h.p],fun q'=>by rw [(hat q').2];unfold putV;rw [h.e],?_,?_,?_,?_⟩
 · rw [hput,h.f.has_eq]
   unfold DuS.put DuS.fst
   rw [h.f.inU_eq]
   cases c1:(s.U (s.y (H q))).has q (H q) with
   | true =>
    rw [if_pos rfl]
    show s.T.lv+lvSum (upd s.U (s.y (H q)) _) s.k=_
    rw [lvSum_upd h.k12 hy,((h.f.u.f _ hy).put_lv q v).1,(h.f.u.f _ hy).putB,c1]
    simp;omega
   | false =>
    rw [if_neg Bool.false_ne_true]
    cases c2:s.T.has q (H q) with
    | true =>
     rw [if_pos rfl]
     show (s.T.putT q v (H q)).lv+lvSum s.U s.k=_
     rw [(h.f.t.put_lv q v).1,h.f.t.putB,c2]
     simp;omega
    | false =>
     rw [if_neg Bool.false_ne_true,if_neg (by decide)]
     by_cases hb:s.bare=0
     · rw [if_pos hb,if_pos hb]
       show s.T.lv+lvSum (upd s.U (s.y (H q)) _) s.k=_
       rw [lvSum_upd h.k12 hy,((h.f.u.f _ hy).put_lv q v).1,(h.f.u.f _ hy).putB,c1]
       simp only [Bool.not_false,Bool.true_and,Bool.or_self]
       omega
     · rw [if_neg hb,if_neg hb]
       show (s.T.putT q v (H q)).lv+lvSum s.U s.k=_
       rw [(h.f.t.put_lv q v).1,h.f.t.putB,c2]
       simp only [Bool.not_false,Bool.true_and,Bool.or_self]
       omega
 · have u1:ltSum (upd s.U (s.y (H q)) ((s.U (s.y (H q))).putT q v (H q))) s.k≤ltSum s.U s.k+1:=by
    rw [ltSum_upd h.k12 hy]
    have:=put_lt (T:=s.U (s.y (H q))) q v (H q)
    split at this <;> omega
   have t1:(s.T.putT q v (H q)).lv≤s.T.lv+1:=by
    rw [(h.f.t.put_lv q v).1];split <;> omega
   unfold DuS.put
   split
   · show s.T.lv+ltSum (upd s.U (s.y (H q)) _) s.k≤_;omega
   · split
     · show (s.T.putT q v (H q)).lv+ltSum s.U s.k≤_;omega
     · split
       · show s.T.lv+ltSum s.U s.k≤_;omega
       · split
         · show s.T.lv+ltSum (upd s.U (s.y (H q)) _) s.k≤_;omega
         · show (s.T.putT q v (H q)).lv+ltSum s.U s.k≤_;omega
 · have t1:(s.T.putT q v (H q)).lv+(s.T.putT q v (H q)).tb≤s.T.lv+s.T.tb+1:=by
    have:=put_lt (T:=s.T) q v (H q)
    split at this <;> omega
   have hl2:=h.l2
   unfold DuS.put
   split
   · intro hb;have:=hl2 hb;show s.T.lv+s.T.tb≤_;omega
   · split
     · intro hb;have:=hl2 hb;show (s.T.putT q v (H q)).lv+(s.T.putT q v (H q)).tb≤_;omega
     · split
       · intro hb;have:=hl2 hb;show s.T.lv+s.T.tb≤_;omega
       · split
         · intro hb;have:=hl2 hb;show s.T.lv+s.T.tb≤_;omega
         · intro hb;have:=hl2 hb;show (s.T.putT q v (H q)).lv+(s.T.putT q v (H q)).tb≤_;omega
 · unfold DuS.put
   split
   · exact h.z
   · split
     · rename_i c2
       intro q' g' k' ha
       exact h.z q' g' k' (at_putT_has c2 ha)
     · split
       · exact h.z
       · split
         · exact h.z
         · rename_i hb
           intro q' g' k' _
           have:=(h.f.ok.pre (by omega)).1
           show s.nx≤g'
           omega
theorem DuL.new {k d gn:Nat} {T:TabS} (hk:k=1∨(k=2∧d≤15)) (hr:rightB (gn:Int)=true) (hT:TFun T H) (hm:T.lv+T.tb≤m) :
 DuL ⟨k,d,gn,k*gn,0,T,fun _=>TabS.new gn⟩ H m T.lv (fun q=>T.has q (H q)) (fun q=>T.ent q (H q)):=by
 have hk':k=1∨k=2:=by omega
 have hgn:1≤gn:=by rw [rightB_iff] at hr;omega
 have hb:¬k*gn=0:=by rcases hk' with rfl|rfl <;> omega
 have hG:∀i,i<k→TGood (TabS.new gn)∧(TabS.new gn).n=gn:=fun i _=>⟨TGood.new hr,rfl⟩
 have hbd:=hT.good.bounds
 have z1:lvSum (fun _=>TabS.new gn) k=0:=by rcases hk' with rfl|rfl;rw [lvSum_one];rfl;rw [lvSum_two];rfl
 have z2:ltSum (fun _=>TabS.new gn) k=0:=by rcases hk' with rfl|rfl;rw [ltSum_one];rfl;rw [ltSum_two];rfl
 refine ⟨⟨⟨hk,hr,Nat.le_refl _,Nat.zero_le _,hT.good,hG,fun _=>⟨rfl,fun _ _=>rfl⟩⟩,hT,⟨fun _ _=>TFun.new hr H,fun i _ q hq=>by rw [new_no hr] at hq;cases hq⟩,fun q _=>new_no hr H q⟩,fun q=>?_,fun q=>?_,?_,?_,fun _=>hm,fun q g' k' _=>Nat.zero_le _⟩
 · unfold DuS.has DuS.inU
   dsimp only
   rw [decide_eq_false hb,Bool.false_and,Bool.false_or]
 · unfold DuS.ent DuS.inU
   dsimp only
   rw [decide_eq_false hb,Bool.false_and,if_neg Bool.false_ne_true]
 · show T.lv+lvSum (fun _=>TabS.new gn) k=T.lv
   rw [z1];omega
 · show T.lv+ltSum (fun _=>TabS.new gn) k≤m
   rw [z2];omega
end
section
variable {g gn:Nat} {H:Int→Nat} {kx:Nat→Int} {v:Int}
structure DuK (s:DuS) (H:Int→Nat) (g gn:Nat) (m c:Int) (P:Int→Bool) (V:Int→EntS):Prop where
 l:DuL s H m c P V
 n:s.gn=gn∧s.T.n=g
variable {s:DuS} {m c:Int} {P:Int→Bool} {V:Int→EntS}
theorem put_gn (s:DuS) (q v:Int) (h:Nat) (more:Bool):(s.put q v h more).gn=s.gn∧(s.put q v h more).T.n=s.T.n∧(s.put q v h more).nx=s.nx:=by
 unfold DuS.put
 split
 · exact ⟨rfl,rfl,rfl⟩
 · split
   · exact ⟨rfl,putT_nn _ _ _ _,rfl⟩
   · split
     · exact ⟨rfl,rfl,rfl⟩
     · split
       · exact ⟨rfl,rfl,rfl⟩
       · exact ⟨rfl,putT_nn _ _ _ _,rfl⟩
theorem del_gn (s:DuS) (q:Int) (h:Nat):(s.del q h).gn=s.gn∧(s.del q h).T.n=s.T.n∧(s.del q h).nx=s.nx:=by
 unfold DuS.del
 split
 · exact ⟨rfl,rfl,rfl⟩
 · exact ⟨rfl,delT_nn _ _ _,rfl⟩
theorem DuK.okm (h:DuK s H g gn m c P V) (hm:m<7*(gn:Int)) (hm2:m<7*(g:Int)) (q:Int):s.ok q (H q)=true:=h.l.okm (by rw [h.n.1];exact hm) (fun _=>by rw [h.n.2];exact hm2) q
theorem DuK.put (h:DuK s H g gn m c P V) (hm:m<7*(gn:Int)) (hm2:m<7*(g:Int)) (q v:Int) (hh:H q<18446744073709551616):DuK (s.put q v (H q) true) H g gn (m+1) (c+if P q=true then 0 else 1) (putP P q true) (putV V q ⟨q,v,H q⟩):=by
 have h1:=h.l.put q v hh
 rw [h.okm hm hm2 q,if_pos rfl,Bool.and_true] at h1
 rw [show (if (!P q)=true then (1:Int) else 0)=if P q=true then 0 else 1 by cases P q <;> rfl] at h1
 obtain ⟨e1,e2,-⟩:=put_gn s q v (H q) true
 exact ⟨h1,by rw [e1,e2];exact h.n⟩
end
def caseD (old new depth:Int) (h ks:Value):Array Value := #[.int .i64 old,.int .i64 new,.int .i64 depth,h,ks]
theorem cased_cells {w:World} {B:Nat} {T:TypeId} {old new depth:Int} {h ks:Value} (hb:Blk w B T (caseD old new depth h ks)):w.cell? ⟨B,0,none⟩=some (.int .i64 old)∧w.cell? ⟨B,1,none⟩=some (.int .i64 new)∧w.cell? ⟨B,2,none⟩=some (.int .i64 depth)∧
 w.cell? ⟨B,3,none⟩=some h∧w.cell? ⟨B,4,none⟩=some ks∧B<w.heap.size:=⟨hb.cell 0,hb.cell 1,hb.cell 2,hb.cell 3,hb.cell 4,hb.lt⟩
theorem entry13_any (old new depth:Int) (ks:Value) (b off n cap:Nat) (h1:1≤n) (h2:n≤1000) (G:Nat→Nat) (key val:Int) (w:World) (hb:b<w.heap.size) (hc:∀i,i<n→w.cell? ⟨b,off+i,none⟩=some (.int .u64 (G i:Int))) (hks:ks.oneCell'=true) :
 Calls Tryz.prog 8 #[.agg (caseD old new depth (.slice (some ⟨b,off,none⟩) n cap) ks),.int .i64 key,.int .u64 val] w fun e w' =>
  e = .returned (.agg #[.int .u64 (keyI key n:Int),.int .u64 val,.int .u64 (G (keyI key n):Int)])∧Below w.heap.size w w':=by
 have hk:=keyI_lt key n h1
 have hcell:=hc (keyI key n) hk
 have e1:IntKind.u64.wrap (n:Int)=(n:Int):=by rw [IntKind.wrap_u64];omega
 have hkey:(IntKind.u64.wrap key).tmod (n:Int)=(keyI key n:Int):=by
  have hw:=wrap_u64_bd key
  unfold keyI
  rw [Int.tmod_eq_emod_of_nonneg hw.1]
  have h2:=Int.emod_nonneg (IntKind.u64.wrap key) (show (n:Int)≠0 by omega)
  omega
 have HK:=hiq hkey
 clear hkey
 obtain ⟨x,hx⟩:=exq (keyI key n)
 rw [←hx] at hk hcell HK ⊢
 have e2:IntKind.i64.wrap (x:Int)=(x:Int):=by rw [IntKind.wrap_i64];omega
 have e3:IntKind.u64.wrap (x:Int)=(x:Int):=by rw [IntKind.wrap_u64];omega
 have hxI:(x:Int)<(n:Int):=by omega
 generalize G x=gx at *
 have hkey:=HK.out
 unfold caseD
 clear hx hc HK
 go_enter Tryz.func8,Tryz.ntmps8
 go_wp2
 refine wp_end_at (fun Wf hWf=>?_)
 have hR:Blk Wf (w.heap.size+1) 41 #[.int .u64 (x:Int),.int .u64 val,.int .u64 (gx:Int)]:=by rw [hWf];exact Blk.new_at (by simp)
 have hC:Below w.heap.size w Wf:=by rw [hWf];go_grown
 obtain ⟨r0,r1,r2⟩:=cells3 hR
 exact bodyPost_ret (v := .agg #[.int .u64 (x:Int),.int .u64 val,.int .u64 (gx:Int)]) (by simp [results,Tryz.results8,go_sem,r0,r1,r2]) rfl ⟨rfl,hC⟩
def ShortD (old new:Int) (n1 n2:Nat):Prop:=1≤n1∧n1≤60∧n2≤60∧rightB old=true∧old≤16∧(rightB new=true→new≤32)
instance (old new:Int) (n1 n2:Nat):Decidable (ShortD old new n1 n2):=by unfold ShortD;infer_instance
theorem long13_any (old new depth:Int) (a1 a2:Option Addr) (n1 n2 c1 c2:Nat) (w:World) :
 Calls Tryz.prog 6 #[.agg (caseD old new depth (.slice a1 n1 c1) (.slice a2 n2 c2))] w fun e w'=>e = .returned (.bool (!decide (ShortD old new n1 n2)))∧Below w.heap.size w w':=by
 have RO:=hiq (fun (w':World)=>refRight_any old w')
 have RN:=hiq (fun (w':World)=>refRight_any new w')
 unfold caseD
 by_cases h1:¬ (1≤n1)
 · rw [decide_eq_false (show ¬ShortD old new n1 n2 from fun h=>by unfold ShortD at h;exact h1 h.1)]
   have d1:¬ ((n1:Int)≥1):=by omega
   have e1:(n1:Int)<1:=by omega
   simp only [Bool.not_false]
   go_enter Tryz.func6,Tryz.ntmps6
   go_wp2_with (first
    | (go_at_call 44;(with_reducible refine (RO.out _).mono ?_);rintro e w' ⟨rfl,rfl⟩)
    | (go_at_call 44;(with_reducible refine (RN.out _).mono ?_);rintro e w' ⟨rfl,rfl⟩))
   go_ret
   exact ⟨rfl,by go_grown⟩
 replace h1:=Classical.not_not.1 h1
 have e1:(1:Int)≤(n1:Int):=by omega
 by_cases h2:¬ (n1≤60)
 · rw [decide_eq_false (show ¬ShortD old new n1 n2 from fun h=>by unfold ShortD at h;exact h2 h.2.1)]
   have e2:(60:Int)<(n1:Int):=by omega
   simp only [Bool.not_false]
   go_enter Tryz.func6,Tryz.ntmps6
   go_wp2_with (first
    | (go_at_call 44;(with_reducible refine (RO.out _).mono ?_);rintro e w' ⟨rfl,rfl⟩)
    | (go_at_call 44;(with_reducible refine (RN.out _).mono ?_);rintro e w' ⟨rfl,rfl⟩))
   go_ret
   exact ⟨rfl,by go_grown⟩
 replace h2:=Classical.not_not.1 h2
 have e2:(n1:Int)≤60:=by omega
 by_cases h3:¬ (n2≤60)
 · rw [decide_eq_false (show ¬ShortD old new n1 n2 from fun h=>by unfold ShortD at h;exact h3 h.2.2.1)]
   have e3:(60:Int)<(n2:Int):=by omega
   simp only [Bool.not_false]
   go_enter Tryz.func6,Tryz.ntmps6
   go_wp2_with (first
    | (go_at_call 44;(with_reducible refine (RO.out _).mono ?_);rintro e w' ⟨rfl,rfl⟩)
    | (go_at_call 44;(with_reducible refine (RN.out _).mono ?_);rintro e w' ⟨rfl,rfl⟩))
   go_ret
   exact ⟨rfl,by go_grown⟩
 replace h3:=Classical.not_not.1 h3
 have e3:(n2:Int)≤60:=by omega
 by_cases h5:¬ (rightB old=true)
 · rw [decide_eq_false (show ¬ShortD old new n1 n2 from fun h=>by unfold ShortD at h;exact h5 h.2.2.2.1)]
   replace h5:rightB old=false:=by simpa using h5
   rw [h5] at RO
   simp only [Bool.not_false]
   go_enter Tryz.func6,Tryz.ntmps6
   go_wp2_with (first
    | (go_at_call 44;(with_reducible refine (RO.out _).mono ?_);rintro e w' ⟨rfl,rfl⟩)
    | (go_at_call 44;(with_reducible refine (RN.out _).mono ?_);rintro e w' ⟨rfl,rfl⟩))
   go_ret
   exact ⟨rfl,by go_grown⟩
 replace h5:=Classical.not_not.1 h5
 rw [h5] at RO
 by_cases h7:¬ (old≤16)
 · rw [decide_eq_false (show ¬ShortD old new n1 n2 from fun h=>by unfold ShortD at h;exact h7 h.2.2.2.2.1)]
   have e7:16<old:=by omega
   simp only [Bool.not_false]
   go_enter Tryz.func6,Tryz.ntmps6
   go_wp2_with (first
    | (go_at_call 44;(with_reducible refine (RO.out _).mono ?_);rintro e w' ⟨rfl,rfl⟩)
    | (go_at_call 44;(with_reducible refine (RN.out _).mono ?_);rintro e w' ⟨rfl,rfl⟩))
   go_ret
   exact ⟨rfl,by go_grown⟩
 replace h7:=Classical.not_not.1 h7
 have e7:True:=trivial
 by_cases h6:rightB new=true
 · rw [h6] at RN
   by_cases h8:¬ (new≤32)
   · rw [decide_eq_false (show ¬ShortD old new n1 n2 from fun h=>by unfold ShortD at h;exact h8 (h.2.2.2.2.2 h6))]
     have e8:32<new:=by omega
     simp only [Bool.not_false]
     go_enter Tryz.func6,Tryz.ntmps6
     go_wp2_with (first
      | (go_at_call 44;(with_reducible refine (RO.out _).mono ?_);rintro e w' ⟨rfl,rfl⟩)
      | (go_at_call 44;(with_reducible refine (RN.out _).mono ?_);rintro e w' ⟨rfl,rfl⟩))
     go_ret
     exact ⟨rfl,by go_grown⟩
   replace h8:=Classical.not_not.1 h8
   rw [decide_eq_true (show ShortD old new n1 n2 from ⟨h1,h2,h3,h5,h7,fun _=>h8⟩)]
   simp only [Bool.not_true]
   have b1:decide ((n1:Int)<1)=false:=by simp;omega
   have b2:decide ((60:Int)<(n1:Int))=false:=by simp;omega
   have b3:decide ((60:Int)<(n2:Int))=false:=by simp;omega
   have b7:decide (16<old)=false:=by simp;omega
   have b8:decide (32<new)=false:=by simp;omega
   go_enter Tryz.func6,Tryz.ntmps6
   go_wp2_with (first
    | (go_at_call 44;(with_reducible refine (RO.out _).mono ?_);rintro e w' ⟨rfl,rfl⟩)
    | (go_at_call 44;(with_reducible refine (RN.out _).mono ?_);rintro e w' ⟨rfl,rfl⟩))
   go_ret
   exact ⟨rfl,by go_grown⟩
 · rw [decide_eq_true (show ShortD old new n1 n2 from ⟨h1,h2,h3,h5,h7,fun h=>absurd h h6⟩)]
   simp only [Bool.not_true]
   replace h6:rightB new=false:=by simpa using h6
   rw [h6] at RN
   have b1:decide ((n1:Int)<1)=false:=by simp;omega
   have b2:decide ((60:Int)<(n1:Int))=false:=by simp;omega
   have b3:decide ((60:Int)<(n2:Int))=false:=by simp;omega
   have b7:decide (16<old)=false:=by simp;omega
   go_enter Tryz.func6,Tryz.ntmps6
   go_wp2_with (first
    | (go_at_call 44;(with_reducible refine (RO.out _).mono ?_);rintro e w' ⟨rfl,rfl⟩)
    | (go_at_call 44;(with_reducible refine (RN.out _).mono ?_);rintro e w' ⟨rfl,rfl⟩))
   go_ret
   exact ⟨rfl,by go_grown⟩
attribute [local go_sem] neq_nilG eql_nilG
def dvT:Nat→TabS
 | 0=>TabS.new 1
 | k+1=>(dvT k).putT k 0 k
theorem dvT_put:∀k,k<3→(dvT k).putN k k=0:=by decide +kernel
def dvS:DuS:=DuS.newS 1 0 2 (dvT 3)
theorem dvS_0:dvS.left=3∧dvS.stp.stp.bare=0∧dvS.stp.left=2∧dvS.stp.stp.left=1∧dvS.stp.stp.stp.left=0∧dvS.stp.stp.stp.k=1∧(dvS.stp.stp.stp.all 1).length=3:=by decide +kernel
theorem dvS_b:dvS.bare=2∧dvS.stp.bare=1∧dvS.stp.stp.k=1∧dvS.stp.stp.d=0∧dvS.stp.stp.nx=0∧dvS.stp.stp.T.n=1∧dvS.stp.stp.stp.nx=1∧dvS.stp.stp.stp.T.n=1:=by decide +kernel
theorem dvS_ok:EvOk 1 0 (entsL (dvS.stp.stp.T.M 0) (dvS.stp.stp.T.S 0)) dvS.stp.stp.U:=by unfold EvOk;decide +kernel
theorem dvS_1:dvS.evOk:=fun h=>by rw [dvS_b.1] at h;cases h
theorem dvS_2:dvS.stp.evOk:=fun h=>by rw [dvS_b.2.1] at h;cases h
theorem dvS_3:dvS.stp.stp.evOk:=fun _ _=>by
 rw [dvS_b.2.2.1,dvS_b.2.2.2.1,dvS_b.2.2.2.2.1];exact dvS_ok
theorem dvS_4:dvS.stp.stp.stp.evOk:=fun _ h=>by rw [dvS_b.2.2.2.2.2.2.1,dvS_b.2.2.2.2.2.2.2] at h;cases h;rename_i h;cases h
theorem DZs.bel {w w0:World} {n:Nat} {D:Nat→Nat} {s:Nat→DuS} {tk:Bool} {M:Nat} {mt:MeterS} {K:Nat→Prop} {E:Nat→Addr} (h:DZs w n D s tk M mt K E w0):Below w0.heap.size w0 w:=by obtain ⟨a,-,h1⟩:=h;exact h1.hb
theorem D1s.bel {w w0:World} {D:Nat} {s:DuS} {tk:Bool} {M:Nat} {mt:MeterS} {K:Nat→Prop} {E:Nat→Addr} (h:D1s w D s tk M mt K E w0):Below w0.heap.size w0 w:=DZs.bel h
theorem dv_mk {w w1 w0:World} {a:Nat→Nat} {k d gn bcap O Q M:Nat} {T:TabS} {mt:MeterS} {K:Nat→Prop} {E:Nat→Addr} (hA:DuA w a (DuS.newS k d gn T) bcap false E w0) (hm:Blk w M 36 mt.cells) (hl:mt.limited=false) (hM:w0.heap.size≤M)
 (h1:a 1=O) (h2:a 2=Q) (hge:∀x,Used k false x→x≠1→x≠2→w1.heap.size≤a x) (hMO:M≠O) (hMQ:M≠Q) (hz:M<w1.heap.size) (hk:k=1∨(k=2∧d≤15):=by decide) (hr:rightB (gn:Int)=true:=by decide) (hK:∀b,¬K b:=by exact fun _ h=>h):D1s w (a 0) (DuS.newS k d gn T) false M mt K E w0:=by
 have hb0:¬ (DuS.newS k d gn T).bare=0:=by have:=hA.hb;omega
 refine D1s.mk ⟨DuOK.newS hk hr hA.t.good,.inl ⟨bcap,hA⟩⟩ hm hl ⟨hM,hK _⟩ (fun b hb=>⟨?_,hK b⟩) (fun b h=>absurd h (hK b))
 obtain ⟨x,hx,rfl⟩:=hb
 rw [decide_eq_false hb0] at hx
 by_cases e1:x=1
 · rw [e1,h1];exact hMO.symm
 · by_cases e2:x=2
   · rw [e2,h2];exact hMQ.symm
   · have:=hge x hx e1 e2;omega
theorem alive13_any (E:Nat→Addr) (w:World) (he:EC w E [1,2,4,5,14,16]) (hT:Tab64 w) :
 Calls Tryz.prog 5 #[] w fun e w'=>e = .returned (.bool true)∧Below w.heap.size w w':=by
 have HE:=hiq he
 have HT:=hiq hT
 have N1:=hiq (fun (w':World)=>tnew_ok 1 (by decide) w')
 simp only [show ((1:Nat):Int)=1 from rfl] at N1
 clear he hT
 go_enter Tryz.func5,Tryz.ntmps5
 go_wp2_with (go_at_call 39;(with_reducible refine (N1.out w).mono ?_);rintro e w1 ⟨O,Q,rfl,hO,hQ,ht,hb1⟩;have hz1:=hb1.size;have S1:=hiq (TMW.new (w0:=w) (n:=1) (by decide) HE.out HT.out (Below.refl _ _) ht hb1 hO hQ);have hlO:=S1.out.ltB;have hlQ:=S1.out.ltQ;have hOQ:=S1.out.ne;clear ht)
 have S3:=hiq (S1.out.alloc (.cells MeterS.zero.cells 36))
 have M3:=hiq (Blk.new w1 36 MeterS.zero.cells)
 simp only [MeterS.cells,MeterS.zero] at S3 M3
 obtain ⟨M,hM⟩:=exq w1.heap.size
 have hs:M≠O∧M≠Q∧w.heap.size≤M∧O<M∧Q<M:=by omega
 rw [←hM] at M3
 simp only [←hM]
 obtain ⟨hMO,hMQ,hM0,hOM,hQM⟩:=hs
 clear hM S1 hlO hlQ hz1 hb1 N1
 go_loopw [20] (fun v20 wr => ∃ (k:Nat) (mt:MeterS),k≤3∧v20 = .int .u64 (k:Int)∧TN wr O Q (dvT k) E w∧Blk wr M 36 mt.cells∧mt.limited=false) (fun v20 _=>3-(intOf v20).toNat)
 case atStart=>exact ⟨0,MeterS.zero,by omega,rfl,S3.out,M3.out,rfl⟩
 case round =>
  clear S3 M3
  obtain ⟨k,mt,hk,rfl,hS,hMb,hl⟩:=hrel
  have KS:=hiq hS
  have KM:=hiq hMb
  have HL:=hiq hl
  clear hS hMb hl
  by_cases hlt:k<3
  · have hltI:(k:Int)<3:=by omega
    have PU:=hiq (fun (w':World) (hs:TN w' O Q (dvT k) E w) hm=>TN.putM (mt:=mt) hs hm hMO hMQ hM0 (k:Int) 0 k (by omega) 1 0 0)
    rw [dvT_put k hlt,errN_0] at PU
    generalize (dvT k).putB (k:Int) k=pb at *
    go_wp2_with (first
     | (go_at_call 12;(with_reducible refine (probing_any _ _).mono ?_);rintro e w2 ⟨rfl,hb2⟩;have KS2:=hiq (KS.out.later hb2);have KM2:=hiq (KM.out.below hb2 KM.out.lt))
     | (go_at_call 40;refine (PU.out _ KS2.out KM2.out).mono ?_;rintro e w3 ⟨rfl,hs3,hm3,hc3⟩;have KS3:=hiq hs3;have KM3:=hiq hm3;clear hs3 hm3))
    go_roundw
    case rel=>exact ⟨k+1,_,by omega,by go_num,KS3.out,KM3.out,(addN_limited _ _ _ _ _).trans HL.out⟩
    case measure=>simp [intOf];omega
  · obtain rfl:k=3:=by omega
    have NW:=hiq (dualNew_ok (w:=wr) (k:=1) (d:=0) (gn:=2) (T:=dvT 3) (E:=E) (w0:=w) (-1) (.inl ⟨rfl,by decide,rfl⟩) (by decide) KS.out)
    simp only [show ((2:Nat):Int)=2 from rfl] at NW
    obtain ⟨z0,z1,z2,z3,z4,z5,z6⟩:=dvS_0
    have hz0:((dvS.left:Nat):Int)=3:=by rw [z0];rfl
    have hzl:decide (0<dvS.left)=true:=by rw [z0];rfl
    have hzl2:decide (0<dvS.stp.left)=true:=by rw [z2];rfl
    have hzl3:decide (0<dvS.stp.stp.left)=true:=by rw [z3];rfl
    have hzl4:decide (0<dvS.stp.stp.stp.left)=false:=by rw [z4];rfl
    have hzb:decide (dvS.stp.stp.bare=0)=true:=by rw [z1];rfl
    have hz6:(((dvS.stp.stp.stp.all dvS.stp.stp.stp.k).length:Nat):Int)=3:=by rw [z5,z6];rfl
    have hst4:dvS.stp.stp.stp.stp=dvS.stp.stp.stp:=by unfold DuS.stp;rfl
    have zwr:=KS.out.bel.size
    have zM:=KM.out.lt
    clear z0 z1 z2 z3 z4 z5 z6
    go_wp2_with (first
     | (go_at_call 41;(with_reducible refine NW.out.mono ?_);rintro e w2 ⟨a,bcap,rfl,hA,ha1,ha2,hge,hb2⟩;have D2:=hiq (show D1s w2 (a 0) dvS false M mt (fun _=>False) E w from dv_mk hA (KM.out.below hb2 zM) HL.out hM0 ha1 ha2 hge hMO hMQ zM);(generalize a 0=DD at *);clear ha1 ha2 hge hb2 hA)
     | (go_at_call 35;(with_reducible refine (D1s.left D2.out).mono ?_);rw [hz0];rintro e w3 ⟨rfl,hb3⟩;have D3:=hiq (D1s.later D2.out hb3);clear hb3 D2)
     | (go_at_call 30;(with_reducible refine (D1s.step D3.out dvS_1).mono ?_);rw [hzl];rintro e w4 ⟨rfl,hd4,-⟩;have D4:=hiq hd4;clear hd4 D3)
     | (go_at_call 30;(with_reducible refine (D1s.step D4.out dvS_2).mono ?_);rw [hzl2];rintro e w5 ⟨rfl,hd5,-⟩;have D5:=hiq hd5;clear hd5 D4)
     | (go_at_call 36;(with_reducible refine (D1s.ready D5.out).mono ?_);rw [hzb];rintro e w' ⟨rfl,rfl⟩)
     | (go_at_call 30;(with_reducible refine (D1s.step D5.out dvS_3).mono ?_);rw [hzl3];rintro e w6 ⟨rfl,hd6,-⟩;have D6:=hiq hd6;clear hd6 D5)
     | (go_at_call 30;(with_reducible refine (D1s.step D6.out dvS_4).mono ?_);rw [hzl4];rintro e w7 ⟨rfl,hd7,-⟩;rw [hst4] at hd7;have D7:=hiq hd7;clear hd7 D6)
     | (go_at_call 37;(with_reducible refine (D1s.len D7.out).mono ?_);rw [hz6];rintro e w8 ⟨rfl,hb8⟩))
    go_ret
    exact ⟨rfl,(D7.out.bel).trans (hb8.mono D7.out.bel.size)⟩
end Go.Proofs.YtcnkgiapidlbkaaGreatDoor
