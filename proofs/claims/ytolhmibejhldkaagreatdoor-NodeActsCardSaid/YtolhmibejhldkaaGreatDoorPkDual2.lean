/- Joined texts; conditions within. -/
import Derived.Test.YtolhmibejhldkaaGreatDoorPkDual1
set_option linter.unusedVariables false
set_option linter.unusedSimpArgs false
set_option maxRecDepth 100000
set_option maxHeartbeats 16000000
namespace Go.Proofs.YtolhmibejhldkaaGreatDoor
open Go.RowKit Go.Proofs
attribute [local go_sem] neq_nilG eql_nilG
structure fM (w:World) (a:Nat->Nat) (s:DuS) (tk:Bool) (E:Nat->Addr) (w0:World):Prop where
 ok:dW s
 m:(∃aT,ni w a s aT tk E w0)\/∃aT dz cap5,jm w a s aT dz cap5 tk E w0
def j4 (lp:Option Nat) (a:Nat->Nat) (s:DuS) (n0:Nat):Prop:=mZ lp a s.k (decide (s.bare=0)) n0
section
variable {w w' w0:World} {a:Nat->Nat} {s:DuS} {tk:Bool} {E:Nat->Addr} {lp:Option Nat} {mt:aG}
theorem fM.later (h:fM w a s tk E w0) (hb:Below w.heap.size w w'):fM w' a s tk E w0:=by
 refine ⟨h.ok,?_⟩;rcases h.m with ⟨b,hA⟩ | ⟨b,f,c,hB⟩
 . exact .inl ⟨b,hA.later hb⟩
 . exact .inr ⟨b,f,c,hB.later hb⟩
theorem fM.n (h:fM w a s tk E w0):DuN a s.k (decide (s.bare=0)) w0.heap.size:=by
 rcases h.m with ⟨b,hA⟩ | ⟨b,f,c,hB⟩
 . rw [decide_eq_false (by have:=hA.hb;omega)];exact hA.n
 . rw [decide_eq_true hB.hb];exact hB.n
theorem fM.lt (h:fM w a s tk E w0):∀x,Used s.k (decide (s.bare=0)) x->a x<w.heap.size:=by
 rcases h.m with ⟨b,hA⟩ | ⟨b,f,c,hB⟩
 . rw [decide_eq_false (by have:=hA.hb;omega)];exact hA.lt
 . rw [decide_eq_true hB.hb];exact hB.lt
theorem fM.aA {Y:Nat->Prop} (h:fM w a s tk E w0) (hc:ah Y w w') (h0:∀b,Y b->w0.heap.size<=b) (hY:∀x,Used s.k (decide (s.bare=0)) x->¬Y (a x)):fM w' a s tk E w0:=by
 refine ⟨h.ok,?_⟩;rcases h.m with ⟨b,hA⟩ | ⟨b,f,c,hB⟩
 . rw [decide_eq_false (by have:=hA.hb;omega)] at hY;exact .inl ⟨b,hA.aA hc h0 hY⟩
 . rw [decide_eq_true hB.hb] at hY;exact .inr ⟨b,f,c,hB.aA hc h0 hY⟩
theorem fM.ge (h:fM w a s tk E w0):w0.heap.size<=w.heap.size:=by
 rcases h.m with ⟨b,hA⟩ | ⟨b,f,c,hB⟩
 . exact hA.t.j3.size
 . exact hB.t.j3.size
theorem fM.low (h:fM w a s tk E w0):Low w E w0.heap.size [1,2,4,5,14,16]:=by
 rcases h.m with ⟨b,hA⟩ | ⟨b,f,c,hB⟩
 . exact hA.t.low
 . exact hB.t.low
theorem fM.j3 (h:fM w a s tk E w0):Below w0.heap.size w0 w:=by
 rcases h.m with ⟨b,hA⟩ | ⟨b,f,c,hB⟩
 . exact hA.t.j3
 . exact hB.t.j3
theorem BQ (hb:0<s.bare) (key:Int) (hh:Nat):s.qW key hh=false:=by
 unfold DuS.qW;rw [decide_eq_false (by omega),Bool.false_and]
theorem fM.Rx (h:fM w a s tk E w0) (key:Int) (hh:Nat):TN w (s.jE a key hh) (s.gD a key hh) (s.dA key hh) E w0:=by
 unfold DuS.jE DuS.gD DuS.dA;rcases h.m with ⟨b,hA⟩ | ⟨b,f,c,hB⟩
 . rw [BQ hA.hb];exact hA.t
 . cases hc:s.qW key hh with
   | true=>exact hB.u _ (h.ok.yk hh)
   | false=>exact hB.t
theorem fM.ib {T':ae} (h:fM w a s tk E w0) (key:Int) (hh:Nat) (ht:TN w' (s.jE a key hh) (s.gD a key hh) T' E w0) (hn:T'.n=(s.dA key hh).n) (hc:ah (λb=>b=s.jE a key hh\/b=s.gD a key hh) w w'):fM w' a (s.ib key hh T') tk E w0:=by
 unfold DuS.jE DuS.gD at ht hc;unfold DuS.dA at hn;unfold DuS.ib;have hg:=ht.good;rcases h.m with ⟨b,hA⟩ | ⟨b,f,c,hB⟩
 . rw [BQ hA.hb] at ht hn hc ⊢;exact ⟨h.ok.ny hg hn,.inl ⟨b,hA.old ht hc⟩⟩
 . cases hq:s.qW key hh with
   | true =>
    rw [hq] at ht hn hc;exact ⟨h.ok.mH hB.hb hg (hn.trans (h.ok.u _ (h.ok.yk hh)).2),.inr ⟨b,f,c,hB.target (h.ok.yk hh) ht hc⟩⟩
   | false =>
    rw [hq] at ht hn hc;exact ⟨h.ok.ny hg hn,.inr ⟨b,f,c,hB.old ht hc⟩⟩
theorem fM.lens (h:fM w a s tk E w0) (hs:j4 lp a s w0.heap.size) (hc:ah (λb=>lp=some b) w w'):fM w' a s tk E w0:=h.aA hc (λb e=>(hs b e).1) (λx hx e=>(hs _ e).2 x hx rfl)
theorem fM.oq (h:fM w a s tk E w0) (hl:LW w lp mt) (hs:j4 lp a s w0.heap.size) (key:Int) (hh:Nat) (hb:hh<18446744073709551616) (q:Option Addr) (hq:di q lp) (x y z:Int) :
 Calls Tryz.prog 91 #[.pointer (some ⟨a 0,0,none⟩),.agg #[.pointer q,.int .i64 x,.int .i64 y,.int .i64 z],.int .u64 key,.int .u64 (hh:Int)] w λe w' =>
  ∃fp,e = .returned (.tuple #[.agg (dO (s.jE a key hh) key hh ((s.dA key hh).mI (s.gD a key hh) key hh) ((s.dA key hh).iQ key hh) fp ((s.dA key hh).jU key hh)),.bool (s.has key hh)])/\(0<=(s.dA key hh).jU key hh->fp=some ⟨s.gD a key hh,(s.dA key hh).dM key hh*25,none⟩)/\fM w' a s tk E w0/\LW w' lp (addN mt x y z (s.jY key hh+s.jZ key hh))/\ah (λb=>lp=some b) w w':=by
 unfold j4 at hs;rcases h.m with ⟨b,hA⟩ | ⟨b,f,c,hB⟩
 . have hsu:=BQ hA.hb key hh;have h1:s.jE a key hh=a 1:=by unfold DuS.jE;rw [hsu];rfl
   have h2:s.gD a key hh=a 2:=by unfold DuS.gD;rw [hsu];rfl
   have h3:s.dA key hh=s.T:=by unfold DuS.dA;rw [hsu];rfl
   have hb0:¬s.bare=0:=by have:=hA.hb;omega
   have h4:s.has key hh=s.T.has key hh:=by unfold DuS.has DuS.mF;rw [decide_eq_false hb0,Bool.false_and,Bool.false_or]
   have h5:s.jY key hh+s.jZ key hh=s.T.looks key hh:=by
    unfold DuS.jY DuS.jZ DuS.mF;rw [if_neg hb0,decide_eq_false hb0,Bool.false_and,if_neg (by decide),Nat.zero_add]
   rw [h1,h2,h3,h4,h5];rw [decide_eq_false hb0] at hs;refine (hA.oq hl hs key hh hb q hq x y z).mono ?_;rintro e w' ⟨fp,rfl,g1,g2,g3,g4⟩
   exact ⟨fp,rfl,g1,⟨h.ok,.inl ⟨b,g2⟩⟩,g3,g4⟩
 . rw [decide_eq_true hB.hb] at hs;refine (hB.oq h.ok hl hs key hh hb q hq x y z).mono ?_;rintro e w' ⟨fp,rfl,g1,g2,g3,g4⟩
   exact ⟨fp,rfl,g1,⟨h.ok,.inr ⟨b,f,c,g2⟩⟩,g3,g4⟩
theorem iL (h:dW s) (a:Nat->Nat) (key:Int) (hh:Nat):(∃x,Used s.k (decide (s.bare=0)) x/\s.jE a key hh=a x)/\∃x,Used s.k (decide (s.bare=0)) x/\s.gD a key hh=a x:=by
 unfold DuS.jE DuS.gD;cases hq:s.qW key hh with
 | true=>exact ⟨⟨_,.of (h.yk hh) (by omega) (by omega),rfl⟩,⟨_,.of (h.yk hh) (by omega) (by omega),rfl⟩⟩
 | false=>exact ⟨⟨1,.fH (by decide),rfl⟩,⟨2,.fH (by decide),rfl⟩⟩
theorem j4.Rx {n0:Nat} (hs:j4 lp a s n0) (h:dW s) (key:Int) (hh:Nat):∀b,lp=some b->¬ (b=s.jE a key hh\/b=s.gD a key hh):=λb e=>by
 obtain ⟨⟨x,hx,e1⟩,⟨y,hy,e2⟩⟩:=iL h a key hh;rintro (c|c)
 . rw [e1] at c;exact (hs b e).2 x hx c
 . rw [e2] at c;exact (hs b e).2 y hy c
theorem Ku (s:DuS) (key:Int) (hh:Nat) (V:ae):(s.ib key hh V).k=s.k/\(s.ib key hh V).bare=s.bare:=by
 unfold DuS.ib;split <;> exact ⟨rfl,rfl⟩
theorem fM.find (h:fM w a s tk E w0) (hl:LW w lp mt) (hs:j4 lp a s w0.heap.size) (key:Int) (hh:Nat) (hb:hh<18446744073709551616) (q:Option Addr) (hq:di q lp) (x y z:Int) :
 Calls Tryz.prog 57 #[.pointer (some ⟨a 0,0,none⟩),.agg #[.pointer q,.int .i64 x,.int .i64 y,.int .i64 z],.int .u64 key,.int .u64 (hh:Int)] w λe w' =>
  e = .returned (.tuple #[.agg #[.int .u64 (s.bA key hh).key,.int .u64 (s.bA key hh).val,.int .u64 (s.bA key hh).hash],.bool (s.has key hh)])/\fM w' a s tk E w0/\LW w' lp (addN mt x y z (s.jY key hh+s.jZ key hh))/\ah (λb=>lp=some b) w w':=by
 have HS:=aa hs;have HD:=aa h;have HL:=aa hl;have SK:=aa (λ(w':World) (h':fM w' a s tk E w0) (hl':LW w' lp mt)=>h'.oq hl' hs key hh hb q hq x y z);have TY:=λ(fp:Option Addr) (fz:Int) (w':World) (h':fM w' a s tk E w0)=>TN.entry (h'.Rx key hh) key hh fp fz;simp only [mK,Jp] at TY;have EN:=aa TY;have hge:=h.ge;have HZ:=aa (show ∀b,lp=some b->b<w.heap.size from λb e=>(hl b e).lt);have ik:∀b,w.heap.size<=b->¬lp=some b:=λb hb e=>by have:=HZ.out b e;omega
 unfold dO at *
 unfold ai.pg at EN;generalize (s.dA key hh).mI (s.gD a key hh) key hh=ap at *
 generalize (s.dA key hh).iQ key hh=az at *
 generalize (s.dA key hh).jU key hh=fz at *
 generalize (s.dA key hh).dM key hh=fg at *
 generalize s.jE a key hh=sB at *
 generalize s.gD a key hh=sQ at *
 generalize s.has key hh=hs' at *
 generalize (s.bA key hh).key=k0 at *
 generalize (s.bA key hh).val=k1 at *
 generalize (s.bA key hh).hash=k2 at *
 generalize s.jY key hh+s.jZ key hh=lk at *
 clear h hl hs TY;obtain ⟨B5,jL⟩:=dC w.heap.size;have Sz:w.heap.size<=B5:=Nat.le_of_eq jL.symm;have HB5:=aa jL;clear jL;go_enter Tryz.func57,Tryz.ntmps57
 go_wp2_with (first
  | (go_at_call 91;(with_reducible refine (SK.out _ (HD.out.later (by go_grown)) (HL.out.later (by go_grown))).mono ?_);rintro e w1 ⟨fp,rfl,hfp,hd1,hl1,hc1⟩;have R1:af w1 (w.heap.size+1) 46 #[.int .u64 0,.int .u64 0,.int .u64 0]:=af.aA (af.aF (by simp)) hc1 (ik _ (by omega));have D1:=aa hd1;have L1:=aa hl1;have C1:=aa ((((ah.refl _ w).alloc _).alloc _).trans hc1);have zR1:=R1.lt;clear hfp hd1 hl1 hc1)
  | (go_at_call 44;(with_reducible refine (EN.out _ _ _ (D1.out.later ((aM _ _).alloc (aL _) _))).mono ?_);rintro e w2 ⟨rfl,hb2⟩;have HB2:=aa (((aM w1.heap.size w1).alloc (aL _) (.cells #[.pointer (some ⟨sB,0,none⟩),.int .u64 key,.int .u64 (hh:Int),.pointer ap,.int .i64 az,.pointer fp,.int .i64 fz] 100)).trans (hb2.mono (by simp)));have R2:=R1.below HB2.out R1.lt;have zR2:=R2.lt;have r2:=cells3 R2;have r20:=r2.1;have r21:=r2.2.1;have r22:=r2.2.2;clear r2;have qf:=λj=>R2.frozen j))
 obtain ⟨r0,r1,r2⟩:=Uq (x := .int .u64 k0) (y := .int .u64 k1) (z := .int .u64 k2) R2;have fI:ah (λb=>b=w.heap.size+1) w2 (((w2.setCell ⟨w.heap.size+1,0,none⟩ (.int .u64 k0)).setCell ⟨w.heap.size+1,1,none⟩ (.int .u64 k1)).setCell ⟨w.heap.size+1,2,none⟩ (.int .u64 k2)):=((ah.refl _ _).set1 _ _).set1 _ _ |>.set1 _ _
 refine bodyPost_ret (v := .tuple #[.agg #[.int .u64 k0,.int .u64 k1,.int .u64 k2],.bool hs']) (by simp [results,Tryz.results57,go_sem,r0,r1,r2]) rfl ⟨rfl,?_,?_,?_⟩
 . exact (D1.out.later HB2.out).aA fI (λb e=>by omega) (λx hx e=>by have:=HD.out.lt x hx;omega)
 . exact (L1.out.later HB2.out).aA fI (λb e e2=>ik b (by omega) e)
 . exact ((C1.out.au HB2.out).trans' fI (λb hb e=>by omega))
theorem fM.put (h:fM w a s tk E w0) (hl:LW w lp mt) (hs:j4 lp a s w0.heap.size) (key v:Int) (hh:Nat) (hb:hh<18446744073709551616) (more:Bool) (q:Option Addr) (hq:di q lp) (x y z:Int) :
 Calls Tryz.prog 42 #[.pointer (some ⟨a 0,0,none⟩),.agg #[.pointer q,.int .i64 x,.int .i64 y,.int .i64 z],.agg #[.int .u64 key,.int .u64 v,.int .u64 (hh:Int)],.bool more] w λe w' =>
  e = .returned (.tuple #[.bool (s.bB key hh more),jF E (s.bN key hh more)])/\fM w' a (s.put key v hh more) tk E w0/\LW w' lp (addN mt x y z (s.jY key hh+s.jZ key hh))/\ah (λb=>lp=some b\/b=s.jE a key hh\/b=s.gD a key hh) w w':=by
 have rH:=aa h.ok;have HS:=aa hs;have HD:=aa h;have HL:=aa hl;have SK:=aa (λ(w':World) (h':fM w' a s tk E w0) (hl':LW w' lp mt)=>h'.oq hl' hs key hh hb q hq x y z);have TY:=λ(fp:Option Addr) (fz:Int) (w':World) (h':fM w' a s tk E w0)=>TN.entry (h'.Rx key hh) key hh fp fz;simp only [mK,Jp] at TY;have EN:=aa TY;have hge:=h.ge;have HZ:=aa (show ∀b,lp=some b->b<w.heap.size from λb e=>(hl b e).lt);have ik:∀b,w.heap.size<=b->¬lp=some b:=λb hb e=>by have:=HZ.out b e;omega
 clear EN TY;cases hhas:s.has key hh with
 | true =>
  have RP:=aa (λ(fp:Option Addr) (fz:Int) (w':World) (h':fM w' a s tk E w0)=>TN.replace (h'.Rx key hh) key v hh hb fp fz ((mK s key hh).trans hhas));have e1:s.bB key hh more=false:=by unfold DuS.bB;rw [hhas];rfl
  have e2:s.bN key hh more=0:=by unfold DuS.bN;rw [hhas];rfl
  have SET:=aa (λ(w1 w2:World) (h':fM w1 a s tk E w0)=>h'.ib (w':=w2) (T':=(s.dA key hh).aR key v hh) key hh);rw [hhas] at SK;rw [e1,e2,abf hhas,fG];unfold dO at *
  generalize (s.dA key hh).mI (s.gD a key hh) key hh=ap at *
  generalize (s.dA key hh).iQ key hh=az at *
  generalize (s.dA key hh).jU key hh=fz at *
  generalize (s.dA key hh).dM key hh=fg at *
  have NSL:=aa (HS.out.Rx rH.out key hh)
  have HZS:Hid (s.jE a key hh<w.heap.size/\s.gD a key hh<w.heap.size):=aa (by
   obtain ⟨⟨x,hx,e1⟩,⟨y,hy,e2⟩⟩:=iL rH.out a key hh
   rw [e1,e2];exact ⟨HD.out.lt x hx,HD.out.lt y hy⟩)
  generalize s.jE a key hh=sB at *
  generalize s.gD a key hh=sQ at *
  generalize s.jY key hh+s.jZ key hh=lk at *
  clear h hl hs hhas e1 e2;go_enter Tryz.func42,Tryz.ntmps42
  go_wp2_with (first
   | (go_at_call 91;(with_reducible refine (SK.out _ (HD.out.later (by go_grown)) (HL.out.later (by go_grown))).mono ?_);rintro e w1 ⟨fp,rfl,hfp,hd1,hl1,hc1⟩;have Rh:=aa hfp;have R1:af w1 (w.heap.size+1) 46 #[.int .u64 key,.int .u64 v,.int .u64 (hh:Int)]:=af.aA (af.aF (by simp)) hc1 (ik _ (by omega));have D1:=aa (hd1.later ((aM w1.heap.size w1).alloc (aL _) (.cells #[.pointer (some ⟨sB,0,none⟩),.int .u64 key,.int .u64 (hh:Int),.pointer ap,.int .i64 az,.pointer fp,.int .i64 fz] 100)));have L1:=aa (hl1.later ((aM w1.heap.size w1).alloc (aL _) (.cells #[.pointer (some ⟨sB,0,none⟩),.int .u64 key,.int .u64 (hh:Int),.pointer ap,.int .i64 az,.pointer fp,.int .i64 fz] 100)));have C1:=aa (((((ah.refl _ w).alloc _).alloc _).trans hc1).alloc (.cells #[.pointer (some ⟨sB,0,none⟩),.int .u64 key,.int .u64 (hh:Int),.pointer ap,.int .i64 az,.pointer fp,.int .i64 fz] 100));have zR1:=R1.lt;have q1:=cells3 R1;have QE:=q1.1;have KI:=q1.2.1;have q12:=q1.2.2;clear q1 hfp hd1 hl1 hc1)
   | (go_at_call 45;(with_reducible refine (RP.out _ _ _ D1.out).mono ?_);rintro e w2 ⟨rfl,ht2,hc2⟩;have T2:=aa (SET.out _ _ D1.out ht2 (kF _ _ _ _) hc2);have C2:=aa hc2;clear ht2 hc2))
  go_ret2;exact ⟨rfl,T2.out,L1.out.aA C2.out (λb e=>NSL.out b e),(C1.out.mono (λ_ _ e => .inl e)).trans (C2.out.mono (λ_ _ e => .inr e))⟩
 | false =>
  cases more with
  | false =>
   have e1:s.bB key hh false=false:=by unfold DuS.bB;rw [hhas];rfl
   have e2:s.bN key hh false=2:=by unfold DuS.bN;rw [hhas];rfl
   have EF:=aa (λ(w':World) (h':fM w' a s tk E w0)=>(show w'.cell? ⟨1,0,none⟩=some (aO E 2) from h'.low.e 2 (by decide)));have GZ:=aa (λ(w':World) (h':fM w' a s tk E w0)=>qx _ _ (show w'.cell? ⟨1,0,none⟩=some (aO E 2) from h'.low.e 2 (by decide)));rw [hhas] at SK;rw [e1,e2,adC hhas,jh E 2 (by decide)];unfold aO at *
   unfold dO at *
   generalize (s.dA key hh).mI (s.gD a key hh) key hh=ap at *
   generalize (s.dA key hh).iQ key hh=az at *
   generalize (s.dA key hh).jU key hh=fz at *
   generalize (s.dA key hh).dM key hh=fg at *
   have NSL:=aa (HS.out.Rx rH.out key hh)
   have HZS:Hid (s.jE a key hh<w.heap.size/\s.gD a key hh<w.heap.size):=aa (by
    obtain ⟨⟨x,hx,e1⟩,⟨y,hy,e2⟩⟩:=iL rH.out a key hh
    rw [e1,e2];exact ⟨HD.out.lt x hx,HD.out.lt y hy⟩)
   generalize s.jE a key hh=sB at *
   generalize s.gD a key hh=sQ at *
   generalize s.jY key hh+s.jZ key hh=lk at *
   clear h hl hs hhas e1 e2;go_enter Tryz.func42,Tryz.ntmps42
   go_wp2_with (go_at_call 91;(with_reducible refine (SK.out _ (HD.out.later (by go_grown)) (HL.out.later (by go_grown))).mono ?_);rintro e w1 ⟨fp,rfl,hfp,hd1,hl1,hc1⟩;have Rh:=aa hfp;have R1:af w1 (w.heap.size+1) 46 #[.int .u64 key,.int .u64 v,.int .u64 (hh:Int)]:=af.aA (af.aF (by simp)) hc1 (ik _ (by omega));have D1:=aa (hd1.later ((aM w1.heap.size w1).alloc (aL _) (.cells #[.pointer (some ⟨sB,0,none⟩),.int .u64 key,.int .u64 (hh:Int),.pointer ap,.int .i64 az,.pointer fp,.int .i64 fz] 100)));have L1:=aa (hl1.later ((aM w1.heap.size w1).alloc (aL _) (.cells #[.pointer (some ⟨sB,0,none⟩),.int .u64 key,.int .u64 (hh:Int),.pointer ap,.int .i64 az,.pointer fp,.int .i64 fz] 100)));have C1:=aa (((((ah.refl _ w).alloc _).alloc _).trans hc1).alloc (.cells #[.pointer (some ⟨sB,0,none⟩),.int .u64 key,.int .u64 (hh:Int),.pointer ap,.int .i64 az,.pointer fp,.int .i64 fz] 100));have zR1:=R1.lt;have q1:=cells3 R1;have QE:=q1.1;have KI:=q1.2.1;have q12:=q1.2.2;clear q1 hfp hd1 hl1 hc1)
   have g2:=EF.out _ D1.out;have gz:=GZ.out _ D1.out;refine ag (λ_=>False) #[⟨0,0,2^32,0,1⟩,⟨0,0,256,0,0⟩,⟨3,3,512,2^32,0⟩] 1 [(0,1),(1,0),(2,0)] (by kernel_rfl) (by kernel_rfl) (by kernel_rfl) (by kernel_rfl) (by kernel_rfl) (by kernel_rfl) (λc a d v w h=>by cases d <;> exact h) ?_;refine bW Tryz.underlying27 ?_
   try refine aC ?_;refine aj ?_;refine aj ?_
   refine aD ?_;go_wp2;go_ret2;exact ⟨rfl,D1.out.later (aM _ _).drew,L1.out.later (aM _ _).drew,(C1.out.mono (λ_ _ e => .inl e)).drew⟩
  | true =>
   have PL:=aa (λ(fp:Option Addr) (hfp:0<=(s.dA key hh).jU key hh->fp=some ⟨s.gD a key hh,(s.dA key hh).dM key hh*25,none⟩) (w':World) (h':fM w' a s tk E w0)=>TN.place (h'.Rx key hh) key hh hb fp hfp v ((mK s key hh).trans hhas));have SET:=aa (λ(w1 w2:World) (h':fM w1 a s tk E w0)=>h'.ib (w':=w2) (T':=(s.dA key hh).aR key v hh) key hh);have hno:=(mK s key hh).trans hhas;have e1:s.bB key hh true=(s.dA key hh).room key hh:=by unfold DuS.bB;rw [hhas,<-Jo hhas];unfold ae.bB;rw [hno];simp
   have e2:s.bN key hh true=(s.dA key hh).bN key hh:=by unfold DuS.bN;rw [hhas,<-Jo hhas];rfl
   have e3:(s.dA key hh).bN key hh=if (s.dA key hh).room key hh=true then 0 else 2:=by unfold ae.bN;rw [hno];simp
   rw [hhas] at SK;rw [e1,e2,Ut hhas];rw [e3] at PL ⊢;cases hr:(s.dA key hh).room key hh with
   | true =>
    rw [hr] at PL;simp only [if_true,fG] at PL ⊢;clear e1 e2 e3;unfold dO at *
    generalize (s.dA key hh).mI (s.gD a key hh) key hh=ap at *
    generalize (s.dA key hh).iQ key hh=az at *
    generalize (s.dA key hh).jU key hh=fz at *
    generalize (s.dA key hh).dM key hh=fg at *
    have NSL:=aa (HS.out.Rx rH.out key hh)
    have HZS:Hid (s.jE a key hh<w.heap.size/\s.gD a key hh<w.heap.size):=aa (by
     obtain ⟨⟨x,hx,e1⟩,⟨y,hy,e2⟩⟩:=iL rH.out a key hh
     rw [e1,e2];exact ⟨HD.out.lt x hx,HD.out.lt y hy⟩)
    generalize s.jE a key hh=sB at *
    generalize s.gD a key hh=sQ at *
    generalize s.jY key hh+s.jZ key hh=lk at *
    clear h hl hs hhas hno hr;go_enter Tryz.func42,Tryz.ntmps42
    go_wp2_with (first
     | (go_at_call 91;(with_reducible refine (SK.out _ (HD.out.later (by go_grown)) (HL.out.later (by go_grown))).mono ?_);rintro e w1 ⟨fp,rfl,hfp,hd1,hl1,hc1⟩;have Rh:=aa hfp;have R1:af w1 (w.heap.size+1) 46 #[.int .u64 key,.int .u64 v,.int .u64 (hh:Int)]:=af.aA (af.aF (by simp)) hc1 (ik _ (by omega));have D1:=aa (hd1.later ((aM w1.heap.size w1).alloc (aL _) (.cells #[.pointer (some ⟨sB,0,none⟩),.int .u64 key,.int .u64 (hh:Int),.pointer ap,.int .i64 az,.pointer fp,.int .i64 fz] 100)));have L1:=aa (hl1.later ((aM w1.heap.size w1).alloc (aL _) (.cells #[.pointer (some ⟨sB,0,none⟩),.int .u64 key,.int .u64 (hh:Int),.pointer ap,.int .i64 az,.pointer fp,.int .i64 fz] 100)));have C1:=aa (((((ah.refl _ w).alloc _).alloc _).trans hc1).alloc (.cells #[.pointer (some ⟨sB,0,none⟩),.int .u64 key,.int .u64 (hh:Int),.pointer ap,.int .i64 az,.pointer fp,.int .i64 fz] 100));have zR1:=R1.lt;have q1:=cells3 R1;have QE:=q1.1;have KI:=q1.2.1;have q12:=q1.2.2;clear q1 hfp hd1 hl1 hc1)
     | (go_at_call 46;(with_reducible refine (PL.out _ Rh.out _ D1.out).mono ?_);rintro e w2 ⟨rfl,ht2,hc2⟩;have T2:=aa (SET.out _ _ D1.out ht2 (kF _ _ _ _) hc2);have C2:=aa hc2;clear ht2 hc2))
    go_ret2;exact ⟨rfl,T2.out,L1.out.aA C2.out (λb e=>NSL.out b e),(C1.out.mono (λ_ _ e => .inl e)).trans (C2.out.mono (λ_ _ e => .inr e))⟩
   | false =>
    rw [hr] at PL;simp only [Bool.false_eq_true,if_false,jh E 2 (by decide)] at PL ⊢;unfold aO at *
    clear e1 e2 e3;unfold dO at *
    generalize (s.dA key hh).mI (s.gD a key hh) key hh=ap at *
    generalize (s.dA key hh).iQ key hh=az at *
    generalize (s.dA key hh).jU key hh=fz at *
    generalize (s.dA key hh).dM key hh=fg at *
    have NSL:=aa (HS.out.Rx rH.out key hh)
    have HZS:Hid (s.jE a key hh<w.heap.size/\s.gD a key hh<w.heap.size):=aa (by
     obtain ⟨⟨x,hx,e1⟩,⟨y,hy,e2⟩⟩:=iL rH.out a key hh
     rw [e1,e2];exact ⟨HD.out.lt x hx,HD.out.lt y hy⟩)
    generalize s.jE a key hh=sB at *
    generalize s.gD a key hh=sQ at *
    generalize s.jY key hh+s.jZ key hh=lk at *
    clear h hl hs hhas hno hr;go_enter Tryz.func42,Tryz.ntmps42
    go_wp2_with (first
     | (go_at_call 91;(with_reducible refine (SK.out _ (HD.out.later (by go_grown)) (HL.out.later (by go_grown))).mono ?_);rintro e w1 ⟨fp,rfl,hfp,hd1,hl1,hc1⟩;have Rh:=aa hfp;have R1:af w1 (w.heap.size+1) 46 #[.int .u64 key,.int .u64 v,.int .u64 (hh:Int)]:=af.aA (af.aF (by simp)) hc1 (ik _ (by omega));have D1:=aa (hd1.later ((aM w1.heap.size w1).alloc (aL _) (.cells #[.pointer (some ⟨sB,0,none⟩),.int .u64 key,.int .u64 (hh:Int),.pointer ap,.int .i64 az,.pointer fp,.int .i64 fz] 100)));have L1:=aa (hl1.later ((aM w1.heap.size w1).alloc (aL _) (.cells #[.pointer (some ⟨sB,0,none⟩),.int .u64 key,.int .u64 (hh:Int),.pointer ap,.int .i64 az,.pointer fp,.int .i64 fz] 100)));have C1:=aa (((((ah.refl _ w).alloc _).alloc _).trans hc1).alloc (.cells #[.pointer (some ⟨sB,0,none⟩),.int .u64 key,.int .u64 (hh:Int),.pointer ap,.int .i64 az,.pointer fp,.int .i64 fz] 100));have zR1:=R1.lt;have q1:=cells3 R1;have QE:=q1.1;have KI:=q1.2.1;have q12:=q1.2.2;clear q1 hfp hd1 hl1 hc1)
     | (go_at_call 46;(with_reducible refine (PL.out _ Rh.out _ D1.out).mono ?_);rintro e w2 ⟨rfl,ht2,hc2⟩;have T2:=aa (SET.out _ _ D1.out ht2 (kF _ _ _ _) hc2);have C2:=aa hc2;clear ht2 hc2))
    go_ret2;exact ⟨rfl,T2.out,L1.out.aA C2.out (λb e=>NSL.out b e),(C1.out.mono (λ_ _ e => .inl e)).trans (C2.out.mono (λ_ _ e => .inr e))⟩
theorem fM.del (h:fM w a s tk E w0) (hl:LW w lp mt) (hs:j4 lp a s w0.heap.size) (key:Int) (hh:Nat) (hb:hh<18446744073709551616) (q:Option Addr) (hq:di q lp) (x y z:Int) :
 Calls Tryz.prog 40 #[.pointer (some ⟨a 0,0,none⟩),.agg #[.pointer q,.int .i64 x,.int .i64 y,.int .i64 z],.int .u64 key,.int .u64 (hh:Int)] w λe w' =>
  e = .returned (.tuple #[.agg #[.int .u64 (s.bA key hh).key,.int .u64 (s.bA key hh).val,.int .u64 (s.bA key hh).hash],.bool (s.has key hh)])/\fM w' a (s.del key hh) tk E w0/\LW w' lp (addN mt x y z (s.jY key hh+s.jZ key hh))/\ah (λb=>lp=some b\/b=s.jE a key hh\/b=s.gD a key hh) w w':=by
 have rH:=aa h.ok;have HS:=aa hs;have HD:=aa h;have HL:=aa hl;have SK:=aa (λ(w':World) (h':fM w' a s tk E w0) (hl':LW w' lp mt)=>h'.oq hl' hs key hh hb q hq x y z);have TY:=λ(fp:Option Addr) (fz:Int) (w':World) (h':fM w' a s tk E w0)=>TN.entry (h'.Rx key hh) key hh fp fz;simp only [mK,Jp] at TY;have EN:=aa TY;have hge:=h.ge;have HZ:=aa (show ∀b,lp=some b->b<w.heap.size from λb e=>(hl b e).lt);have ik:∀b,w.heap.size<=b->¬lp=some b:=λb hb e=>by have:=HZ.out b e;omega
 unfold ai.pg at EN;generalize (s.bA key hh).key=k0 at *
 generalize (s.bA key hh).val=k1 at *
 generalize (s.bA key hh).hash=k2 at *
 cases hhas:s.has key hh with
 | true =>
  have RM:=aa (λ(fp:Option Addr) (fz:Int) (w':World) (h':fM w' a s tk E w0)=>TN.remove (h'.Rx key hh) key hh fp fz ((mK s key hh).trans hhas));have SET:=aa (λ(w1 w2:World) (h':fM w1 a s tk E w0)=>h'.ib (w':=w2) (T':=(s.dA key hh).eB key hh) key hh)
  have HDK:Hid (dW (s.ib key hh ((s.dA key hh).eB key hh))/\∀x,Used (s.ib key hh ((s.dA key hh).eB key hh)).k (decide ((s.ib key hh ((s.dA key hh).eB key hh)).bare=0)) x->a x<w.heap.size):=aa (by
   rw [(Ku s key hh _).1,(Ku s key hh _).2]
   exact ⟨by rw [<-Q0 hhas];exact rH.out.del key hh,h.lt⟩)
  rw [hhas] at SK EN;rw [Q0 hhas];unfold dO at *
  generalize (s.dA key hh).mI (s.gD a key hh) key hh=ap at *
  generalize (s.dA key hh).iQ key hh=az at *
  generalize (s.dA key hh).jU key hh=fz at *
  generalize (s.dA key hh).dM key hh=fg at *
  have NSL:=aa (HS.out.Rx rH.out key hh)
  have HZS:Hid (s.jE a key hh<w.heap.size/\s.gD a key hh<w.heap.size):=aa (by
   obtain ⟨⟨x,hx,e1⟩,⟨y,hy,e2⟩⟩:=iL rH.out a key hh
   rw [e1,e2];exact ⟨HD.out.lt x hx,HD.out.lt y hy⟩)
  generalize s.jE a key hh=sB at *
  generalize s.gD a key hh=sQ at *
  generalize s.jY key hh+s.jZ key hh=lk at *
  clear h hl hs hhas TY;go_enter Tryz.func40,Tryz.ntmps40
  go_upto_region 3 with (first
   | (go_at_call 91;(with_reducible refine (SK.out _ (HD.out.later (by go_grown)) (HL.out.later (by go_grown))).mono ?_);rintro e w1 ⟨fp,rfl,hfp,hd1,hl1,hc1⟩;have R1:af w1 (w.heap.size+1) 46 #[.int .u64 0,.int .u64 0,.int .u64 0]:=af.aA (af.aF (by simp)) hc1 (ik _ (by omega));have SA:=aa ((aM w1.heap.size w1).alloc (aL _) (.cells #[.pointer (some ⟨sB,0,none⟩),.int .u64 key,.int .u64 (hh:Int),.pointer ap,.int .i64 az,.pointer fp,.int .i64 fz] 100));have D1:=aa (hd1.later SA.out);have L1:=aa (hl1.later SA.out);have C1:=aa (((((ah.refl _ w).alloc _).alloc _).trans hc1).au SA.out);have P1:=aa (af.new w1 100 #[.pointer (some ⟨sB,0,none⟩),.int .u64 key,.int .u64 (hh:Int),.pointer ap,.int .i64 az,.pointer fp,.int .i64 fz]);have zR1:=R1.lt;clear hfp hd1 hl1 hc1)
   | (go_at_call 44;(with_reducible refine (EN.out _ _ _ D1.out).mono ?_);rintro e w2 ⟨rfl,hb2⟩;have SB:=aa (hb2.trans ((aM w2.heap.size w2).alloc (aL _) (.cells #[.int .u64 k0,.int .u64 k1,.int .u64 k2] 46) |>.mono hb2.size));have D2:=aa (D1.out.later SB.out);have L2:=aa (L1.out.later SB.out);have C2:=aa (C1.out.au SB.out);have P2:=aa (P1.out.below SB.out P1.out.lt);have R2:=aa ((R1.below SA.out R1.lt).below SB.out (R1.below SA.out R1.lt).lt);have K2:=aa (af.new w2 46 #[.int .u64 k0,.int .u64 k1,.int .u64 k2]);have zb2:w1.heap.size+1<=w2.heap.size:=(by have:=hb2.size;simpa using this);clear hb2))
  refine bG (λw3 hw3=>?_);rw [<-hw3] at D2 L2 C2 P2 R2 K2;have Qs:=aa K2.out;obtain ⟨n2,hn2⟩:=dC w2.heap.size;obtain ⟨n1,hn1⟩:=dC w1.heap.size;rw [<-hn2] at K2;rw [<-hn1] at P2;have ww:w.heap.size+1<n1:=by rw [hn1];exact zR1
  try rw [<-hn2]
  try rw [<-hn1]
  replace hw3:=aa hw3;replace hn1:=aa hn1;replace hn2:=aa hn2;have p2:=bY P2.out;have UC:=p2.1;have p21:=p2.2.1;have p22:=p2.2.2.1;have p23:=p2.2.2.2.1;have p24:=p2.2.2.2.2.1;have p25:=p2.2.2.2.2.2.1;have p26:=p2.2.2.2.2.2.2;have M6:=P2.out.lt;have k2':=cells3 K2.out;have k20:=k2'.1;have k21:=k2'.2.1;have k22:=k2'.2.2;have zK2:=K2.out.lt;have r2':=cells3 R2.out;have r20:=r2'.1;have r21:=r2'.2.1;have r22:=r2'.2.2;have zR2:=R2.out.lt;have rf2:=λj=>R2.out.frozen j;clear p2 k2' r2' Qs;have hX0:¬ (w.heap.size+1=sB\/w.heap.size+1=sQ):=by have:=HZS.out;omega
  have hX1:¬ (n1=sB\/n1=sQ):=by have:=HZS.out;omega
  have hX2:¬ (n2=sB\/n2=sQ):=by have:=HZS.out;have:=hn1.out;have:=hn2.out;omega
  refine ag (λb=>b=sB\/b=sQ) #[⟨0,0,2^27,4096,1⟩,⟨0,0,2^28,2048,0⟩,⟨2,2,2^29,2^28,0⟩,⟨4,6,2^30,(2^10+2^29),1⟩,⟨12,14,2^31,(2^29+2^30),2⟩,⟨20,30,2^32,(2^29+2^31),0⟩,⟨36,62,2^33,(2^29+2^32),0⟩,⟨17,31,0,(2^8+2^27),3⟩,⟨255,255,512,2^33,0⟩] 9 [(0,1),(1,0),(2,0),(3,1),(4,2),(5,0),(6,0),(7,3),(8,0)] (by kernel_rfl) (by kernel_rfl) (by kernel_rfl) (by kernel_rfl) (by kernel_rfl) (by kernel_rfl) (λc a d v w h=>by cases d <;> exact h) ?_;refine jR [_,_,_] Tryz.underlying46 ?_
  try refine aC ?_;refine aj ?_;refine aj ?_
  first
   | (refine jR [_,_,_,_,_,_,_] Tryz.underlying100 ?_)
  try refine aC ?_
  first
   | (refine jD ?_)
   | (refine iK λK hK=>?_;go_wp2_with ((go_at_call 92;(with_reducible refine (RM.out _ _ _ (D2.out.later (aM _ _).drew)).mono ?_);rintro e w4 ⟨rfl,ht4,hc4⟩;have T4:=aa (SET.out _ _ (D2.out.later (aM _ _).drew) ht4 (JX _ _ _) hc4);have C4:=aa hc4.bS;have R3:=aa (R2.out.drew.aA hc4 hX0);have r3':=cells3 R3.out;have r30:=r3'.1;have r31:=r3'.2.1;have r32:=r3'.2.2;have zR3:=R3.out.lt;have rf3:=λj=>R3.out.frozen j;clear r3'));refine iX hK (h:=?_);clear hK K)
  try refine aC ?_
  first
   | (refine jS ?_)
  try refine aC ?_;refine aj ?_
  refine fA λK hK=>?_;go_wp2_with (fail);refine hK.out _ _ ?_;clear hK K
  try refine aC ?_;refine aj ?_
  refine aD ?_;go_wp2;refine aJ (λWf hWf=>?_);have hR:af Wf (w.heap.size+1) 46 #[.int .u64 k0,.int .u64 k1,.int .u64 k2]:=by rw [hWf];exact (((R3.out.set 0 _).set 1 _).set 2 _)
  obtain ⟨r0,r1,r2⟩:=cells3 hR;have fI:ah (λb=>b=w.heap.size+1) w4 Wf:=by rw [hWf];exact (((ah.refl _ _).set1 _ _).set1 _ _).set1 _ _
  refine bodyPost_ret (v := .tuple #[.agg #[.int .u64 k0,.int .u64 k1,.int .u64 k2],.bool true]) (by simp [results,Tryz.results40,go_sem,r0,r1,r2]) rfl ⟨rfl,?_,?_,?_⟩
  . exact T4.out.aA fI (λb e=>by omega) (λx hx e=>by have:=HDK.out.2 x hx;omega)
  . exact (L2.out.aA C4.out (λb e=>NSL.out b e)).aA fI (λb e e2=>ik b (by omega) e)
  . exact ((C2.out.mono (λ_ _ e => .inl e)).trans (C4.out.mono (λ_ _ e => .inr e))).trans' fI (λb hb e=>by omega)
 | false =>
  rw [hhas] at SK EN;rw [aep hhas];unfold dO at *
  generalize (s.dA key hh).mI (s.gD a key hh) key hh=ap at *
  generalize (s.dA key hh).iQ key hh=az at *
  generalize (s.dA key hh).jU key hh=fz at *
  generalize (s.dA key hh).dM key hh=fg at *
  have NSL:=aa (HS.out.Rx rH.out key hh)
  have HZS:Hid (s.jE a key hh<w.heap.size/\s.gD a key hh<w.heap.size):=aa (by
   obtain ⟨⟨x,hx,e1⟩,⟨y,hy,e2⟩⟩:=iL rH.out a key hh
   rw [e1,e2];exact ⟨HD.out.lt x hx,HD.out.lt y hy⟩)
  generalize s.jE a key hh=sB at *
  generalize s.gD a key hh=sQ at *
  generalize s.jY key hh+s.jZ key hh=lk at *
  clear h hl hs hhas TY;go_enter Tryz.func40,Tryz.ntmps40
  go_upto_region 3 with (first
   | (go_at_call 91;(with_reducible refine (SK.out _ (HD.out.later (by go_grown)) (HL.out.later (by go_grown))).mono ?_);rintro e w1 ⟨fp,rfl,hfp,hd1,hl1,hc1⟩;have R1:af w1 (w.heap.size+1) 46 #[.int .u64 0,.int .u64 0,.int .u64 0]:=af.aA (af.aF (by simp)) hc1 (ik _ (by omega));have SA:=aa ((aM w1.heap.size w1).alloc (aL _) (.cells #[.pointer (some ⟨sB,0,none⟩),.int .u64 key,.int .u64 (hh:Int),.pointer ap,.int .i64 az,.pointer fp,.int .i64 fz] 100));have D1:=aa (hd1.later SA.out);have L1:=aa (hl1.later SA.out);have C1:=aa (((((ah.refl _ w).alloc _).alloc _).trans hc1).au SA.out);have P1:=aa (af.new w1 100 #[.pointer (some ⟨sB,0,none⟩),.int .u64 key,.int .u64 (hh:Int),.pointer ap,.int .i64 az,.pointer fp,.int .i64 fz]);have zR1:=R1.lt;clear hfp hd1 hl1 hc1)
   | (go_at_call 44;(with_reducible refine (EN.out _ _ _ D1.out).mono ?_);rintro e w2 ⟨rfl,hb2⟩;have SB:=aa (hb2.trans ((aM w2.heap.size w2).alloc (aL _) (.cells #[.int .u64 k0,.int .u64 k1,.int .u64 k2] 46) |>.mono hb2.size));have D2:=aa (D1.out.later SB.out);have L2:=aa (L1.out.later SB.out);have C2:=aa (C1.out.au SB.out);have P2:=aa (P1.out.below SB.out P1.out.lt);have R2:=aa ((R1.below SA.out R1.lt).below SB.out (R1.below SA.out R1.lt).lt);have K2:=aa (af.new w2 46 #[.int .u64 k0,.int .u64 k1,.int .u64 k2]);have zb2:w1.heap.size+1<=w2.heap.size:=(by have:=hb2.size;simpa using this);clear hb2))
  refine bG (λw3 hw3=>?_);rw [<-hw3] at D2 L2 C2 P2 R2 K2;have Qs:=aa K2.out;obtain ⟨n2,hn2⟩:=dC w2.heap.size;obtain ⟨n1,hn1⟩:=dC w1.heap.size;rw [<-hn2] at K2;rw [<-hn1] at P2;have ww:w.heap.size+1<n1:=by rw [hn1];exact zR1
  try rw [<-hn2]
  try rw [<-hn1]
  replace hw3:=aa hw3;replace hn1:=aa hn1;replace hn2:=aa hn2;have p2:=bY P2.out;have UC:=p2.1;have p21:=p2.2.1;have p22:=p2.2.2.1;have p23:=p2.2.2.2.1;have p24:=p2.2.2.2.2.1;have p25:=p2.2.2.2.2.2.1;have p26:=p2.2.2.2.2.2.2;have M6:=P2.out.lt;have k2':=cells3 K2.out;have k20:=k2'.1;have k21:=k2'.2.1;have k22:=k2'.2.2;have zK2:=K2.out.lt;have r2':=cells3 R2.out;have r20:=r2'.1;have r21:=r2'.2.1;have r22:=r2'.2.2;have zR2:=R2.out.lt;have rf2:=λj=>R2.out.frozen j;clear p2 k2' r2' Qs;refine ag (λ_=>False) #[⟨0,0,2^27,4096,1⟩,⟨0,0,2^28,2048,0⟩,⟨2,2,2^29,2^28,0⟩,⟨4,6,2^30,(2^10+2^29),1⟩,⟨12,14,2^31,(2^29+2^30),2⟩,⟨20,30,2^32,(2^29+2^31),0⟩,⟨36,62,2^33,(2^29+2^32),0⟩,⟨17,31,0,(2^8+2^27),3⟩,⟨255,255,512,2^33,0⟩] 9 [(0,1),(1,0),(2,0),(3,1),(4,2),(5,0),(6,0),(7,3),(8,0)] (by kernel_rfl) (by kernel_rfl) (by kernel_rfl) (by kernel_rfl) (by kernel_rfl) (by kernel_rfl) (λc a d v w h=>by cases d <;> exact h) ?_;refine jR [_,_,_] Tryz.underlying46 ?_
  try refine aC ?_;refine aj ?_;refine aj ?_
  first
   | (refine jD ?_)
  try refine aC ?_
  first
   | (refine jD ?_)
  try refine aC ?_
  first
   | (refine jD ?_)
  try refine aC ?_;refine aj ?_
  refine fA λK hK=>?_;go_wp2_with (fail);refine hK.out _ _ ?_;clear hK K
  try refine aC ?_;refine aj ?_
  refine aD ?_;go_wp2;refine aJ (λWf hWf=>?_);have hR:af Wf (w.heap.size+1) 46 #[.int .u64 k0,.int .u64 k1,.int .u64 k2]:=by rw [hWf];exact (((R2.out.set 0 _).set 1 _).set 2 _)
  obtain ⟨r0,r1,r2⟩:=cells3 hR;have fI:ah (λb=>b=w.heap.size+1) w3 Wf:=by rw [hWf];exact (((ah.refl _ _).drew.set1 _ _).set1 _ _).set1 _ _
  refine bodyPost_ret (v := .tuple #[.agg #[.int .u64 k0,.int .u64 k1,.int .u64 k2],.bool false]) (by simp [results,Tryz.results40,go_sem,r0,r1,r2]) rfl ⟨rfl,?_,?_,?_⟩
  . exact D2.out.aA fI (λb e=>by omega) (λx hx e=>by have:=HD.out.lt x hx;omega)
  . exact L2.out.aA fI (λb e e2=>ik b (by omega) e)
  . exact (C2.out.mono (λ_ _ e => .inl e)).trans' fI (λb hb e=>by omega)
end
theorem adq {s:DuS} (h:dW s):gp (λi=>s.gn-s.pr i) s.k=s.bare:=by
 have hb:=h.hb;unfold DuS.pr;rcases h.hk with e | ⟨e,-⟩
 . rw [e] at hb ⊢;show 0+(s.gn-min s.gn (1*s.gn-s.bare-0*s.gn))=s.bare
   omega
 . rw [e] at hb ⊢;show 0+(s.gn-min s.gn (2*s.gn-s.bare-0*s.gn))+(s.gn-min s.gn (2*s.gn-s.bare-1*s.gn))=s.bare
   omega
section
variable {w w' w0:World} {a:Nat->Nat} {s:DuS} {tk:Bool} {E:Nat->Addr} {aT dz cap5:Nat}
theorem ni.left (h:ni w a s aT tk E w0) (hok:dW s):Calls Tryz.prog 55 #[.pointer (some ⟨a 0,0,none⟩)] w λe w'=>e = .returned (.int .i64 ((s.left:Nat):Int))/\Below w.heap.size w w':=by
 have hnx:=(hok.pre h.hb).1;have hn:=hok.t.bounds;have hgb:=dZ hok.hr;have hk2:s.k<=2:=by rcases hok.hk with e|e <;> omega
 have hlf:s.left=s.T.n+gp (λi=>s.gn-s.pr i) s.k:=by unfold DuS.left;rw [adq hok,hnx];omega
 have HS:=aa (show ∀j,gp (λi=>s.gn-s.pr i) j<=64*j from λj=>AO λi _=>by omega);have HD:=aa h;have RD:=aa (λ(w':World) (h':ni w' a s aT tk E w0)=>h'.ready);have GR:=aa (λ(w':World) (h':ni w' a s aT tk E w0)=>eT.groups h'.t);have BL:=aa (λ(i:Nat) (hi:i<s.k) (w':World) (h':ni w' a s aT tk E w0)=>nR _ _ _ _ _ _ w' (h'.bw i hi));obtain ⟨c0,c1,c2,c3,c4,c5,zc⟩:=h.cells;rw [hlf];clear h hlf;generalize s.T.n=n at *
 go_enter Tryz.func55,Tryz.ntmps55
 go_wp2_with (first
  | (go_at_call 106;(with_reducible refine (RD.out _ HD.out).mono ?_);rintro e w1 ⟨rfl,rfl⟩)
  | (go_at_call 49;(with_reducible refine (GR.out _ HD.out).mono ?_);rintro e w1 ⟨rfl,rfl⟩))
 go_loopw [23,3] (λv23 v3 wr => ∃j:Nat,j<=s.k/\v23 = .int .i64 (j:Int)/\v3 = .int .i64 (((n+gp (λi=>s.gn-s.pr i) j:Nat)):Int)/\Below w.heap.size w wr) (λv23 _ _=>s.k-(intOf v23).toNat)
 case atStart=>exact ⟨0,o7 _,rfl,rfl,aM _ _⟩
 case round =>
  clear c0 c1 c2 c3 c4 c5;obtain ⟨j,hj,rfl,rfl,hB⟩:=hrel;have KD:=aa (HD.out.later hB);have hz:=hB.size;have hS:=HS.out j;by_cases hlt:j<s.k
  . have kJ:(j:Int)<(s.k:Int):=by omega
    have l0:=KD.out.bl j hlt;have zb:=KD.out.bz;have BJ:=aa (BL.out j hlt);have hst:gp (λi=>s.gn-s.pr i) (j+1)=gp (λi=>s.gn-s.pr i) j+(s.gn-s.pr j):=rfl;have HST:=aa hst;clear hst;have LA:s.gn-s.pr j<=64:=by omega
    generalize s.gn-s.pr j=pj at *
    generalize gp (λi=>s.gn-s.pr i) j=sj at *
    have e1:IntKind.i64.wrap (((n+sj:Nat):Int)+((pj:Nat):Int))=((n+(sj+pj):Nat):Int):=by rw [IntKind.wrap_i64];omega
    go_wp2_with (go_at_call 109;(with_reducible refine (BJ.out _ KD.out).mono ?_);rintro e w1 ⟨rfl,hb1⟩;have B1:=aa (hB.trans (hb1.mono hz)))
    go_roundw
    case rel=>exact ⟨j+1,by omega,by go_num,by rw [HST.out];exact congrArg (Value.int .i64) (by omega),B1.out⟩
    case measure=>simp [intOf];omega
  . obtain rfl:j=s.k:=by omega
    go_wp2;go_ret;exact ⟨rfl,hB⟩
theorem jm.left (h:jm w a s aT dz cap5 tk E w0) (hok:dW s):Calls Tryz.prog 55 #[.pointer (some ⟨a 0,0,none⟩)] w λe w'=>e = .returned (.int .i64 ((s.left:Nat):Int))/\Below w.heap.size w w':=by
 have hn:=hok.t.bounds;have hx:=hok.hx;have hlf:s.left=s.T.n-s.nx:=by unfold DuS.left;rw [h.hb];omega
 have HD:=aa h;have RD:=aa (λ(w':World) (h':jm w' a s aT dz cap5 tk E w0)=>h'.ready);have EL:=aa (λ(w':World) (h':jm w' a s aT dz cap5 tk E w0)=>qO (a 5) (a 1) (a 2) (a 6) cap5 s.k _ s.d s.nx s.T.n hn.1 hx _ _ w' h'.e h'.t.t.head);obtain ⟨c0,c1,c2,c3,c4,c5,zc⟩:=h.cells;rw [hlf];clear h hlf;go_enter Tryz.func55,Tryz.ntmps55
 go_wp2_with (first
  | (go_at_call 106;(with_reducible refine (RD.out _ HD.out).mono ?_);rintro e w1 ⟨rfl,rfl⟩)
  | (go_at_call 111;(with_reducible refine (EL.out _ HD.out).mono ?_);rintro e w1 ⟨rfl,hb1⟩))
 go_ret;exact ⟨rfl,hb1⟩
theorem fM.left (h:fM w a s tk E w0):Calls Tryz.prog 55 #[.pointer (some ⟨a 0,0,none⟩)] w λe w'=>e = .returned (.int .i64 ((s.left:Nat):Int))/\Below w.heap.size w w':=by
 rcases h.m with ⟨b,hA⟩ | ⟨b,f,c,hB⟩
 . exact hA.left h.ok
 . exact hB.left h.ok
theorem fM.ready (h:fM w a s tk E w0):Calls Tryz.prog 106 #[.pointer (some ⟨a 0,0,none⟩)] w λe w'=>e = .returned (.bool (decide (s.bare=0)))/\w=w':=by
 rcases h.m with ⟨b,hA⟩ | ⟨b,f,c,hB⟩
 . rw [decide_eq_false (by have:=hA.hb;omega)];exact hA.ready
 . rw [decide_eq_true hB.hb];exact hB.ready
structure DuC (w:World) (a:Nat->Nat) (s:DuS) (aT:Nat) (E:Nat->Addr) (w0:World):Prop where
 c0:w.cell? ⟨a 0,0,none⟩=some (.pointer (some ⟨a 1,0,none⟩))
 c2:w.cell? ⟨a 0,2,none⟩=some (.slice (some ⟨a 3,0,none⟩) s.k aT)
 z:a 0<w.heap.size
 bl:∀i,i<s.k->w.cell? ⟨a 3,i,none⟩=some (.pointer (some ⟨a (7+3*i),0,none⟩))
 bz:a 3<w.heap.size
 bw:∀i,i<s.k->∃k tk,BW w (a (7+3*i)) (a (8+3*i)) (a (9+3*i)) s.gn k tk
 t:TN w (a 1) (a 2) s.T E w0
theorem fM.c (h:fM w a s tk E w0):∃aT,DuC w a s aT E w0:=by
 rcases h.m with ⟨b,hA⟩ | ⟨b,f,c,hB⟩
 . exact ⟨b,hA.hd.cell 0,hA.hd.cell 2,hA.hd.lt,hA.bl,hA.bz,λi hi=>⟨_,_,hA.bw i hi⟩,hA.t⟩
 . exact ⟨b,hB.hd.cell 0,hB.hd.cell 2,hB.hd.lt,hB.bl,hB.bz,λi hi=>⟨s.gn,true,hB.bb i hi,(λe=>by cases e),aL _,h.ok.hr,hB.n.ne (.of hi (by omega) (by omega)) (.of hi (by omega) (by omega)) (by omega),hB.n.ne (.of hi (by omega) (by omega)) (.of hi (by omega) (by omega)) (by omega)⟩,hB.t⟩
theorem fM.groups (h:fM w a s tk E w0):Calls Tryz.prog 85 #[.pointer (some ⟨a 0,0,none⟩)] w λe w'=>e = .returned (.int .i64 ((s.T.n+s.k*s.gn:Nat):Int))/\w=w':=by
 obtain ⟨aT,hc⟩:=h.c;have hn:=h.ok.t.bounds;have hgb:=dZ h.ok.hr;have hk2:s.k<=2:=by rcases h.ok.hk with e|e <;> omega
 have HC:=aa hc;have GR:=aa (eT.groups hc.t);have BL:=aa (λ(i:Nat) (hi:i<s.k)=>by obtain ⟨k,tk,hb⟩:=hc.bw i hi;exact Mv _ _ _ _ k tk w hb);have c0:=hc.c0;have c2:=hc.c2;have zc:=hc.z;clear h hc;generalize s.T.n=n at *
 go_enter Tryz.func85,Tryz.ntmps85
 go_wp2_with (go_at_call 49;(with_reducible refine GR.out.mono ?_);rintro e w1 ⟨rfl,rfl⟩)
 go_loop [16,3] (λv16 v3 => ∃j:Nat,j<=s.k/\v16 = .int .i64 (j:Int)/\v3 = .int .i64 ((n+j*s.gn:Nat):Int)) (λv16 _=>s.k-(intOf v16).toNat)
 case atStart=>exact ⟨0,o7 _,rfl,by simp⟩
 case round =>
  obtain ⟨j,hj,rfl,rfl⟩:=hrel;by_cases hlt:j<s.k
  . have kJ:(j:Int)<(s.k:Int):=by omega
    have l0:=HC.out.bl j hlt;have zb:=HC.out.bz;have BJ:=aa (BL.out j hlt);have hjg:j*s.gn<=2*64:=Nat.mul_le_mul (by omega) hgb.2;have hst:n+(j+1)*s.gn=n+j*s.gn+s.gn:=by rw [Nat.add_mul];omega
    have HST:=aa hst;clear hst;generalize j*s.gn=jg at *
    have e1:IntKind.i64.wrap (((n+jg:Nat):Int)+(s.gn:Int))=((n+jg+s.gn:Nat):Int):=by rw [IntKind.wrap_i64];omega
    go_wp2_with (go_at_call 134;(with_reducible refine BJ.out.mono ?_);rintro e w1 ⟨rfl,rfl⟩)
    go_round
    case rel=>exact ⟨j+1,by omega,by go_num,by rw [HST.out];exact congrArg (Value.int .i64) (by omega)⟩
    case measure=>simp [intOf];omega
  . obtain rfl:j=s.k:=by omega
    go_wp2;go_ret;exact ⟨rfl,rfl⟩
def AJ (s:DuS) (a:Nat->Nat) (i:Nat):Nat:=if s.bare=0/\i<s.k then a (8+3*i) else a 1
def aa7 (s:DuS) (a:Nat->Nat) (i:Nat):Nat:=if s.bare=0/\i<s.k then a (9+3*i) else a 2
def gZ (s:DuS) (i:Nat):ae:=if s.bare=0/\i<s.k then s.U i else s.T
def gB (s:DuS):Nat:=if s.bare=0 then s.k+1 else 1
theorem fM.tab (h:fM w a s tk E w0) (i:Nat):TN w (AJ s a i) (aa7 s a i) (gZ s i) E w0:=by
 unfold AJ aa7 gZ;rcases h.m with ⟨b,hA⟩ | ⟨b,f,c,hB⟩
 . have:¬ (s.bare=0/\i<s.k):=λe=>by have:=hA.hb;omega
   rw [if_neg this,if_neg this,if_neg this];exact hA.t
 . by_cases e:s.bare=0/\i<s.k
   . rw [if_pos e,if_pos e,if_pos e];exact hB.u i e.2
   . rw [if_neg e,if_neg e,if_neg e];exact hB.t
theorem fZ {P:Program} {w:World} {o:Oper} {a:Act} {K:Act->World->Prop} {Q:Exit->Act->World->Prop} (s x:Operand) (t:TypeId)
 (ho:o.op = .call { callee := .builtin .append,args := #[s,x],argTypes := #[t,t]})
 (base:Nat) (e:TypeId) (i:TypeInfo) (size:Nat) (ht:P.underlying t=some (.slice e)) (hi:P.info? e=some i)
 (v:Value) (n:Nat) (xs:List Value) (hs:a.eval s=v) (hown:w.ownsRow base e size v n xs) (hx:a.eval x = .slice none 0 0)
 (h:K (a.put o.dst v) w):o.wp P a w K Q:=by
 have hrun:=run_append_owned_none (P:=P) (w:=w) base t o.type e i size ht hi v n xs hown;unfold Oper.wp;simp [execOp,ho,resolve,invoke,builtin,hs,hx,hrun,Result.andThen]
 exact h
theorem ed {w:World} {g:Nat} {T:TypeId} {x:Value} (h:af w g T #[x]):∀j u,[x][j]?=some u->w.cell? ((⟨g,0,none⟩:Addr).add j)=some u:=by
 intro j u hj
 match j,hj with
 | 0,hj=>simp only [List.getElem?_cons_zero,Option.some.injEq] at hj;subst hj;rw [Qp];exact h.cell 0
 | j+1,hj=>simp at hj
theorem bL {w:World} {base g:Nat} {e:TypeId} (h:af w g e #[]) (hb:base<=g):w.ownsRow base e 1 (.slice (some ⟨g,0,none⟩) 0 0) 0 []:=fU (gW h) hb
theorem ni.tables (h:ni w a s aT tk E w0):Calls Tryz.prog 127 #[.pointer (some ⟨a 0,0,none⟩)] w λe w' => ∃v,e = .returned v/\w'.ownsRow w.heap.size 85 1 v 1 [.pointer (some ⟨a 1,0,none⟩)]/\Below w.heap.size w w':=by
 obtain ⟨i0,hi,hz0,hz1,hz2⟩:=info_parts Ez;obtain ⟨c0,c1,c2,c3,c4,c5,zc⟩:=h.cells;clear h;go_enter Tryz.func127,Tryz.ntmps127
 go_wp2;go_cut [2] (λv2 wx=>wx.ownsRow w.heap.size 85 1 v2 1 [.pointer (some ⟨a 1,0,none⟩)]/\Below w.heap.size w wx)
 case first =>
  refine cZ (λ_=>False) #[⟨0,0,8,0,2⟩,⟨0,0,16,1,0⟩,⟨2,2,32,16,0⟩,⟨4,6,64,32,0⟩,⟨8,14,128,64,1⟩,⟨17,31,256,136,2⟩,⟨0,0,512,1,0⟩,⟨64,64,1024,512,0⟩,⟨128,192,2048,1024,0⟩,⟨256,448,4096,2048,1⟩,⟨512,960,8192,4096,2⟩,⟨1056,2047,2^14,8448,3⟩,⟨4095,4095,4,2^14,0⟩] 528 (.step 1 0 (.step 2 0 (.step 3 0 (.step 4 1 (.step 6 0 (.step 7 0 (.step 8 0 (.step 9 1 (.fork (.alt 0 (.fork (.alt 5 (.step 10 2 (.step 11 3 (.step 12 0 bu.done))) (.alt 10 (.step 5 2 (.step 11 3 (.step 12 0 bu.done))) bu.none))) (.alt 10 (.step 0 2 (.step 5 2 (.step 11 3 (.step 12 0 bu.done)))) bu.none))))))))))) (by kernel_rfl) (by kernel_rfl) (by kernel_rfl) (by kernel_rfl) (by kernel_rfl) (by kernel_rfl) (λc a d v w h=>by cases d <;> exact h) ?_;refine cO ?_;refine cO ?_;refine cO ?_;refine qV Tryz.underlying111 ?_
  try refine bF ?_;refine cO ?_;refine cO ?_;refine cO ?_
  refine qV Tryz.underlying85 ?_
  try refine bF ?_
  refine BH (λK hK=>?_) λK hK=>?_
  (go_wp2_with (fail);refine eQ hK (h:=?_);clear hK K)
  try refine bF ?_
  refine BH (λK hK=>?_) λK hK=>?_
  ((first|(refine fZ _ _ 111 rfl w.heap.size 85 i0 1 Tryz.underlying111 hi _ 0 [] rfl (by exact bL (af.drew (af.new _ _ _)) (aL _)) rfl ?_)|(refine aQ _ _ 111 rfl w.heap.size 85 i0 (.pointer none) 1 8 Tryz.underlying111 hi hz0 hz1 hz2 rfl (by decide) _ 0 [] rfl (by first|exact bL (af.drew ((af.new _ _ _).alloc _)) (aL _)|exact bL (af.drew (af.aF (by simp))) (Nat.le_succ _)) _ 1 1 [.pointer (some ⟨a 1,0,none⟩)] rfl rfl (by first|exact ed (af.drew (af.aF (by simp)))|exact ed (af.drew ((af.new _ _ _).alloc _))) (by simp [Value.oneCell']) (by unfold maxLen;omega) (by omega) (by simp;omega) (by decide) ?_;intro v5 w5 hown5 aP ic;have R5:=aa hown5;have B5:=aa (show Below w.heap.size w w5 from (show Below w.heap.size w _ by go_grown).grown aP (by simp;omega) (λk e=>by cases e;first|exact aL _|exact Nat.le_succ _|simp));clear hown5 aP ic));refine eQ hK (h:=?_);clear hK K)
  try refine bF ?_
  refine qU λK hK=>?_;go_wp2_with (fail);refine eQ hK (h:=?_);clear hK K
  try refine bF ?_
  refine iC λK hK=>?_;(first|(refine fZ _ _ 111 rfl w.heap.size 85 i0 1 Tryz.underlying111 hi _ 0 [] rfl (by exact bL (af.drew ((af.new _ _ _).alloc _)) (aL _)) rfl ?_)|(refine aQ _ _ 111 rfl w.heap.size 85 i0 (.pointer none) 1 8 Tryz.underlying111 hi hz0 hz1 hz2 rfl (by decide) _ 0 [] rfl (by exact bL (af.drew ((af.new _ _ _).alloc _)) (aL _)) _ 1 1 [.pointer (some ⟨a 1,0,none⟩)] rfl rfl (by exact ed (af.drew (af.aF (by simp)))) (by simp [Value.oneCell']) (by unfold maxLen;omega) (by omega) (by simp;omega) (by decide) ?_;intro v5 w5 hown5 aP ic;have R5:=aa hown5;have B5:=aa (show Below w.heap.size w w5 from (show Below w.heap.size w _ by go_grown).grown aP (by simp;omega) (λk e=>by cases e;exact aL _));clear hown5 aP ic));refine hK.out _ _ ?_;clear hK K
  try refine bF ?_;refine cO ?_
  refine bP ?_
  rotate_left 1
  (go_wp2_with (fail);refine eQ hK (h:=?_);clear hK K)
  try refine bF ?_
  refine qU λK hK=>?_;(first|(refine fZ _ _ 111 rfl w.heap.size 85 i0 1 Tryz.underlying111 hi _ 0 [] rfl (by exact bL (af.drew ((af.new _ _ _).alloc _)) (aL _)) rfl ?_)|(refine aQ _ _ 111 rfl w.heap.size 85 i0 (.pointer none) 1 8 Tryz.underlying111 hi hz0 hz1 hz2 rfl (by decide) _ 0 [] rfl (by first|exact bL (af.drew ((af.new _ _ _).alloc _)) (aL _)|exact bL (af.drew (af.aF (by simp))) (Nat.le_succ _)) _ 1 1 [.pointer (some ⟨a 1,0,none⟩)] rfl rfl (by first|exact ed (af.drew (af.aF (by simp)))|exact ed (af.drew ((af.new _ _ _).alloc _))) (by simp [Value.oneCell']) (by unfold maxLen;omega) (by omega) (by simp;omega) (by decide) ?_;intro v5 w5 hown5 aP ic;have R5:=aa hown5;have B5:=aa (show Below w.heap.size w w5 from (show Below w.heap.size w _ by go_grown).grown aP (by simp;omega) (λk e=>by cases e;first|exact aL _|exact Nat.le_succ _|simp));clear hown5 aP ic));refine eQ hK (h:=?_);clear hK K
  try refine bF ?_
  refine iC λK hK=>?_;(first|(refine fZ _ _ 111 rfl w.heap.size 85 i0 1 Tryz.underlying111 hi _ 0 [] rfl (by exact bL (af.drew ((af.new _ _ _).alloc _)) (aL _)) rfl ?_)|(refine aQ _ _ 111 rfl w.heap.size 85 i0 (.pointer none) 1 8 Tryz.underlying111 hi hz0 hz1 hz2 rfl (by decide) _ 0 [] rfl (by exact bL (af.drew ((af.new _ _ _).alloc _)) (aL _)) _ 1 1 [.pointer (some ⟨a 1,0,none⟩)] rfl rfl (by exact ed (af.drew (af.aF (by simp)))) (by simp [Value.oneCell']) (by unfold maxLen;omega) (by omega) (by simp;omega) (by decide) ?_;intro v5 w5 hown5 aP ic;have R5:=aa hown5;have B5:=aa (show Below w.heap.size w w5 from (show Below w.heap.size w _ by go_grown).grown aP (by simp;omega) (λk e=>by cases e;exact aL _));clear hown5 aP ic));refine hK.out _ _ ?_;clear hK K
  try refine bF ?_;refine cO ?_
  refine bP ?_
  rotate_left 1
  rotate_right 2
  rotate_left 2
  (go_wp2_with (fail);refine eQ hK (h:=?_);clear hK K)
  try refine bF ?_
  refine qU λK hK=>?_;go_wp2_with (fail);refine eQ hK (h:=?_);clear hK K
  try refine bF ?_
  refine qU λK hK=>?_;(first|(refine fZ _ _ 111 rfl w.heap.size 85 i0 1 Tryz.underlying111 hi _ 0 [] rfl (by exact bL (af.drew (af.aF (by simp))) (Nat.le_succ _)) rfl ?_)|(refine aQ _ _ 111 rfl w.heap.size 85 i0 (.pointer none) 1 8 Tryz.underlying111 hi hz0 hz1 hz2 rfl (by decide) _ 0 [] rfl (by first|exact bL (af.drew ((af.new _ _ _).alloc _)) (aL _)|exact bL (af.drew (af.aF (by simp))) (Nat.le_succ _)) _ 1 1 [.pointer (some ⟨a 1,0,none⟩)] rfl rfl (by first|exact ed (af.drew (af.aF (by simp)))|exact ed (af.drew ((af.new _ _ _).alloc _))) (by simp [Value.oneCell']) (by unfold maxLen;omega) (by omega) (by simp;omega) (by decide) ?_;intro v5 w5 hown5 aP ic;have R5:=aa hown5;have B5:=aa (show Below w.heap.size w w5 from (show Below w.heap.size w _ by go_grown).grown aP (by simp;omega) (λk e=>by cases e;first|exact aL _|exact Nat.le_succ _|simp));clear hown5 aP ic));refine eQ hK (h:=?_);clear hK K
  try refine bF ?_
  refine iC λK hK=>?_;(first|(refine fZ _ _ 111 rfl w.heap.size 85 i0 1 Tryz.underlying111 hi _ 0 [] rfl (by exact bL (af.drew (af.aF (by simp))) (Nat.le_succ _)) rfl ?_)|(refine aQ _ _ 111 rfl w.heap.size 85 i0 (.pointer none) 1 8 Tryz.underlying111 hi hz0 hz1 hz2 rfl (by decide) _ 0 [] rfl (by exact bL (af.drew (af.aF (by simp))) (Nat.le_succ _)) _ 1 1 [.pointer (some ⟨a 1,0,none⟩)] rfl rfl (by exact ed (af.drew ((af.new _ _ _).alloc _))) (by simp [Value.oneCell']) (by unfold maxLen;omega) (by omega) (by simp;omega) (by decide) ?_;intro v5 w5 hown5 aP ic;have R5:=aa hown5;have B5:=aa (show Below w.heap.size w w5 from (show Below w.heap.size w _ by go_grown).grown aP (by simp;omega) (λk e=>by cases e;exact Nat.le_succ _));clear hown5 aP ic));refine hK.out _ _ ?_;clear hK K
  try refine bF ?_;refine cO ?_
  refine bP ?_
  rotate_left 1
  rotate_right 3
  all_goals (go_wp2;go_meet)
  all_goals exact ⟨R5.out,B5.out⟩
 case rest =>
  obtain ⟨hR,hB⟩:=hcut;go_wp2;go_ret;exact ⟨_,rfl,hR,hB⟩
theorem jm.tables (h:jm w a s aT dz cap5 tk E w0) (hok:dW s):Calls Tryz.prog 127 #[.pointer (some ⟨a 0,0,none⟩)] w λe w' => ∃v,e = .returned v/\w'.ownsRow w.heap.size 85 1 v (s.k+1) ((List.range s.k).map (λi=>Value.pointer (some ⟨a (8+3*i),0,none⟩)) ++ [.pointer (some ⟨a 1,0,none⟩)])/\Below w.heap.size w w':=by
 obtain ⟨i0,hi,hz0,hz1,hz2⟩:=info_parts Ez;obtain ⟨c0,c1,c2,c3,c4,c5,zc⟩:=h.cells;have hk1:1<=s.k/\s.k<=2:=by rcases hok.hk with e|e <;> omega
 have FL:=aa (show ∀w',Below w.heap.size w w'->∀i,i<s.k->w'.cell? ⟨a 4,0+i,none⟩=some (.pointer (some ⟨a (8+3*i),0,none⟩)) from λw' hb i hi=>by
  rw [Nat.zero_add];exact (hb.cell (p:=⟨a 4,i,none⟩) h.fz).trans (h.fl i hi))
 clear h;go_enter Tryz.func127,Tryz.ntmps127
 go_wp2;go_cut [2] (λv2 wx=>wx.ownsRow w.heap.size 85 1 v2 (s.k+1) ((List.range s.k).map (λi=>Value.pointer (some ⟨a (8+3*i),0,none⟩)) ++ [.pointer (some ⟨a 1,0,none⟩)])/\Below w.heap.size w wx)
 case first =>
  refine cZ (λb=>w.heap.size<=b) #[⟨0,0,8,0,2⟩,⟨0,0,16,1,0⟩,⟨2,2,32,16,0⟩,⟨4,6,64,32,0⟩,⟨8,14,128,64,1⟩,⟨17,31,256,136,2⟩,⟨0,0,512,1,0⟩,⟨64,64,1024,512,0⟩,⟨128,192,2048,1024,0⟩,⟨256,448,4096,2048,1⟩,⟨512,960,8192,4096,2⟩,⟨1056,2047,2^14,8448,3⟩,⟨4095,4095,4,2^14,0⟩] 528 (.step 1 0 (.step 2 0 (.step 3 0 (.step 4 1 (.step 6 0 (.step 7 0 (.step 8 0 (.step 9 1 (.fork (.alt 0 (.fork (.alt 5 (.step 10 2 (.step 11 3 (.step 12 0 bu.done))) (.alt 10 (.step 5 2 (.step 11 3 (.step 12 0 bu.done))) bu.none))) (.alt 10 (.step 0 2 (.step 5 2 (.step 11 3 (.step 12 0 bu.done)))) bu.none))))))))))) (by kernel_rfl) (by kernel_rfl) (by kernel_rfl) (by kernel_rfl) (by kernel_rfl) (by kernel_rfl) (λc a d v w h=>by cases d <;> exact h) ?_;refine cO ?_;refine cO ?_;refine cO ?_;refine qV Tryz.underlying111 ?_
  try refine bF ?_;refine cO ?_;refine cO ?_;refine cO ?_
  refine qV Tryz.underlying85 ?_
  try refine bF ?_
  refine BH (λK hK=>?_) λK hK=>?_
  (go_wp2_with (fail);refine eQ hK (h:=?_);clear hK K)
  try refine bF ?_
  refine BH (λK hK=>?_) λK hK=>?_
  ((first|(refine aQ _ _ 111 rfl w.heap.size 85 i0 (.pointer none) 1 8 Tryz.underlying111 hi hz0 hz1 hz2 rfl (by decide) _ 0 [] rfl (by exact bL (af.drew (af.new _ _ _)) (aL _)) ⟨a 4,0,none⟩ s.k dz ((List.range s.k).map (λi=>Value.pointer (some ⟨a (8+3*i),0,none⟩))) rfl (by simp) (kH (F:=λi=>some ⟨a (8+3*i),0,none⟩) (FL.out _ (by go_grown))) (by simp [Value.oneCell']) (by unfold maxLen;omega) (by omega) (by simp <;> omega) (by omega) ?_;intro v5 w5 hown5 aP ic;have R5:=aa hown5;have B5:=aa (show Below w.heap.size w w5 from (show Below w.heap.size w _ by go_grown).grown aP (by simp <;> omega) (λk e=>by cases e;exact aL _));(skip);have IB:=B5.out.size;have NT:ah (λb=>w.heap.size<=b) _ w5:=(ah.fC aP).mono (λb _ e=>by cases e;exact aL _);clear hown5 aP ic)|(refine aQ _ _ 111 rfl w.heap.size 85 i0 (.pointer none) 1 8 Tryz.underlying111 hi hz0 hz1 hz2 rfl (by decide) _ (0+s.k) _ rfl (by first|exact R5.out|exact aB R5.out ((aM _ _).alloc (aL _) _)) _ 1 1 [.pointer (some ⟨a 1,0,none⟩)] rfl rfl (by first|exact ed (af.new _ _ _)|exact ed N5.out) (by simp [Value.oneCell']) (by unfold maxLen;omega) (by omega) (by first|exact IB|(simp;omega)) (by decide) ?_;intro v6 w6 hown6 gy EG;have R6:=aa hown6;have B6:=aa (show Below w.heap.size w w6 from by first|exact B5.out.grown gy IB (λk e=>(R5.out.lt k e).1)|exact (B5.out.alloc IB _).grown gy (by simp <;> omega) (λk e=>(R5.out.lt k e).1));clear hown6 gy EG));refine eQ hK (h:=?_);clear hK K)
  try refine bF ?_
  refine qU λK hK=>?_;go_wp2_with (fail);refine eQ hK (h:=?_);clear hK K
  try refine bF ?_
  refine iC λK hK=>?_;(first|(refine aQ _ _ 111 rfl w.heap.size 85 i0 (.pointer none) 1 8 Tryz.underlying111 hi hz0 hz1 hz2 rfl (by decide) _ 0 [] rfl (by first|exact bL (af.drew (af.new _ _ _)) (aL _)|exact bL (af.drew ((af.new _ _ _).alloc _)) (aL _)|exact bL (af.drew (af.aF (by simp))) (Nat.le_succ _)) ⟨a 4,0,none⟩ s.k dz ((List.range s.k).map (λi=>Value.pointer (some ⟨a (8+3*i),0,none⟩))) rfl (by simp) (kH (F:=λi=>some ⟨a (8+3*i),0,none⟩) (FL.out _ (by go_grown))) (by simp [Value.oneCell']) (by unfold maxLen;omega) (by omega) (by simp <;> omega) (by omega) ?_;intro v5 w5 hown5 aP ic;have R5:=aa hown5;have B5:=aa (show Below w.heap.size w w5 from (show Below w.heap.size w _ by go_grown).grown aP (by simp <;> omega) (λk e=>by cases e;first|exact aL _|exact Nat.le_succ _|simp));(first|(have N5:=aa (af.kept (af.drew (af.aF (B:=w.heap.size+1) (T:=85) (c := #[.pointer (some ⟨a 1,0,none⟩)]) (by simp))) aP (show some (w.heap.size+1)≠some w.heap.size by simp)))|(have N5:=aa (af.kept (af.drew ((af.new w 85 #[.pointer (some ⟨a 1,0,none⟩)]).alloc _)) aP (show some w.heap.size≠some (w.heap.size+1) by simp)))|skip);have IB:=B5.out.size;have NT:ah (λb=>w.heap.size<=b) _ w5:=(ah.fC aP).mono (λb _ e=>by cases e;first|exact aL _|exact Nat.le_succ _|simp);clear hown5 aP ic)|(refine aQ _ _ 111 rfl w.heap.size 85 i0 (.pointer none) 1 8 Tryz.underlying111 hi hz0 hz1 hz2 rfl (by decide) _ (0+s.k) _ rfl (by exact aB R5.out ((aM _ _).alloc (aL _) _)) _ 1 1 [.pointer (some ⟨a 1,0,none⟩)] rfl rfl (by exact ed (af.new _ _ _)) (by simp [Value.oneCell']) (by unfold maxLen;omega) (by omega) (by ((simp;omega))) (by decide) ?_;intro v6 w6 hown6 gy EG;have R6:=aa hown6;have B6:=aa (show Below w.heap.size w w6 from by (exact (B5.out.alloc IB _).grown gy (by simp <;> omega) (λk e=>(R5.out.lt k e).1)));clear hown6 gy EG));refine hK.out _ _ ?_;clear hK K
  try refine bF ?_;refine cO ?_
  refine bP ?_
  rotate_left 1
  (go_wp2_with (fail);refine eQ hK (h:=?_);clear hK K)
  try refine bF ?_
  refine qU λK hK=>?_;(first|(refine aQ _ _ 111 rfl w.heap.size 85 i0 (.pointer none) 1 8 Tryz.underlying111 hi hz0 hz1 hz2 rfl (by decide) _ 0 [] rfl (by exact bL (af.drew ((af.new _ _ _).alloc _)) (aL _)) ⟨a 4,0,none⟩ s.k dz ((List.range s.k).map (λi=>Value.pointer (some ⟨a (8+3*i),0,none⟩))) rfl (by simp) (kH (F:=λi=>some ⟨a (8+3*i),0,none⟩) (FL.out _ (by go_grown))) (by simp [Value.oneCell']) (by unfold maxLen;omega) (by omega) (by simp <;> omega) (by omega) ?_;intro v5 w5 hown5 aP ic;have R5:=aa hown5;have B5:=aa (show Below w.heap.size w w5 from (show Below w.heap.size w _ by go_grown).grown aP (by simp <;> omega) (λk e=>by cases e;exact aL _));((have N5:=aa (af.kept (af.drew (af.aF (B:=w.heap.size+1) (T:=85) (c := #[.pointer (some ⟨a 1,0,none⟩)]) (by simp))) aP (show some (w.heap.size+1)≠some w.heap.size by simp))));have IB:=B5.out.size;have NT:ah (λb=>w.heap.size<=b) _ w5:=(ah.fC aP).mono (λb _ e=>by cases e;exact aL _);clear hown5 aP ic)|(refine aQ _ _ 111 rfl w.heap.size 85 i0 (.pointer none) 1 8 Tryz.underlying111 hi hz0 hz1 hz2 rfl (by decide) _ (0+s.k) _ rfl (by first|exact R5.out|exact aB R5.out ((aM _ _).alloc (aL _) _)) _ 1 1 [.pointer (some ⟨a 1,0,none⟩)] rfl rfl (by first|exact ed (af.new _ _ _)|exact ed N5.out) (by simp [Value.oneCell']) (by unfold maxLen;omega) (by omega) (by first|exact IB|(simp;omega)) (by decide) ?_;intro v6 w6 hown6 gy EG;have R6:=aa hown6;have B6:=aa (show Below w.heap.size w w6 from by first|exact B5.out.grown gy IB (λk e=>(R5.out.lt k e).1)|exact (B5.out.alloc IB _).grown gy (by simp <;> omega) (λk e=>(R5.out.lt k e).1));clear hown6 gy EG));refine eQ hK (h:=?_);clear hK K
  try refine bF ?_
  refine iC λK hK=>?_;(first|(refine aQ _ _ 111 rfl w.heap.size 85 i0 (.pointer none) 1 8 Tryz.underlying111 hi hz0 hz1 hz2 rfl (by decide) _ 0 [] rfl (by first|exact bL (af.drew (af.new _ _ _)) (aL _)|exact bL (af.drew ((af.new _ _ _).alloc _)) (aL _)|exact bL (af.drew (af.aF (by simp))) (Nat.le_succ _)) ⟨a 4,0,none⟩ s.k dz ((List.range s.k).map (λi=>Value.pointer (some ⟨a (8+3*i),0,none⟩))) rfl (by simp) (kH (F:=λi=>some ⟨a (8+3*i),0,none⟩) (FL.out _ (by go_grown))) (by simp [Value.oneCell']) (by unfold maxLen;omega) (by omega) (by simp <;> omega) (by omega) ?_;intro v5 w5 hown5 aP ic;have R5:=aa hown5;have B5:=aa (show Below w.heap.size w w5 from (show Below w.heap.size w _ by go_grown).grown aP (by simp <;> omega) (λk e=>by cases e;first|exact aL _|exact Nat.le_succ _|simp));(first|(have N5:=aa (af.kept (af.drew (af.aF (B:=w.heap.size+1) (T:=85) (c := #[.pointer (some ⟨a 1,0,none⟩)]) (by simp))) aP (show some (w.heap.size+1)≠some w.heap.size by simp)))|(have N5:=aa (af.kept (af.drew ((af.new w 85 #[.pointer (some ⟨a 1,0,none⟩)]).alloc _)) aP (show some w.heap.size≠some (w.heap.size+1) by simp)))|skip);have IB:=B5.out.size;have NT:ah (λb=>w.heap.size<=b) _ w5:=(ah.fC aP).mono (λb _ e=>by cases e;first|exact aL _|exact Nat.le_succ _|simp);clear hown5 aP ic)|(refine aQ _ _ 111 rfl w.heap.size 85 i0 (.pointer none) 1 8 Tryz.underlying111 hi hz0 hz1 hz2 rfl (by decide) _ (0+s.k) _ rfl (by exact R5.out) _ 1 1 [.pointer (some ⟨a 1,0,none⟩)] rfl rfl (by exact ed N5.out) (by simp [Value.oneCell']) (by unfold maxLen;omega) (by omega) (by exact IB) (by decide) ?_;intro v6 w6 hown6 gy EG;have R6:=aa hown6;have B6:=aa (show Below w.heap.size w w6 from by exact B5.out.grown gy IB (λk e=>(R5.out.lt k e).1));clear hown6 gy EG));refine hK.out _ _ ?_;clear hK K
  try refine bF ?_;refine cO ?_
  refine bP ?_
  rotate_left 1
  rotate_right 2
  rotate_left 2
  (go_wp2_with (fail);refine eQ hK (h:=?_);clear hK K)
  try refine bF ?_
  refine qU λK hK=>?_;go_wp2_with (fail);refine eQ hK (h:=?_);clear hK K
  try refine bF ?_
  refine qU λK hK=>?_;(first|(refine aQ _ _ 111 rfl w.heap.size 85 i0 (.pointer none) 1 8 Tryz.underlying111 hi hz0 hz1 hz2 rfl (by decide) _ 0 [] rfl (by exact bL (af.drew (af.aF (by simp))) (Nat.le_succ _)) ⟨a 4,0,none⟩ s.k dz ((List.range s.k).map (λi=>Value.pointer (some ⟨a (8+3*i),0,none⟩))) rfl (by simp) (kH (F:=λi=>some ⟨a (8+3*i),0,none⟩) (FL.out _ (by go_grown))) (by simp [Value.oneCell']) (by unfold maxLen;omega) (by omega) (by simp <;> omega) (by omega) ?_;intro v5 w5 hown5 aP ic;have R5:=aa hown5;have B5:=aa (show Below w.heap.size w w5 from (show Below w.heap.size w _ by go_grown).grown aP (by simp <;> omega) (λk e=>by cases e;exact Nat.le_succ _));((have N5:=aa (af.kept (af.drew ((af.new w 85 #[.pointer (some ⟨a 1,0,none⟩)]).alloc _)) aP (show some w.heap.size≠some (w.heap.size+1) by simp))));have IB:=B5.out.size;have NT:ah (λb=>w.heap.size<=b) _ w5:=(ah.fC aP).mono (λb _ e=>by cases e;exact Nat.le_succ _);clear hown5 aP ic)|(refine aQ _ _ 111 rfl w.heap.size 85 i0 (.pointer none) 1 8 Tryz.underlying111 hi hz0 hz1 hz2 rfl (by decide) _ (0+s.k) _ rfl (by first|exact R5.out|exact aB R5.out ((aM _ _).alloc (aL _) _)) _ 1 1 [.pointer (some ⟨a 1,0,none⟩)] rfl rfl (by first|exact ed (af.new _ _ _)|exact ed N5.out) (by simp [Value.oneCell']) (by unfold maxLen;omega) (by omega) (by first|exact IB|(simp;omega)) (by decide) ?_;intro v6 w6 hown6 gy EG;have R6:=aa hown6;have B6:=aa (show Below w.heap.size w w6 from by first|exact B5.out.grown gy IB (λk e=>(R5.out.lt k e).1)|exact (B5.out.alloc IB _).grown gy (by simp <;> omega) (λk e=>(R5.out.lt k e).1));clear hown6 gy EG));refine eQ hK (h:=?_);clear hK K
  try refine bF ?_
  refine iC λK hK=>?_;(first|(refine aQ _ _ 111 rfl w.heap.size 85 i0 (.pointer none) 1 8 Tryz.underlying111 hi hz0 hz1 hz2 rfl (by decide) _ 0 [] rfl (by first|exact bL (af.drew (af.new _ _ _)) (aL _)|exact bL (af.drew ((af.new _ _ _).alloc _)) (aL _)|exact bL (af.drew (af.aF (by simp))) (Nat.le_succ _)) ⟨a 4,0,none⟩ s.k dz ((List.range s.k).map (λi=>Value.pointer (some ⟨a (8+3*i),0,none⟩))) rfl (by simp) (kH (F:=λi=>some ⟨a (8+3*i),0,none⟩) (FL.out _ (by go_grown))) (by simp [Value.oneCell']) (by unfold maxLen;omega) (by omega) (by simp <;> omega) (by omega) ?_;intro v5 w5 hown5 aP ic;have R5:=aa hown5;have B5:=aa (show Below w.heap.size w w5 from (show Below w.heap.size w _ by go_grown).grown aP (by simp <;> omega) (λk e=>by cases e;first|exact aL _|exact Nat.le_succ _|simp));(first|(have N5:=aa (af.kept (af.drew (af.aF (B:=w.heap.size+1) (T:=85) (c := #[.pointer (some ⟨a 1,0,none⟩)]) (by simp))) aP (show some (w.heap.size+1)≠some w.heap.size by simp)))|(have N5:=aa (af.kept (af.drew ((af.new w 85 #[.pointer (some ⟨a 1,0,none⟩)]).alloc _)) aP (show some w.heap.size≠some (w.heap.size+1) by simp)))|skip);have IB:=B5.out.size;have NT:ah (λb=>w.heap.size<=b) _ w5:=(ah.fC aP).mono (λb _ e=>by cases e;first|exact aL _|exact Nat.le_succ _|simp);clear hown5 aP ic)|(refine aQ _ _ 111 rfl w.heap.size 85 i0 (.pointer none) 1 8 Tryz.underlying111 hi hz0 hz1 hz2 rfl (by decide) _ (0+s.k) _ rfl (by exact R5.out) _ 1 1 [.pointer (some ⟨a 1,0,none⟩)] rfl rfl (by exact ed N5.out) (by simp [Value.oneCell']) (by unfold maxLen;omega) (by omega) (by exact IB) (by decide) ?_;intro v6 w6 hown6 gy EG;have R6:=aa hown6;have B6:=aa (show Below w.heap.size w w6 from by exact B5.out.grown gy IB (λk e=>(R5.out.lt k e).1));clear hown6 gy EG));refine hK.out _ _ ?_;clear hK K
  try refine bF ?_;refine cO ?_
  refine bP ?_
  rotate_left 1
  rotate_right 3
  all_goals (go_wp2;go_meet)
  all_goals exact ⟨by simpa using R6.out,B6.out⟩
 case rest =>
  obtain ⟨hR,hB⟩:=hcut;go_wp2;go_ret;exact ⟨_,rfl,hR,hB⟩
theorem fM.tables (h:fM w a s tk E w0):Calls Tryz.prog 127 #[.pointer (some ⟨a 0,0,none⟩)] w λe w' => ∃v,e = .returned v/\w'.ownsRow w.heap.size 85 1 v (gB s) ((List.range (gB s)).map (λi=>Value.pointer (some ⟨AJ s a i,0,none⟩)))/\Below w.heap.size w w':=by
 rcases h.m with ⟨b,hA⟩ | ⟨b,f,c,hB⟩
 . have hb:=hA.hb;have e1:gB s=1:=by unfold gB;rw [if_neg (by omega)]
   have e2:AJ s a 0=a 1:=by unfold AJ;rw [if_neg (by omega)]
   refine hA.tables.mono ?_;rintro e w' ⟨v,rfl,h1,h2⟩
   exact ⟨v,rfl,by rw [e1];simpa [e2,List.range_succ] using h1,h2⟩
 . have e1:gB s=s.k+1:=by unfold gB;rw [if_pos hB.hb]
   refine (hB.tables h.ok).mono ?_;rintro e w' ⟨v,rfl,h1,h2⟩
   refine ⟨v,rfl,?_,h2⟩;rw [e1,List.range_succ,List.map_append]
   have e2:(List.range s.k).map (λi=>Value.pointer (some ⟨AJ s a i,0,none⟩))=(List.range s.k).map (λi=>Value.pointer (some ⟨a (8+3*i),0,none⟩)):=List.map_congr_left λi hi=>by
    have:=List.mem_range.1 hi;unfold AJ;rw [if_pos ⟨hB.hb,this⟩]
   have e3:AJ s a s.k=a 1:=by unfold AJ;rw [if_neg (by omega)]
   rw [e2];simp only [List.map_cons,List.map_nil,e3];exact h1
end
def QK (s:DuS):Nat->Int
 | 0=>0
 | j+1=>QK s j+(gZ s j).lv
def lsA (s:DuS) (f:ai):Nat->ai×Bool
 | 0=>(ai.zero,false)
 | j+1=>mD (lsA s f j) ((gZ s j).least f)
def nS (s:DuS) (j:Nat):Nat:=gp (λi=>(gZ s i).n) j
theorem Hm {s:DuS} (h:dW s) (i:Nat):bq (gZ s i):=by
 unfold gZ;split
 . rename_i e;exact (h.u i e.2).1
 . exact h.t
theorem UX {s:DuS} (h:dW s):∀j,0<=QK s j/\QK s j<=512*(j:Int)
 | 0=>⟨Int.le_refl _,by simp [QK]⟩
 | j+1=>by
  have h1:=UX h j;have h2:=(Hm h j).bounds;show 0<=QK s j+(gZ s j).lv/\QK s j+(gZ s j).lv<=_
  omega
theorem oL {T:ae} (hT:bq T):(T.iG.length:Int)=T.lv:=kM hT
theorem Qo {s:DuS} (h:dW s):((s.all s.k).length:Int)=QK s (gB s):=by
 have hU:∀j,j<=s.k->s.bare=0->QK s j=((s.oZ j).length:Int):=λj=>by
  induction j with
  | zero=>intro _ _;rfl
  | succ j ih =>
   intro hj hb;show QK s j+(gZ s j).lv=((s.oZ j ++ (s.U j).iG).length:Int)
   have e1:gZ s j=s.U j:=by unfold gZ;rw [if_pos ⟨hb,by omega⟩]
   rw [ih (by omega) hb,e1,<-oL (h.u j (by omega)).1,List.length_append];omega
 rw [jA,List.length_append];by_cases hb:s.bare=0
 . have e1:gB s=s.k+1:=by unfold gB;rw [if_pos hb]
   have e2:gZ s s.k=s.T:=by unfold gZ;rw [if_neg (by omega)]
   rw [e1];show _=QK s s.k+(gZ s s.k).lv
   rw [e2,hU s.k (aL _) hb,<-oL h.t];omega
 . have e1:gB s=1:=by unfold gB;rw [if_neg hb]
   have e2:gZ s 0=s.T:=by unfold gZ;rw [if_neg (λe=>hb e.1)]
   have hn:∀i,i<=s.k->s.oZ i = []:=λi=>by
    induction i with
    | zero=>intro _;rfl
    | succ i ih =>
     intro hi;show s.oZ i ++ (s.U i).iG = []
     rw [ih (by omega),(h.pre (by omega)).2 i (by omega),La];rfl
   rw [e1,hn s.k (aL _)];show _=0+(gZ s 0).lv
   rw [e2,<-oL h.t];simp
theorem Si (s:DuS) (f:ai):lsA s f (gB s)=s.least f:=by
 unfold DuS.least;by_cases hb:s.bare=0
 . have e1:gB s=s.k+1:=by unfold gB;rw [if_pos hb]
   have e2:gZ s s.k=s.T:=by unfold gZ;rw [if_neg (by omega)]
   have hU:∀j,j<=s.k->lsA s f j=s.r9 f j:=λj=>by
    induction j with
    | zero=>intro _;rfl
    | succ j ih =>
     intro hj;have e3:gZ s j=s.U j:=by unfold gZ;rw [if_pos ⟨hb,by omega⟩]
     show mD (lsA s f j) ((gZ s j).least f)=mD (s.r9 f j) ((s.U j).least f)
     rw [ih (by omega),e3]
   rw [e1,if_pos hb];show mD (lsA s f s.k) ((gZ s s.k).least f)=_
   rw [hU s.k (aL _),e2]
 . have e1:gB s=1:=by unfold gB;rw [if_neg hb]
   have e2:gZ s 0=s.T:=by unfold gZ;rw [if_neg (λe=>hb e.1)]
   rw [e1,if_neg hb];show mD (ai.zero,false) ((gZ s 0).least f)=_
   rw [e2]
section
variable {w w' w0:World} {a:Nat->Nat} {s:DuS} {tk:Bool} {E:Nat->Addr} {lp:Option Nat} {mt:aG}
theorem fM.len (h:fM w a s tk E w0):Calls Tryz.prog 86 #[.pointer (some ⟨a 0,0,none⟩)] w λe w'=>e = .returned (.int .i64 ((s.all s.k).length:Int))/\Below w.heap.size w w':=by
 have hn3:1<=gB s/\gB s<=3:=by unfold gB;have:=h.ok.hk;split <;> omega
 rw [Qo h.ok];have HD:=aa h;have HB:=aa (UX h.ok);have HG:=aa (λi=>(Hm h.ok i).bounds);have TB:=aa h.tables;have LN:=aa (λ(i:Nat) (w':World) (h':fM w' a s tk E w0)=>eT.len (h'.tab i));clear h;go_enter Tryz.func86,Tryz.ntmps86
 go_wp2_with (go_at_call 127;(with_reducible refine TB.out.mono ?_);rintro e w1 ⟨v,rfl,hr1,hb1⟩;obtain ⟨g1,cap1,ajC,rfl,hbg,hg1,hc1⟩:=jo hr1 hn3.1;have HC:=aa hc1;have HGL:=aa hg1.lt;have B1:=aa hb1;have D1:=aa (HD.out.later hb1);clear hr1 hg1 hc1)
 go_loop [9,3] (λv9 v3 => ∃j:Nat,j<=gB s/\v9 = .int .i64 (j:Int)/\v3 = .int .i64 (QK s j)) (λv9 _=>gB s-(intOf v9).toNat)
 case atStart=>exact ⟨0,o7 _,rfl,rfl⟩
 case round =>
  obtain ⟨j,hj,rfl,rfl⟩:=hrel;by_cases hlt:j<gB s
  . have kJ:(j:Int)<(gB s:Int):=by omega
    have l0:=HC.out j hlt;have zg:=HGL.out;have hb:=HB.out j;have hg:=HG.out j;have LJ:=aa (LN.out j);have hst:QK s (j+1)=QK s j+(gZ s j).lv:=rfl;have HST:=aa hst;clear hst;generalize (gZ s j).lv=x at *
    generalize QK s j=y at *
    have e1:IntKind.i64.wrap (y+x)=y+x:=by rw [IntKind.wrap_i64];omega
    go_wp2_with (go_at_call 47;(with_reducible refine (LJ.out _ D1.out).mono ?_);rintro e w2 ⟨rfl,rfl⟩)
    go_round
    case rel=>exact ⟨j+1,by omega,by go_num,by rw [HST.out]⟩
    case measure=>simp [intOf];omega
  . obtain rfl:j=gB s:=by omega
    go_wp2;go_ret;exact ⟨rfl,B1.out⟩
theorem fM.aa8 (h:fM w a s tk E w0) (hs:j4 lp a s w0.heap.size) (i:Nat):jb lp (AJ s a i) (aa7 s a i) w0.heap.size:=by
 unfold j4 at hs;unfold AJ aa7;by_cases e:s.bare=0/\i<s.k
 . rw [if_pos e,if_pos e];exact hs.ok (.of e.2 (by omega) (by omega)) (.of e.2 (by omega) (by omega))
 . rw [if_neg e,if_neg e];exact hs.ok (.fH (by decide)) (.fH (by decide))
theorem fM.Ui (h:fM w a s tk E w0) (hl:LW w lp mt) (hs:j4 lp a s w0.heap.size) (i:Nat) (key hash:Int) (q:Option Addr) (hq:di q lp) (x y z:Int) :
 Calls Tryz.prog 71 #[.pointer (some ⟨AJ s a i,0,none⟩),.agg #[.pointer q,.int .i64 x,.int .i64 y,.int .i64 z],.int .u64 hash,.int .u64 key] w λe w' =>
  e = .returned (.tuple #[.agg #[.int .u64 ((gZ s i).least ⟨key,0,hash⟩).1.key,.int .u64 ((gZ s i).least ⟨key,0,hash⟩).1.val,.int .u64 ((gZ s i).least ⟨key,0,hash⟩).1.hash],.bool ((gZ s i).least ⟨key,0,hash⟩).2])/\fM w' a s tk E w0/\LW w' lp (addN mt x y z (gZ s i).n)/\ah (λb=>lp=some b) w w':=by
 have ht:=h.tab i;refine (DJ _ _ _ ht.good key hash q lp hq mt x y z w ht.t hl ((h.aa8 hs i).oq hl ht.low.lt) ht.low.t).mono ?_;rintro e w' ⟨rfl,h1,h2⟩
 exact ⟨rfl,h.lens hs h2,h1,h2⟩
theorem fM.least (h:fM w a s tk E w0) (hl:LW w lp mt) (hs:j4 lp a s w0.heap.size) (key hash:Int) (q:Option Addr) (hq:di q lp) (x y z:Int) :
 Calls Tryz.prog 70 #[.pointer (some ⟨a 0,0,none⟩),.agg #[.pointer q,.int .i64 x,.int .i64 y,.int .i64 z],.int .u64 hash,.int .u64 key] w λe w' =>
  e = .returned (.tuple #[.agg #[.int .u64 (s.least ⟨key,0,hash⟩).1.key,.int .u64 (s.least ⟨key,0,hash⟩).1.val,.int .u64 (s.least ⟨key,0,hash⟩).1.hash],.bool (s.least ⟨key,0,hash⟩).2])/\fM w' a s tk E w0/\LW w' lp (addN mt x y z (nS s (gB s)))/\ah (λb=>lp=some b) w w':=by
 have hn3:1<=gB s/\gB s<=3:=by unfold gB;have:=h.ok.hk;split <;> omega
 rw [<-Si];have HS:=aa hs;have HD:=aa h;have HL:=aa hl;have TB:=aa (λ(w':World) (h':fM w' a s tk E w0)=>h'.tables);have LT:=aa (λ(i:Nat) (jX:aG) (w':World) (h':fM w' a s tk E w0) (hl':LW w' lp jX)=>h'.Ui hl' hs i key hash q hq x y z);have HZ:=aa (show ∀b,lp=some b->b<w.heap.size from λb e=>(hl b e).lt);have ik:∀b,w.heap.size<=b->¬lp=some b:=λb hb e=>by have:=HZ.out b e;omega
 have hge:=h.ge;obtain ⟨f,hf⟩:∃f,f=(⟨key,0,hash⟩:ai):=⟨_,rfl⟩
 rw [<-hf] at LT ⊢;replace hf:=aa hf;clear h hl hs;obtain ⟨B5,jL⟩:=dC w.heap.size;have Sz:w.heap.size<=B5:=Nat.le_of_eq jL.symm;go_enter Tryz.func70,Tryz.ntmps70
 go_upto_region 3 with (fail)
 refine bG (λw1 hw1=>?_);have hb1:Below w.heap.size w w1:=by rw [hw1];go_grown
 have X5:=aa (show af w1 B5 50 #[.pointer q,.int .i64 x,.int .i64 y,.int .i64 z] by rw [hw1,jL];exact ((af.new _ _ _).alloc _).alloc _);have X8:=aa (show af w1 (B5+1) 46 #[.int .u64 0,.int .u64 0,.int .u64 0] by rw [hw1,jL];exact (af.aF (by simp)).alloc _);have XA:=aa (show af w1 (B5+1+1) 46 #[.int .u64 0,.int .u64 0,.int .u64 0] by rw [hw1,jL];exact af.aF (by simp));have D1:=aa (HD.out.later hb1);have L1:=aa (HL.out.later hb1);have C1:=aa (show ah (λb=>lp=some b) w w1 from ah.of_below hb1);rw [<-jL];replace jL:=aa jL;replace hw1:=aa hw1;clear hb1
 go_wp2_with (go_at_call 127;(with_reducible refine (TB.out _ D1.out).mono ?_);rintro e w2 ⟨v,rfl,hr1,hb2⟩;obtain ⟨g1,cap1,ajC,rfl,hbg,hg1,hc1⟩:=jo hr1 hn3.1;have G2:=aa hg1;have HC:=aa hc1;have D2:=aa (D1.out.later hb2);have L2:=aa (L1.out.later hb2);have C2:=aa (C1.out.au hb2);have Y5:=aa (X5.out.below hb2 X5.out.lt);have Y8:=aa (X8.out.below hb2 X8.out.lt);have YA:=aa (XA.out.below hb2 XA.out.lt);have z1A:=XA.out.lt;clear hr1 hg1 hc1 hb2)
 have hg5:B5+1+1<g1:=by omega
 go_loopw [19,11] (λv19 v11 wr => ∃j:Nat,j<=gB s/\v19 = .int .i64 (j:Int)/\v11 = .bool (lsA s f j).2/\fM wr a s tk E w0/\LW wr lp (addN mt x y z (nS s j))/\ah (λb=>lp=some b) w wr/\ah (λb=>lp=some b\/b=B5+1+1) w2 wr/\af wr (B5+1+1) 46 #[.int .u64 (lsA s f j).1.key,.int .u64 (lsA s f j).1.val,.int .u64 (lsA s f j).1.hash]) (λv19 _ _=>gB s-(intOf v19).toNat)
 case atStart=>exact ⟨0,o7 _,rfl,rfl,D2.out,L2.out,C2.out,ah.refl _ _,YA.out⟩
 case round =>
  clear D2 L2 C2;obtain ⟨j,hj,rfl,rfl,hD,hL,hCw,hC2,hA⟩:=hrel;have KD:=aa hD;have KL:=aa hL;have KC:=aa hCw;have K2:=aa hC2;have KA:=aa hA;have Z5:=aa (Y5.out.aA hC2 (by rintro (e|e);exact ik _ (by omega) e;omega));have Z8:=aa (Y8.out.aA hC2 (by rintro (e|e);exact ik _ (by omega) e;omega));have hgz:=G2.out.lt;have hcz:=hC2.size;obtain ⟨a0,a1,a2⟩:=cells3 hA;have zA:=hA.lt;obtain ⟨l0,l1,l2,l3⟩:=iq Z5.out;have zl:=Z5.out.lt;clear hD hL hCw hC2 hA;by_cases hlt:j<gB s
  . have kJ:(j:Int)<(gB s:Int):=by omega
    have c0:wr.cell? ⟨g1,j,none⟩=some (.pointer (some ⟨AJ s a j,0,none⟩)):=(K2.out.cell (p:=⟨g1,j,none⟩) hgz (by rintro (e|e);exact ik g1 (by omega) e;have:g1=B5+1+1:=e;omega)).trans (HC.out j hlt);have zg:g1<wr.heap.size:=by omega
    have LJ:=aa (λ(w':World) (h':fM w' a s tk E w0) (hl':LW w' lp (addN mt x y z (nS s j)))=>LT.out j _ w' h' hl');have hst:lsA s f (j+1)=mD (lsA s f j) ((gZ s j).least f):=rfl;have HST:=aa hst;have hns:addN (addN mt x y z (nS s j)) x y z (gZ s j).n=addN mt x y z (nS s (j+1)):=nW _ _ _ _ _ _;rw [hns] at LJ;have LSS:=aa (λ(e1 e2:ai) (w':World)=>Bj e1 e2 w');obtain ⟨e1,he1⟩:=dC (lsA s f j);obtain ⟨e2,he2⟩:=dC ((gZ s j).least f);rw [<-he1] at a0 a1 a2 HST KA;rw [<-he2] at LJ HST;rw [<-he1];obtain ⟨⟨m0,m1,m2⟩,mb⟩:=e1;obtain ⟨⟨n0,n1,n2⟩,nb⟩:=e2;dsimp only at a0 a1 a2 LJ KA ⊢;replace he1:=aa he1;replace he2:=aa he2;generalize AJ s a j=tb at *
    clear hst hns;cases nb with
    | false =>
     have HQ:=aa (show lsA s f (j+1)=(⟨m0,m1,m2⟩,mb) from HST.out)
     go_wp2_with (go_at_call 71;(with_reducible refine (LJ.out _ KD.out KL.out).mono ?_);rintro e w3 ⟨rfl,hd3,hl3,hc3⟩;have SA:=aa ((aM w3.heap.size w3).alloc (aL _) (.cells #[.int .u64 n0,.int .u64 n1,.int .u64 n2] 46));have D3:=aa (hd3.later SA.out);have L3:=aa (hl3.later SA.out);have C3:=aa ((KC.out.trans hc3).au SA.out);have K3:=aa ((K2.out.trans (hc3.mono (λ_ _ e => .inl e))).au SA.out);have sP:=KA.out.aA hc3 (ik _ (by omega));have A3:=aa (sP.below SA.out sP.lt);have q3:=cells3 sP;have q30:=q3.1;have q31:=q3.2.1;have q32:=q3.2.2;have zq3:=sP.lt;have qf3:=λj=>sP.frozen j;have D3r:=aa hd3;have L3r:=aa hl3;have C3r:=aa (KC.out.trans hc3);have K3r:=aa (K2.out.trans (hc3.mono (λ_ _ e=>show lp=some _\/_=B5+1+1 from .inl e)));have A3r:=aa sP;clear q3 sP hd3 hl3 hc3)
     go_roundw
     case rel=>exact ⟨j+1,by omega,by go_num,by rw [HQ.out],D3.out,L3.out,C3.out,K3.out,by rw [HQ.out];exact A3.out⟩
     case measure=>simp [intOf];omega
    | true =>
     cases mb with
     | false =>
      have HQ:=aa (show lsA s f (j+1)=(⟨n0,n1,n2⟩,true) from HST.out)
      go_wp2_with (go_at_call 71;(with_reducible refine (LJ.out _ KD.out KL.out).mono ?_);rintro e w3 ⟨rfl,hd3,hl3,hc3⟩;have SA:=aa ((aM w3.heap.size w3).alloc (aL _) (.cells #[.int .u64 n0,.int .u64 n1,.int .u64 n2] 46));have D3:=aa (hd3.later SA.out);have L3:=aa (hl3.later SA.out);have C3:=aa ((KC.out.trans hc3).au SA.out);have K3:=aa ((K2.out.trans (hc3.mono (λ_ _ e => .inl e))).au SA.out);have sP:=KA.out.aA hc3 (ik _ (by omega));have A3:=aa (sP.below SA.out sP.lt);have q3:=cells3 sP;have q30:=q3.1;have q31:=q3.2.1;have q32:=q3.2.2;have zq3:=sP.lt;have qf3:=λj=>sP.frozen j;have D3r:=aa hd3;have L3r:=aa hl3;have C3r:=aa (KC.out.trans hc3);have K3r:=aa (K2.out.trans (hc3.mono (λ_ _ e=>show lp=some _\/_=B5+1+1 from .inl e)));have A3r:=aa sP;clear q3 sP hd3 hl3 hc3)
      go_roundw
      case rel =>
       refine ⟨j+1,by omega,by go_num,by rw [HQ.out],?_,?_,?_,?_,?_⟩
       . exact (D3r.out.aA (((ah.refl (λb=>b=B5+1+1) _).set1 _ _).set1 _ _ |>.set1 _ _) (λb e=>by omega) (λx hx e=>by have:=HD.out.lt x hx;omega)).later ((aM _ _).alloc (aL _) _)
       . exact (L3r.out.aA (((ah.refl (λb=>b=B5+1+1) _).set1 _ _).set1 _ _ |>.set1 _ _) (λb e e2=>ik b (by omega) e)).later ((aM _ _).alloc (aL _) _)
       . exact (C3r.out.trans' (((ah.refl (λb=>b=B5+1+1) _).set1 _ _).set1 _ _ |>.set1 _ _) (λb hb e=>by omega)).alloc _
       . exact (K3r.out.trans' (((ah.refl (λb=>b=B5+1+1) _).set1 _ _).set1 _ _ |>.set1 _ _) (λb hb e => .inr e)).alloc _
       . rw [HQ.out];exact (((A3r.out.set 0 _).set 1 _).set 2 _).alloc _
      case measure=>simp [intOf];omega
     | true =>
      have LSS:=aa (λ(w':World)=>Bj ⟨n0,n1,n2⟩ ⟨m0,m1,m2⟩ w');cases hls:bO ⟨n0,n1,n2⟩ ⟨m0,m1,m2⟩ with
      | true =>
       have HQ:=aa (show lsA s f (j+1)=(⟨n0,n1,n2⟩,true) from by rw [HST.out];unfold mD;dsimp only;rw [hls];rfl);rw [hls] at LSS;clear hls
       go_wp2_with (first|(go_at_call 71;(with_reducible refine (LJ.out _ KD.out KL.out).mono ?_);rintro e w3 ⟨rfl,hd3,hl3,hc3⟩;have SA:=aa ((aM w3.heap.size w3).alloc (aL _) (.cells #[.int .u64 n0,.int .u64 n1,.int .u64 n2] 46));have D3:=aa (hd3.later SA.out);have L3:=aa (hl3.later SA.out);have C3:=aa ((KC.out.trans hc3).au SA.out);have K3:=aa ((K2.out.trans (hc3.mono (λ_ _ e => .inl e))).au SA.out);have sP:=KA.out.aA hc3 (ik _ (by omega));have A3:=aa (sP.below SA.out sP.lt);have q3:=cells3 sP;have q30:=q3.1;have q31:=q3.2.1;have q32:=q3.2.2;have zq3:=sP.lt;have qf3:=λj=>sP.frozen j;have D3r:=aa hd3;have L3r:=aa hl3;have C3r:=aa (KC.out.trans hc3);have K3r:=aa (K2.out.trans (hc3.mono (λ_ _ e=>show lp=some _\/_=B5+1+1 from .inl e)));have A3r:=aa sP;clear q3 sP hd3 hl3 hc3)|(go_at_call 128;(with_reducible refine (LSS.out _).mono ?_);rintro e w4 ⟨rfl,hb4⟩;have A4:=A3.out.below hb4 A3.out.lt;have q4:=cells3 A4;have q40:=q4.1;have q41:=q4.2.1;have q42:=q4.2.2;have zq4:=A4.lt;have qf4:=λj=>A4.frozen j;have N4:=(af.new w3 46 #[.int .u64 n0,.int .u64 n1,.int .u64 n2]).below hb4 (by simp);have n4:=cells3 N4;have n40:=n4.1;have n41:=n4.2.1;have n42:=n4.2.2;have zn4:=N4.lt;clear q4 n4))
       go_roundw
       case rel =>
        refine ⟨j+1,by omega,by go_num,by rw [HQ.out],?_,?_,?_,?_,?_⟩
        . exact (D3.out.later hb4).aA (((ah.refl (λb=>b=B5+1+1) _).set1 _ _).set1 _ _ |>.set1 _ _) (λb e=>by omega) (λx hx e=>by have:=HD.out.lt x hx;omega)
        . exact (L3.out.later hb4).aA (((ah.refl (λb=>b=B5+1+1) _).set1 _ _).set1 _ _ |>.set1 _ _) (λb e e2=>ik b (by omega) e)
        . exact (C3.out.au hb4).trans' (((ah.refl (λb=>b=B5+1+1) _).set1 _ _).set1 _ _ |>.set1 _ _) (λb hb e=>by omega)
        . exact (K3.out.au hb4).trans' (((ah.refl (λb=>b=B5+1+1) _).set1 _ _).set1 _ _ |>.set1 _ _) (λb hb e => .inr e)
        . rw [HQ.out];exact ((A4.set 0 _).set 1 _).set 2 _
       case measure=>simp [intOf];omega
      | false =>
       have HQ:=aa (show lsA s f (j+1)=(⟨m0,m1,m2⟩,true) from by rw [HST.out];unfold mD;dsimp only;rw [hls];rfl);rw [hls] at LSS;clear hls
       go_wp2_with (first|(go_at_call 71;(with_reducible refine (LJ.out _ KD.out KL.out).mono ?_);rintro e w3 ⟨rfl,hd3,hl3,hc3⟩;have SA:=aa ((aM w3.heap.size w3).alloc (aL _) (.cells #[.int .u64 n0,.int .u64 n1,.int .u64 n2] 46));have D3:=aa (hd3.later SA.out);have L3:=aa (hl3.later SA.out);have C3:=aa ((KC.out.trans hc3).au SA.out);have K3:=aa ((K2.out.trans (hc3.mono (λ_ _ e => .inl e))).au SA.out);have sP:=KA.out.aA hc3 (ik _ (by omega));have A3:=aa (sP.below SA.out sP.lt);have q3:=cells3 sP;have q30:=q3.1;have q31:=q3.2.1;have q32:=q3.2.2;have zq3:=sP.lt;have qf3:=λj=>sP.frozen j;have D3r:=aa hd3;have L3r:=aa hl3;have C3r:=aa (KC.out.trans hc3);have K3r:=aa (K2.out.trans (hc3.mono (λ_ _ e=>show lp=some _\/_=B5+1+1 from .inl e)));have A3r:=aa sP;clear q3 sP hd3 hl3 hc3)|(go_at_call 128;(with_reducible refine (LSS.out _).mono ?_);rintro e w4 ⟨rfl,hb4⟩;have A4:=A3.out.below hb4 A3.out.lt;have q4:=cells3 A4;have q40:=q4.1;have q41:=q4.2.1;have q42:=q4.2.2;have zq4:=A4.lt;have qf4:=λj=>A4.frozen j;have N4:=(af.new w3 46 #[.int .u64 n0,.int .u64 n1,.int .u64 n2]).below hb4 (by simp);have n4:=cells3 N4;have n40:=n4.1;have n41:=n4.2.1;have n42:=n4.2.2;have zn4:=N4.lt;clear q4 n4))
       go_roundw
       case rel=>exact ⟨j+1,by omega,by go_num,by rw [HQ.out],D3.out.later hb4,L3.out.later hb4,C3.out.au hb4,K3.out.au hb4,by rw [HQ.out];exact A3.out.below hb4 A3.out.lt⟩
       case measure=>simp [intOf];omega
  . obtain rfl:j=gB s:=by omega
    obtain ⟨z0,z1,z2⟩:=cells3 Z8.out;have z8:=Z8.out.lt;have z8f:=λj=>Z8.out.frozen j;go_wp2;refine aJ (λWf hWf=>?_);have hR:af Wf (B5+1) 46 #[.int .u64 (lsA s f (gB s)).1.key,.int .u64 (lsA s f (gB s)).1.val,.int .u64 (lsA s f (gB s)).1.hash]:=by rw [hWf];exact ((Z8.out.set 0 _).set 1 _).set 2 _
    obtain ⟨r0,r1,r2⟩:=cells3 hR;have fI:ah (λb=>b=B5+1) wr Wf:=by rw [hWf];exact (((ah.refl _ _).set1 _ _).set1 _ _).set1 _ _
    refine bodyPost_ret (v := .tuple #[.agg #[.int .u64 (lsA s f (gB s)).1.key,.int .u64 (lsA s f (gB s)).1.val,.int .u64 (lsA s f (gB s)).1.hash],.bool (lsA s f (gB s)).2]) (by simp [results,Tryz.results70,go_sem,r0,r1,r2]) rfl ⟨rfl,?_,?_,?_⟩
    . exact KD.out.aA fI (λb e=>by omega) (λx hx e=>by have:=HD.out.lt x hx;omega)
    . exact KL.out.aA fI (λb e e2=>ik b (by omega) e)
    . exact KC.out.trans' fI (λb hb e=>by omega)
end
section
variable {w w' w0:World} {a:Nat->Nat} {s:DuS} {tk:Bool} {E:Nat->Addr} {aT dz cap5:Nat}
theorem jm.take (h:jm w a s aT dz cap5 false E w0) (hok:dW s) (hn:s.left=0):Calls Tryz.prog 56 #[.pointer (some ⟨a 0,0,none⟩)] w λe w' =>
 ∃v,e = .returned (.tuple #[v,.nilIface])/\w'.ownsRow w.heap.size 85 1 v s.k ((List.range s.k).map (λi=>Value.pointer (some ⟨a (8+3*i),0,none⟩)))/\jm w' a s aT dz cap5 true E w0/\ah (λb=>b=a 0) w w':=by
 obtain ⟨i0,hi,hz0,hz1,hz2⟩:=info_parts Ez;have hk1:1<=s.k/\s.k<=2:=by rcases hok.hk with e|e <;> omega
 have HD:=aa h;have LF:=aa (h.left hok);rw [hn] at LF
 have ajO:=aa (λ(w':World) (h':jm w' a s aT dz cap5 false E w0)=>(show jm (w'.setCell ⟨a 0,5,none⟩ (.bool true)) a s aT dz cap5 true E w0 from by
  have hC:ah (λb=>b=a 0) w' (w'.setCell ⟨a 0,5,none⟩ (.bool true)):=(ah.refl _ _).set1 _ _;have hne:∀x,Used s.k true x->x≠0->¬a x=a 0:=λx hx h0 e=>h0 (h'.n.inj _ _ hx (.fH (by decide)) e);have h0:∀b,b=a 0->w0.heap.size<=b:=λb e=>by rw [e];exact h'.n.ge 0 (.fH (by decide))
  exact ⟨h'.hb,h'.hd.set 5 _,λi hi=>(hC.cell (p:=⟨a 3,i,none⟩) h'.bz (hne 3 (.fH (by decide)) (by decide))).trans (h'.bl i hi),bM h'.bz hC.size,
   λi hi=>(h'.bb i hi).aA hC (hne _ (.of hi (by omega) (by omega)) (by omega)),λi hi=>(hC.cell (p:=⟨a 4,i,none⟩) h'.fz (hne 4 (.lt7 (by decide)) (by decide))).trans (h'.fl i hi),bM h'.fz hC.size,
   h'.e.aA hC (hne 5 (.lt7 (by decide)) (by decide)) (hne 6 (.lt7 (by decide)) (by decide)),eT.aA h'.t hC h0 (hne 1 (.fH (by decide)) (by decide)) (hne 2 (.fH (by decide)) (by decide)) (λb e=>by cases e),
   λi hi=>eT.aA (h'.u i hi) hC h0 (hne _ (.of hi (by omega) (by omega)) (by omega)) (hne _ (.of hi (by omega) (by omega)) (by omega)) (λb e=>by cases e),h'.n⟩))
 have hz:=h.hd.lt;clear h hn;go_enter Tryz.func56,Tryz.ntmps56
 go_upto_region 3 with (go_at_call 55;(with_reducible refine LF.out.mono ?_);rintro e w1 ⟨rfl,hb1⟩;have D1:=aa (HD.out.later hb1);have t1:=D1.out.hd.cell 5;have t0:=D1.out.hd.lt;have HB1:=aa hb1)
 have tf:=λj=>D1.out.hd.frozen j;go_upto_region 4 with (fail)
 refine bG (λw2 hw2=>?_);have D2:=aa (show jm w2 a s aT dz cap5 true E w0 by rw [hw2];exact ajO.out _ D1.out);have C2:=aa (show ah (λb=>b=a 0) w w2 by rw [hw2];exact (ah.of_below HB1.out).trans ((ah.refl _ _).set1 _ _));obtain ⟨c0,c1,c2,c3,c4,c5,zc⟩:=D2.out.cells;have hzw:=C2.out.size
 have FL:=aa (show ∀i,i<s.k->(w2.alloc (.cells #[] 85)).cell? ⟨a 4,0+i,none⟩=some (.pointer (some ⟨a (8+3*i),0,none⟩)) from λi hi=>by
  rw [Nat.zero_add];exact (((aM w2.heap.size w2).alloc (aL _) _).cell (p:=⟨a 4,i,none⟩) D2.out.fz).trans (D2.out.fl i hi))
 replace hw2:=aa hw2;clear t1 t0 tf D1 HB1 hb1
 go_wp2_with (at_builtin;refine wpList_append_own _ rfl _ _ 111 rfl w2.heap.size 85 i0 (.pointer none) 1 8 Tryz.underlying111 hi hz0 hz1 hz2 rfl (by decide) _ 0 [] rfl (gW (af.new w2 _ #[])) ⟨a 4,0,none⟩ s.k dz ((List.range s.k).map (λi=>Value.pointer (some ⟨a (8+3*i),0,none⟩))) rfl (by simp) (kH (w:=w2.alloc (.cells #[] 85)) (F:=λi=>some ⟨a (8+3*i),0,none⟩) FL.out) (by simp [Value.oneCell']) (by unfold maxLen;omega) (by omega) (by simp) ?_;intro v' w4 jr ma _;have R4:=aa jr;have B4:Below w2.heap.size w2 w4:=Below.grown ((aM _ _).alloc (aL _) _) ma (by simp) (λk e=>by cases e;exact aL _);have TU:=aa B4;clear jr ma)
 go_ret2;refine ⟨_,rfl,?_,D2.out.later TU.out,C2.out.au TU.out⟩;have:=fU R4.out hzw;simpa using this
end
section
variable {w w' w0:World} {V O Q G cap k:Nat} {TB R:Nat->Nat} {d next:Nat} {T:ae} {U:Nat->ae} {M:Nat} {mt:aG} {E:Nat->Addr}
theorem SV (h:EV w V O Q G cap k TB R d next T U M mt E w0) (hn:next<T.n) (hl:mt.limited=false) (hno:¬nH k d (aS (T.M next) (T.S next)) U) (hbr:∀w',Below w0.heap.size w0 w'->w'.cell? ⟨4,0,none⟩=some (aO E 10)) :
 Calls Tryz.prog 107 #[.pointer (some ⟨V,0,none⟩),.pointer (some ⟨M,0,none⟩)] w λe w' =>
  e = .panicked [{ v:=iA (aO E 10),recovered:=false}]/\ah (λb=>b=M\/b=O\/b=Q\/b=V\/∃i,i<k/\(b=TB i\/b=R i)) w w':=by
 have hb:=h.t.good.bounds;have LF:=aa (qO V O Q G cap k TB d next T.n hb.1 (by omega) _ _ w h.e h.t.t.head);have e0:(((T.n-next:Nat):Int) == 0)=false:=by simp;omega
 have HH:=aa (λe=>qM (e:=e) (h.t.good.good next hn));have hl8:=lK (T.M next) (T.S next);have hki:=h.e.hk;have UN:=aa (λ(w':World) (h:EV w' V O Q G cap k TB R d next T U M mt E w0)=>h.unit hl);have TK:=aa (λ(w':World) (h:EV w' V O Q G cap k TB R d next T U M (mt.add 0 0 1) E w0)=>h.take hn 0 1 0);have WK:=aa (λ(w':World)=>o9 (some ⟨M,0,none⟩) w');have zM:=h.m.lt;have HV:=aa h;obtain ⟨c0,c1,c2,c3,zV,hf⟩:=oM h.e;obtain ⟨hVO,hVQ,hVG,hVM⟩:=h.s.v;have HNO:=aa hno;have HBR:=aa hbr;have agl:next<64:=by omega
 obtain ⟨l,hll⟩:=dC (aS (T.M next) (T.S next));rw [<-hll] at TK HNO hl8 HH;clear h hno hbr hll hn c0 c1 c2 c3 hf;go_enter Tryz.func107,Tryz.ntmps107
 go_wp2_with (first
  | (go_at_call 111;refine LF.out.mono ?_;rintro e w1 ⟨rfl,hb1⟩;have V1:=aa (HV.out.later hb1);have hz1:=hb1.size;clear HV LF)
  | (go_at_call 150;(with_reducible refine (UN.out _ V1.out).mono ?_);rintro e w2 ⟨rfl,hv2,hc2⟩;have V2:=aa hv2;have hz2:=hc2.size;have C2:=aa (show ah (λb=>b=M\/b=O\/b=Q\/b=V\/∃i,i<k/\(b=TB i\/b=R i)) w w2 from (ah.of_below hb1).trans (hc2.mono (λ_ _ e => .inl e)));obtain ⟨d0,d1,d2,d3,zV2,df⟩:=oM V2.out.e;clear hv2 V1))
 refine ag (λb=>b=M\/b=O\/b=Q) #[⟨0,0,2^14,1,0⟩,⟨1,1,2^15,2^14,0⟩,⟨2,3,2^16,2^15,0⟩,⟨4,7,2^17,2^16,1⟩,⟨0,0,2^18,2,0⟩,⟨16,16,2^19,2^18,2⟩,⟨0,0,2^20,1,0⟩,⟨64,64,2^21,2^20,0⟩,⟨128,192,2^22,2^21,0⟩,⟨256,448,2^23,2^22,1⟩,⟨552,1023,2^24,(2^17+2^19+2^23),3⟩,⟨1024,2047,2^25,2^24,0⟩,⟨1024,2047,2^26,2^24,0⟩,⟨7168,8191,2^27,(2^25+2^26),3⟩,⟨8192,16383,2^28,2^27,0⟩,⟨0,0,2^29,0,0⟩] 520 [(0,0),(1,0),(2,0),(3,1),(4,0),(6,0),(7,0),(8,0),(9,1),(15,0),(5,2),(10,3),(11,0),(12,0),(13,3),(14,0)] (by kernel_rfl) (by kernel_rfl) (by kernel_rfl) (by kernel_rfl) (by kernel_rfl) (by kernel_rfl) (λc a d v w h=>by cases d <;> exact h) ?_;refine aj ?_;refine aj ?_;refine aj ?_;refine bW Tryz.underlying85 ?_
 try refine aC ?_;refine aj ?_;refine aj ?_;refine aj ?_;refine aj ?_
 refine bW Tryz.underlying3 ?_
 try refine aC ?_;refine aj ?_
 refine iK λK hK=>?_;go_wp2_with ((go_at_call 153;(with_reducible refine (WK.out _).mono ?_);rintro e w3 ⟨rfl,hb3⟩;have V3:=aa (V2.out.drew.later hb3);obtain ⟨d30,d31,d32,d33,zV3,df3⟩:=oM V3.out.e));refine iX hK (h:=?_);clear hK K
 try refine aC ?_
 refine fA λK hK=>?_;go_wp2_with ((go_at_call 152;(with_reducible refine (TK.out _ V3.out).mono ?_);rintro e w4 ⟨vl,rfl,hr4,hv4,hc4⟩;obtain ⟨av,G8,rfl⟩:=bZ hr4;have V4:=aa hv4;have R4:=aa hr4;have C4:=aa hc4;clear hv4 hr4));refine hK.out _ _ ?_;clear hK K
 try refine aC ?_;refine aj ?_;refine aj ?_
 refine fA λK hK=>?_;go_wp2_with ((go_at_call 151;(with_reducible refine (Ld _ _ _ _).mono ?_);rintro e w5 ⟨rfl,rfl⟩));refine hK.out _ _ ?_;clear hK K
 try refine aC ?_;refine aj ?_
 refine aD ?_;go_wp2;refine bG (λwL og=>?_);obtain ⟨m1,hm1⟩:=dC ((mt.add 0 0 1).add 0 1 0);obtain ⟨b0,hb0⟩:=dC w3.heap.size;have hMb:M<b0:=by have:=V3.out.m.lt;omega
 have hXb:∀i,i<k->TB i<b0/\R i<b0:=λi hi=>by have h1:=(V3.out.u i hi).Sg;have h2:=(V3.out.u i hi).Sd;omega
 have hwb:w.heap.size<=b0:=by rw [hb0];have:=hb3.size;simp at this;omega
 have D0:=aa (show TV wL V O Q G cap k TB R d next (T.dw next) l (jN k d (l.take 0) (U,0)) M m1 E b0 (.slice av l.length G8) w0 w by
  rw [og,hm1,hb0];refine ⟨V4.out,R4.out,((C2.out.drew.au hb3).trans (C4.out.mono (λ_ _ e=>?_)))⟩;rcases e with e|e|e
  . exact .inl e
  . exact .inr (.inl e)
  . exact .inr (.inr (.inl e)))
 have HM1:=aa hm1;have HXB:=aa hXb;replace og:=aa og;clear V2 V3 V4 R4 C4 C2 hb3 hb0 hm1 hXb d0 d1 d2 d3 d30 d31 d32 d33 df df3 zV2 zV3 TK UN
 go_loopw [29] (λv29 wr => ∃j:Nat,j<=l.length/\v29 = .int .i64 (j:Int)/\TV wr V O Q G cap k TB R d next (T.dw next) l (jN k d (l.take j) (U,0)) M m1 E b0 (.slice av l.length G8) w0 w/\(∀i (hi:i<l.length),i<j->((jN k d (l.take i) (U,0)).1 (fO k d l[i].hash.toNat)).bB l[i].key l[i].hash.toNat=true)) (λv29 _=>l.length-(intOf v29).toNat)
 case atStart=>exact ⟨0,o7 _,rfl,D0.out,λi _ hi=>by omega⟩
 case round =>
  clear D0;obtain ⟨j,hj,rfl,hS,hA⟩:=hrel;have KS:=aa hS;have HA:=aa hA;clear hS hA;by_cases hlt:j<l.length
  . have kJ:(j:Int)<(l.length:Int):=by omega
    have HT:=aa (mq (k:=k) (d:=d) hlt (U,0));obtain ⟨av',acY,e,-,hrow⟩:=kL KS.out.r;cases e
    obtain ⟨b,rfl,hbb,hbz,hcl⟩:=hrow (λe=>by rw [e] at hlt;exact absurd hlt (by simp));obtain ⟨g0,g1,g2⟩:=hcl j hlt;obtain ⟨GU,LH⟩:=HH.out l[j] (List.getElem_mem hlt);unfold TT at HT;obtain ⟨s,hs⟩:=dC (jN k d (l.take j) (U,0));have HSE:=aa hs;rw [<-hs] at HT KS;rw [GU] at g2;generalize hq1:l[j].hash.toNat=hs' at HT g2 LH;generalize hq2:l[j].key=ky at HT g0;replace hq1:=aa hq1;replace hq2:=aa hq2;generalize l[j].val=vv at *
    have hi:=gm (h:=hs') hki;have TG:=aa (λ(w':World) (h:EW w' V O G cap k TB d next)=>pX V O G cap k TB d next hs' LH w' h);generalize hq3:fO k d hs'=i at *
    replace hq3:=aa hq3;have PU:=aa (λ(w':World) (h:EV w' V O Q G cap k TB R d next (T.dw next) s.1 M (addN m1 0 1 0 s.2) E w0)=>h.put hi ky vv hs' LH 0 1 0);rw [nW] at PU;clear hcl hrow GU hs;go_upto_region 7 with (fail)
    refine bG (λw5 JG=>?_);have S5:=aa (show TV w5 V O Q G cap k TB R d next (T.dw next) l s M m1 E b0 (.slice (some ⟨b,0,none⟩) l.length G8) w0 w by rw [JG];exact KS.out.later (by go_grown));have P5:=aa (show af w5 wr.heap.size 46 #[.int .u64 ky,.int .u64 vv,.int .u64 (hs':Int)] by rw [JG];exact af.new _ _ _);obtain ⟨p0,p1,p2⟩:=cells3 P5.out;have zP:=P5.out.lt;have zM5:=S5.out.e.m.lt;have zT5:=(S5.out.e.u i hi).Sg;have zR5:=(S5.out.e.u i hi).Sd;obtain ⟨zTb,zRb⟩:=HXB.out i hi;have aiI:b0<=wr.heap.size:=by omega
    replace JG:=aa JG;clear KS g0 g1 g2 hbz;by_cases hpb:(s.1 i).bB ky hs'=true
    . rw [hpb,Ed hpb,fG] at PU;have HPB:=aa hpb;clear hpb;refine ag (λb=>b=M\/b=TB i\/b=R i) #[⟨0,0,2^34,1,0⟩,⟨0,0,2^35,64,0⟩,⟨2,2,2^36,2^35,1⟩,⟨5,7,2^37,(2^34+2^36),2⟩,⟨0,0,2^38,2,0⟩,⟨24,31,2^39,2^38,2⟩,⟨0,0,2^40,64,1⟩,⟨104,127,2^41,(2^37+2^39+2^40),3⟩,⟨128,255,2^33,2^41,0⟩,⟨256,511,2^42,2^33,0⟩,⟨256,511,2^43,2^33,0⟩,⟨1023,1023,128,2^42,0⟩,⟨4095,4095,256,2^43,0⟩] 68 [(0,0),(1,0),(2,1),(4,0),(6,1),(3,2),(5,2),(7,3),(8,0),(9,0),(10,0),(11,0),(12,0)] (by kernel_rfl) (by kernel_rfl) (by kernel_rfl) (by kernel_rfl) (by kernel_rfl) (by kernel_rfl) (λc a d v w h=>by cases d <;> exact h) ?_;refine aj ?_;refine aj ?_;refine bW Tryz.underlying38 ?_
      try refine aC ?_;refine aj ?_
      refine jR [_,_,_] Tryz.underlying46 ?_
      try refine aC ?_
      refine iK λK hK=>?_;go_wp2_with ((go_at_call 137;(with_reducible refine (TG.out _ S5.out.drew.e.e).mono ?_);rintro e w6 ⟨rfl,hb6⟩;have S6:=aa (S5.out.drew.later hb6)));refine iX hK (h:=?_);clear hK K
      try refine aC ?_
      refine iK λK hK=>?_;go_wp2_with ((go_at_call 153;(with_reducible refine (WK.out _).mono ?_);rintro e w7 ⟨rfl,NY⟩;have S7:=aa (S6.out.later NY)));refine iX hK (h:=?_);clear hK K
      try refine aC ?_
      refine fA λK hK=>?_;go_wp2_with ((go_at_call 154;(with_reducible refine (PU.out _ S7.out.e).mono ?_);rintro e w8 ⟨rfl,Lv,hc8⟩;have V8:=aa Lv;have R8:=aa (fo S7.out.r hc8 (by rintro b' hb' (e|e|e) <;> omega));have C8:=aa (S7.out.c.trans (hc8.mono (λ_ _ e=>show _=M\/_=O\/_=Q\/_=V\/∃i,i<k/\(_=TB i\/_=R i) by rcases e with e|e|e;exact .inl e;exact .inr (.inr (.inr (.inr ⟨i,hi,.inl e⟩)));exact .inr (.inr (.inr (.inr ⟨i,hi,.inr e⟩))))));clear Lv));refine hK.out _ _ ?_;clear hK K
      try refine aC ?_;refine aj ?_;refine aj ?_;refine aj ?_;refine aj ?_;refine aj ?_
      refine aD ?_
      go_wp2_with (go_at_call 155;(with_reducible refine (Lb _).mono ?_);rintro e w9 ⟨rfl,rfl⟩)
      go_roundw
      case rel =>
       refine ⟨j+1,by omega,by go_num,by rw [HT.out];exact ⟨V8.out,R8.out,C8.out⟩,λi' hi' hlt'=>?_⟩;by_cases e:i'=j
       . subst e;rw [hq1.out,hq2.out,hq3.out,<-HSE.out];exact HPB.out
       . exact HA.out i' hi' (by omega)
      case measure=>simp [intOf];omega
    . replace hpb:(s.1 i).bB ky hs'=false:=by simpa using hpb
      rw [hpb] at PU;have HPB:=aa hpb;generalize (s.1 i).bN ky hs'=pn at *
      clear hpb;refine ag (λb=>b=M\/b=TB i\/b=R i) #[⟨0,0,2^34,1,0⟩,⟨0,0,2^35,64,0⟩,⟨2,2,2^36,2^35,1⟩,⟨5,7,2^37,(2^34+2^36),2⟩,⟨0,0,2^38,2,0⟩,⟨24,31,2^39,2^38,2⟩,⟨0,0,2^40,64,1⟩,⟨104,127,2^41,(2^37+2^39+2^40),3⟩,⟨128,255,2^33,2^41,0⟩,⟨256,511,2^42,2^33,0⟩,⟨256,511,2^43,2^33,0⟩,⟨1023,1023,128,2^42,0⟩,⟨4095,4095,256,2^43,0⟩] 68 [(0,0),(1,0),(2,1),(4,0),(6,1),(3,2),(5,2),(7,3),(8,0),(9,0),(10,0),(11,0),(12,0)] (by kernel_rfl) (by kernel_rfl) (by kernel_rfl) (by kernel_rfl) (by kernel_rfl) (by kernel_rfl) (λc a d v w h=>by cases d <;> exact h) ?_;refine aj ?_;refine aj ?_;refine bW Tryz.underlying38 ?_
      try refine aC ?_;refine aj ?_
      refine jR [_,_,_] Tryz.underlying46 ?_
      try refine aC ?_
      refine iK λK hK=>?_;go_wp2_with ((go_at_call 137;(with_reducible refine (TG.out _ S5.out.drew.e.e).mono ?_);rintro e w6 ⟨rfl,hb6⟩;have S6:=aa (S5.out.drew.later hb6)));refine iX hK (h:=?_);clear hK K
      try refine aC ?_
      refine iK λK hK=>?_;go_wp2_with ((go_at_call 153;(with_reducible refine (WK.out _).mono ?_);rintro e w7 ⟨rfl,NY⟩;have S7:=aa (S6.out.later NY)));refine iX hK (h:=?_);clear hK K
      try refine aC ?_
      refine fA λK hK=>?_;go_wp2_with ((go_at_call 154;(with_reducible refine (PU.out _ S7.out.e).mono ?_);rintro e w8 ⟨rfl,Lv,hc8⟩;have V8:=aa Lv;have N8:=aa (abu E _ (HBR.out _ Lv.t.j3));have C8:=aa (S7.out.c.trans (hc8.mono (λ_ _ e=>show _=M\/_=O\/_=Q\/_=V\/∃i,i<k/\(_=TB i\/_=R i) by rcases e with e|e|e;exact .inl e;exact .inr (.inr (.inr (.inr ⟨i,hi,.inl e⟩)));exact .inr (.inr (.inr (.inr ⟨i,hi,.inr e⟩))))));clear Lv));refine hK.out _ _ ?_;clear hK K
      try refine aC ?_;refine aj ?_;refine aj ?_;refine aj ?_;refine aj ?_;refine aj ?_
      refine aD ?_
      go_wp2_with (go_at_call 155;(with_reducible refine N8.out.mono ?_);rintro e w9 ⟨rfl,rfl⟩)
      exact ⟨rfl,rfl,C8.out⟩
  . obtain rfl:j=l.length:=by omega
    exact absurd (λi hi=>HA.out i hi hi) HNO.out
end
def oU (a:Nat->Nat) (s:DuS) (b:Nat):Prop := ∃x,Used s.k (decide (s.bare=0)) x/\b=a x
section
variable {w w' w0:World} {a:Nat->Nat} {s:DuS} {tk:Bool} {E:Nat->Addr} {aT dz cap5 M:Nat} {mt:aG}
theorem jm.ev (h:jm w a s aT dz cap5 tk E w0) (hk:s.k=1\/s.k=2) (hM:af w M 37 mt.cells) (hs:mZ (some M) a s.k true w0.heap.size):EV w (a 5) (a 1) (a 2) (a 6) cap5 s.k (λi=>a (8+3*i)) (λi=>a (9+3*i)) s.d s.nx s.T s.U M mt E w0:=by
 have hm:=hs M rfl;have ge:=h.n.ge
 refine ⟨h.e,h.t,h.u,hM,⟨⟨ge 5 (.lt7 (by decide)),ge 1 (.fH (by decide)),ge 2 (.fH (by decide)),ge 6 (.lt7 (by decide)),hm.1⟩,⟨h.n.ne (.lt7 (by decide)) (.fH (by decide)) (by decide),h.n.ne (.lt7 (by decide)) (.fH (by decide)) (by decide),h.n.ne (.lt7 (by decide)) (.lt7 (by decide)) (by decide),Ne.symm (hm.2 5 (.lt7 (by decide)))⟩,
  ⟨h.n.ne (.lt7 (by decide)) (.fH (by decide)) (by decide),h.n.ne (.lt7 (by decide)) (.fH (by decide)) (by decide),Ne.symm (hm.2 6 (.lt7 (by decide)))⟩,⟨hm.2 1 (.fH (by decide)),hm.2 2 (.fH (by decide))⟩,λi hi=>?_,λi hi=>?_,λi j hi hj hij=>?_⟩⟩
 . exact ⟨h.n.ne (.of hi (by omega) (by omega)) (.lt7 (by decide)) (by omega),h.n.ne (.of hi (by omega) (by omega)) (.lt7 (by decide)) (by omega),Ne.symm (hm.2 _ (.of hi (by omega) (by omega))),h.n.ne (.of hi (by omega) (by omega)) (.fH (by decide)) (by omega),h.n.ne (.of hi (by omega) (by omega)) (.fH (by decide)) (by omega)⟩
 . exact ⟨h.n.ne (.of hi (by omega) (by omega)) (.lt7 (by decide)) (by omega),h.n.ne (.of hi (by omega) (by omega)) (.lt7 (by decide)) (by omega),Ne.symm (hm.2 _ (.of hi (by omega) (by omega))),h.n.ne (.of hi (by omega) (by omega)) (.fH (by decide)) (by omega),h.n.ne (.of hi (by omega) (by omega)) (.fH (by decide)) (by omega)⟩
 . exact ⟨h.n.ne (.of hi (by omega) (by omega)) (.of hj (by omega) (by omega)) (by omega),h.n.ne (.of hi (by omega) (by omega)) (.of hj (by omega) (by omega)) (by omega),h.n.ne (.of hi (by omega) (by omega)) (.of hj (by omega) (by omega)) (by omega),h.n.ne (.of hi (by omega) (by omega)) (.of hj (by omega) (by omega)) (by omega)⟩
theorem jm.moved {nx':Nat} {T':ae} {U':Nat->ae} {jX:aG} (h:jm w a s aT dz cap5 tk E w0) (hs:mZ (some M) a s.k true w0.heap.size) (he:EV w' (a 5) (a 1) (a 2) (a 6) cap5 s.k (λi=>a (8+3*i)) (λi=>a (9+3*i)) s.d nx' T' U' M jX E w0)
 (hc:ah (λb=>b=M\/b=a 1\/b=a 2\/b=a 5\/∃i,i<s.k/\(b=a (8+3*i)\/b=a (9+3*i))) w w'):jm w' a { s with nx:=nx',T:=T',U:=U'} aT dz cap5 tk E w0:=by
 have hm:=(hs M rfl).2
 have hn:∀x,Used s.k true x->x≠1->x≠2->x≠5->(∀i,i<s.k->x≠8+3*i/\x≠9+3*i)->¬ (a x=M\/a x=a 1\/a x=a 2\/a x=a 5\/∃i,i<s.k/\(a x=a (8+3*i)\/a x=a (9+3*i))):=λx hx h1 h2 h5 hi e=>by
  rcases e with e|e|e|e | ⟨i,hik,e|e⟩
  . exact hm x hx e.symm
  . exact h1 (h.n.inj _ _ hx (.fH (by decide)) e)
  . exact h2 (h.n.inj _ _ hx (.fH (by decide)) e)
  . exact h5 (h.n.inj _ _ hx (.lt7 (by decide)) e)
  . exact (hi i hik).1 (h.n.inj _ _ hx (.of hik (by omega) (by omega)) e)
  . exact (hi i hik).2 (h.n.inj _ _ hx (.of hik (by omega) (by omega)) e)
 exact ⟨h.hb,h.hd.aA hc (hn 0 (.fH (by decide)) (by decide) (by decide) (by decide) (λi _=>by omega)),λi hi=>(hc.cell (p:=⟨a 3,i,none⟩) h.bz (hn 3 (.fH (by decide)) (by decide) (by decide) (by decide) (λi _=>by omega))).trans (h.bl i hi),bM h.bz hc.size,
  λi hi=>(h.bb i hi).aA hc (hn _ (.of hi (by omega) (by omega)) (by omega) (by omega) (by omega) (λj _=>by omega)),λi hi=>(hc.cell (p:=⟨a 4,i,none⟩) h.fz (hn 4 (.lt7 (by decide)) (by decide) (by decide) (by decide) (λi _=>by omega))).trans (h.fl i hi),bM h.fz hc.size,
  he.e,he.t,he.u,h.n⟩
theorem QW (h:jm w a s aT dz cap5 tk E w0):∀b,(b=M\/b=a 1\/b=a 2\/b=a 5\/∃i,i<s.k/\(b=a (8+3*i)\/b=a (9+3*i)))->b=M\/oU a s b:=λb e=>by
 unfold oU;rw [decide_eq_true h.hb];rcases e with e|e|e|e | ⟨i,hi,e|e⟩
 . exact .inl e
 . exact .inr ⟨1,.fH (by decide),e⟩
 . exact .inr ⟨2,.fH (by decide),e⟩
 . exact .inr ⟨5,.lt7 (by decide),e⟩
 . exact .inr ⟨_,.of hi (by omega) (by omega),e⟩
 . exact .inr ⟨_,.of hi (by omega) (by omega),e⟩
theorem jm.rU (h:jm w a s aT dz cap5 tk E w0) (hok:dW s) (hM:af w M 37 mt.cells) (hs:mZ (some M) a s.k true w0.heap.size) (hl:mt.limited=false) (hn:s.nx<s.T.n) (hev:nH s.k s.d (aS (s.T.M s.nx) (s.T.S s.nx)) s.U) :
 Calls Tryz.prog 54 #[.pointer (some ⟨a 0,0,none⟩),.pointer (some ⟨M,0,none⟩)] w λe w'=>e = .returned (.bool true)/\fM w' a s.move tk E w0/\
  af w' M 37 (addN (mt.add 0 0 1) 0 1 0 (1+(jN s.k s.d (aS (s.T.M s.nx) (s.T.S s.nx)) (s.U,0)).2)).cells/\ah (λb=>b=M\/oU a s b) w w':=by
 have hk:s.k=1\/s.k=2:=by have:=hok.hk;omega
 have HD:=aa h;have RD:=aa h.ready;have ST:=aa (Vz (h.ev hk hM hs) hn hl hev)
 have MV:=aa (λ(w2:World) (jX:aG) (he:EV w2 _ _ _ _ _ _ _ _ _ _ _ _ _ jX E w0) (hc:ah _ w w2)=>(show fM w2 a s.move tk E w0/\af w2 M 37 jX.cells/\ah (λb=>b=M\/oU a s b) w w2 from
  ⟨⟨hok.move h.hb hn,.inr ⟨_,_,_,h.moved hs he hc⟩⟩,he.m,hc.mono (λb _ e=>QW h b e)⟩))
 obtain ⟨c0,c1,c2,c3,c4,c5,zc⟩:=h.cells;clear h;go_enter Tryz.func54,Tryz.ntmps54
 go_wp2_with (first
  | (go_at_call 106;(with_reducible refine RD.out.mono ?_);rintro e w1 ⟨rfl,rfl⟩)
  | (go_at_call 107;(with_reducible refine ST.out.mono ?_);rintro e w2 ⟨rfl,he2,hc2⟩;have F2:=aa (MV.out _ _ he2 hc2);clear he2 hc2))
 go_ret;exact ⟨rfl,F2.out⟩
theorem jm.Ji (h:jm w a s aT dz cap5 tk E w0) (hok:dW s) (hM:af w M 37 mt.cells) (hs:mZ (some M) a s.k true w0.heap.size) (hn:s.nx=s.T.n) :
 Calls Tryz.prog 54 #[.pointer (some ⟨a 0,0,none⟩),.pointer (some ⟨M,0,none⟩)] w λe w'=>e = .returned (.bool false)/\Below w.heap.size w w':=by
 have hk:s.k=1\/s.k=2:=by have:=hok.hk;omega
 have RD:=aa h.ready;have ST:=aa (VA (h.ev hk hM hs) hn (some ⟨M,0,none⟩));obtain ⟨c0,c1,c2,c3,c4,c5,zc⟩:=h.cells;clear h;go_enter Tryz.func54,Tryz.ntmps54
 go_wp2_with (first
  | (go_at_call 106;(with_reducible refine RD.out.mono ?_);rintro e w1 ⟨rfl,rfl⟩)
  | (go_at_call 107;(with_reducible refine ST.out.mono ?_);rintro e w2 ⟨rfl,-,hb2⟩;have B2:=aa hb2))
 go_ret;exact ⟨rfl,B2.out⟩
theorem jm.AP (h:jm w a s aT dz cap5 tk E w0) (hok:dW s) (hM:af w M 37 mt.cells) (hs:mZ (some M) a s.k true w0.heap.size) (hl:mt.limited=false) (hn:s.nx<s.T.n) (hev:¬nH s.k s.d (aS (s.T.M s.nx) (s.T.S s.nx)) s.U) (hbr:∀w',Below w0.heap.size w0 w'->w'.cell? ⟨4,0,none⟩=some (aO E 10)) :
 Calls Tryz.prog 54 #[.pointer (some ⟨a 0,0,none⟩),.pointer (some ⟨M,0,none⟩)] w λe w'=>e = .panicked [{ v:=iA (aO E 10),recovered:=false}]/\ah (λb=>b=M\/oU a s b) w w':=by
 have hk:s.k=1\/s.k=2:=by have:=hok.hk;omega
 have RD:=aa h.ready;have ST:=aa (SV (h.ev hk hM hs) hn hl hev hbr);have MV:=aa (λ(w2:World) (hc:ah _ w w2)=>(show ah (λb=>b=M\/oU a s b) w w2 from hc.mono (λb _ e=>QW h b e)));obtain ⟨c0,c1,c2,c3,c4,c5,zc⟩:=h.cells;clear h;go_enter Tryz.func54,Tryz.ntmps54
 go_wp2_with (first
  | (go_at_call 106;(with_reducible refine RD.out.mono ?_);rintro e w1 ⟨rfl,rfl⟩)
  | (go_at_call 107;(with_reducible refine ST.out.mono ?_);rintro e w2 ⟨rfl,hc2⟩;have F2:=aa (MV.out _ hc2);clear hc2))
 exact ⟨rfl,rfl,F2.out⟩
end
theorem UL (p:Option Addr) (w:World):Calls Tryz.prog 157 #[.pointer p,.nilIface] w λe w'=>e = .returned (.pointer p)/\w=w':=by
 go_enter Tryz.func157,Tryz.ntmps157
 go_wp2_with (go_at_call 180;refine (qE _).mono ?_;rintro e w' ⟨rfl,rfl⟩)
 go_ret;exact ⟨rfl,rfl⟩
theorem UK (p:Option Addr) (w:World):Calls Tryz.prog 159 #[.pointer p,.nilIface] w λe w'=>e = .returned (.pointer p)/\w=w':=by
 go_enter Tryz.func159,Tryz.ntmps159
 go_wp2_with (go_at_call 180;refine (qE _).mono ?_;rintro e w' ⟨rfl,rfl⟩)
 go_ret;exact ⟨rfl,rfl⟩
structure TI (w:World) (a:Nat->Nat) (s:DuS) (aT j:Nat) (vf:Value) (tk:Bool) (base:Nat) (E:Nat->Addr) (w0:World):Prop where
 hd:af w (a 0) 165 #[.pointer (some ⟨a 1,0,none⟩),.int .i64 (s.d:Int),.slice (some ⟨a 3,0,none⟩) s.k aT,vf,.pointer none,.bool tk]
 bl:∀i,i<s.k->w.cell? ⟨a 3,i,none⟩=some (.pointer (some ⟨a (7+3*i),0,none⟩))
 bz:a 3<w.heap.size
 bd:∀i,i<j->af w (a (7+3*i)) 211 #[.pointer none,.int .i64 (s.gn:Int),.int .i64 (s.gn:Int)]
 tt:∀i,i<j->TN w (a (8+3*i)) (a (9+3*i)) (ae.new s.gn) E w0
 bw:∀i,j<=i->i<s.k->BW w (a (7+3*i)) (a (8+3*i)) (a (9+3*i)) s.gn s.gn false
 t:TN w (a 1) (a 2) s.T E w0
 r:w.ownsRow base 85 1 vf j ((List.range j).map (λi=>Value.pointer (some ⟨a (8+3*i),0,none⟩)))
 n:DuN a s.k false w0.heap.size
 lt:∀x,Used s.k false x->a x<base
 ge:base<=w.heap.size
 hj:j<=s.k
section
variable {w w' w0:World} {a:Nat->Nat} {s:DuS} {tk:Bool} {E:Nat->Addr} {aT j base:Nat} {vf v5:Value}
theorem TI.later (h:TI w a s aT j vf tk base E w0) (hb:Below w.heap.size w w'):TI w' a s aT j vf tk base E w0 :=
 ⟨h.hd.below hb h.hd.lt,λi hi=>(hb.cell (p:=⟨a 3,i,none⟩) h.bz).trans (h.bl i hi),bM h.bz hb.size,λi hi=>(h.bd i hi).below hb (h.bd i hi).lt,λi hi=>(h.tt i hi).later hb,λi h1 h2=>(h.bw i h1 h2).later hb,h.t.later hb,aB h.r hb,h.n,h.lt,qH h.ge hb.size,h.hj⟩
theorem TI.step (h:TI w a s aT j vf tk base E w0) (hjk:j<s.k) (hc:ah (λb=>b=a (7+3*j)\/base<=b) w w') (hD:af w' (a (7+3*j)) 211 #[.pointer none,.int .i64 (s.gn:Int),.int .i64 (s.gn:Int)]) (ht:TS w' (a (8+3*j)) (a (9+3*j)) (ae.new s.gn)) (hr:aN (s.gn:Int)=true)
 (hrow:w'.ownsRow base 85 1 v5 (j+1) ((List.range (j+1)).map (λi=>Value.pointer (some ⟨a (8+3*i),0,none⟩)))):TI (w'.setCell ⟨a 0,3,none⟩ v5) a s aT (j+1) v5 tk base E w0:=by
 have hn:∀x,Used s.k false x->x≠7+3*j->¬ (a x=a (7+3*j)\/base<=a x):=λx hx hne e=>by
  rcases e with e|e
  . exact hne (h.n.inj _ _ hx (.of hjk (by omega) (by omega)) e)
  . have:=h.lt x hx;omega
 have hC:ah (λb=>b=a 0) w' (w'.setCell ⟨a 0,3,none⟩ v5):=(ah.refl _ _).set1 _ _;have h0:∀x,Used s.k false x->x≠0->¬a x=a 0:=λx hx hne e=>hne (h.n.inj _ _ hx (.fH (by decide)) e)
 have ai6:∀b,(b=a (7+3*j)\/base<=b)->w0.heap.size<=b:=λb e=>by
  have h1:=h.n.ge (7+3*j) (.of hjk (by omega) (by omega));have h2:=h.n.ge 0 (.fH (by decide));have h3:=h.lt 0 (.fH (by decide));omega
 have abP:∀b,b=a 0->w0.heap.size<=b:=λb e=>by rw [e];exact h.n.ge 0 (.fH (by decide))
 have tn:∀ (x y:Nat) (T:ae),Used s.k false x->Used s.k false y->x≠0->y≠0->x≠7+3*j->y≠7+3*j->TN w (a x) (a y) T E w0->TN (w'.setCell ⟨a 0,3,none⟩ v5) (a x) (a y) T E w0:=λx y T hx hy x0 y0 x7 y7 hT =>
  eT.aA (eT.aA hT hc ai6 (hn x hx x7) (hn y hy y7) (λb e=>by cases e)) hC abP (h0 x hx x0) (h0 y hy y0) (λb e=>by cases e)
 have hold:=tn 1 2 s.T (.fH (by decide)) (.fH (by decide)) (by decide) (by decide) (by omega) (by omega) h.t;refine ⟨(h.hd.aA hc (hn 0 (.fH (by decide)) (by omega))).set 3 _,λi hi=>?_,?_,λi hi=>?_,λi hi=>?_,λi h1 h2=>?_,hold,?_,h.n,h.lt,?_,hjk⟩
 . exact ((hC.cell (p:=⟨a 3,i,none⟩) (bM h.bz hc.size) (h0 3 (.fH (by decide)) (by decide))).trans (hc.cell (p:=⟨a 3,i,none⟩) h.bz (hn 3 (.fH (by decide)) (by omega)))).trans (h.bl i hi)
 . exact bM (bM h.bz hc.size) hC.size
 . by_cases e:i=j
   . subst e;exact hD.aA hC (h0 _ (.of hjk (by omega) (by omega)) (by omega))
   . exact ((h.bd i (by omega)).aA hc (hn _ (.of (show i<s.k by omega) (by omega) (by omega)) (by omega))).aA hC (h0 _ (.of (show i<s.k by omega) (by omega) (by omega)) (by omega))
 . by_cases e:i=j
   . subst e;refine ⟨ht.aA hC (h0 _ (.of hjk (by omega) (by omega)) (by omega)) (h0 _ (.of hjk (by omega) (by omega)) (by omega)),bq.new hr,(λM e=>by cases e),hold.low,hold.j3,h.n.ge _ (.of hjk (by omega) (by omega)),h.n.ge _ (.of hjk (by omega) (by omega)),jb.none _ _ _⟩
   . exact tn _ _ _ (.of (show i<s.k by omega) (by omega) (by omega)) (.of (show i<s.k by omega) (by omega) (by omega)) (by omega) (by omega) (by omega) (by omega) (h.tt i (by omega))
 . exact ((h.bw i (by omega) h2).aA hc (hn _ (.of h2 (by omega) (by omega)) (by omega)) (hn _ (.of h2 (by omega) (by omega)) (by omega)) (hn _ (.of h2 (by omega) (by omega)) (by omega))).aA hC (h0 _ (.of h2 (by omega) (by omega)) (by omega)) (h0 _ (.of h2 (by omega) (by omega)) (by omega)) (h0 _ (.of h2 (by omega) (by omega)) (by omega))
 . exact gJ hrow hC (λb hb e=>by have h1:=(hrow.lt b hb).1;have h2:=h.lt 0 (.fH (by decide));omega)
 . exact qH (qH h.ge hc.size) hC.size
theorem Tv (h:TI w a s aT 0 (.slice none 0 0) tk w.heap.size E w0) (hk:s.k=1\/(s.k=2/\s.d<=15)) (hr:aN (s.gn:Int)=true) (hU:∀i,i<s.k->s.U i=ae.new s.gn) (hx:s.nx=0) (hb:s.bare=0) :
 Calls Tryz.prog 110 #[.pointer (some ⟨a 0,0,none⟩)] w λe w'=>e = .returned (.tuple #[])/\∃ (a':Nat->Nat) (dz cap5:Nat),jm w' a' s aT dz cap5 tk E w0/\(∀x,Used s.k false x->a' x=a x)/\(∀x,4<=x->x<7->w.heap.size<=a' x)/\ah (λb => ∃x,Used s.k false x/\b=a x) w w':=by
 obtain ⟨i0,hi,hz0,hz1,hz2⟩:=info_parts Ez;have hk1:1<=s.k/\s.k<=2:=by rcases hk with e|e <;> omega
 have HG:=aa h;have HR:=aa hr;have HK:=aa hk;have HU:=aa hU;have HXB:=aa (show s.nx=0/\s.bare=0 from ⟨hx,hb⟩);have c2:=h.hd.cell 2;have zc:=h.hd.lt;clear h hk hr hU hx hb;go_enter Tryz.func110,Tryz.ntmps110
 go_wp2
 go_loopw [9] (λv9 wr => ∃ (j:Nat) (vf:Value),j<=s.k/\v9 = .int .i64 (j:Int)/\TI wr a s aT j vf tk w.heap.size E w0/\ah (λb => ∃x,Used s.k false x/\b=a x) w wr) (λv9 _=>s.k-(intOf v9).toNat)
 case atStart=>exact ⟨0,_,o7 _,rfl,HG.out,ah.refl _ _⟩
 case round =>
  clear c2 zc;obtain ⟨j,vf,hj,rfl,hG,hC⟩:=hrel;have KG:=aa hG;have KC:=aa hC;have hwz:=hC.size;clear hG hC;by_cases hlt:j<s.k
  . have kJ:(j:Int)<(s.k:Int):=by omega
    have l0:=KG.out.bl j hlt;have zb:=KG.out.bz;have d3:=KG.out.hd.cell 3;have zd:=KG.out.hd.lt;have hal:∀x,Used s.k false x->a x<w.heap.size:=KG.out.lt;have h7:a (7+3*j)<w.heap.size:=hal _ (.of hlt (by omega) (by omega));have h00:a 0<w.heap.size:=hal 0 (.fH (by decide));have h07:¬a 0=a (7+3*j):=KG.out.n.ne (.fH (by decide)) (.of hlt (by omega) (by omega)) (by omega);have hX0:¬ (a 0=a (7+3*j)\/w.heap.size<=a 0):=by omega
    have TK:=aa (λ(w':World) (h':BW w' (a (7+3*j)) (a (8+3*j)) (a (9+3*j)) s.gn s.gn false)=>aax _ _ _ _ w' h');have HAL:=aa hal;clear hal;go_upto_region 3 with (fail)
    refine ag (λb=>b=a (7+3*j)\/w.heap.size<=b) #[⟨0,0,8192,1,0⟩,⟨0,0,2^14,1,0⟩,⟨2,2,2^15,2^14,0⟩,⟨4,6,2^16,2^15,0⟩,⟨8,14,2^17,2^16,1⟩,⟨0,0,2^18,8,0⟩,⟨32,32,2^19,2^18,2⟩,⟨64,96,2^20,2^19,0⟩,⟨64,96,2^21,2^19,0⟩,⟨448,480,2^22,(2^20+2^21),2⟩,⟨512,992,2^23,2^22,2⟩,⟨1552,2046,2^24,(2^17+2^23),3⟩,⟨4095,4095,2^25,8192,0⟩,⟨8191,8191,2^26,2^25,0⟩,⟨12287,16383,0,(2^24+2^26),3⟩] 16 [(0,0),(1,0),(2,0),(3,0),(4,1),(5,0),(6,2),(7,0),(8,0),(9,2),(10,2),(11,3),(12,0),(13,0),(14,3)] (by kernel_rfl) (by kernel_rfl) (by kernel_rfl) (by kernel_rfl) (by kernel_rfl) (by kernel_rfl) (λc a d v w h=>by cases d <;> exact h) ?_;refine aj ?_;refine aj ?_;refine aj ?_;refine aj ?_;refine bW Tryz.underlying111 ?_
    try refine aC ?_;refine aj ?_
    refine iK λK hK=>?_;go_wp2_with ((go_at_call 158;(with_reducible refine (TK.out _ ((KG.out.bw j (aL _) hlt).later (aM _ _).drew)).mono ?_);rintro e w3 ⟨rfl,hb3,ht3,hc3⟩;have HB3:=aa hb3;have HT3:=aa ht3;have M0:=aa hc3.bS;have ad6:ah (λb=>b=a (7+3*j)\/w.heap.size<=b) _ w3:=hc3.mono (λ_ _ e => .inl e);have z3:wr.heap.size<=w3.heap.size:=hc3.size;have RW3:=aa (gJ KG.out.r hc3.bS (λb hb e=>by have h1:=(KG.out.r.lt b hb).1;omega));have H3:=aa (KG.out.hd.aA hc3.bS h07);clear hb3 ht3));refine iX hK (h:=?_);clear hK K
    try refine aC ?_;refine aj ?_;refine aj ?_
    refine iK λK hK=>?_;go_wp2_with ((go_at_call 157;(with_reducible refine (UL _ _).mono ?_);rintro e w4 ⟨rfl,rfl⟩));refine iX hK (h:=?_);clear hK K
    try refine aC ?_
    refine iK λK hK=>?_;go_wp2_with (fail);refine iX hK (h:=?_);clear hK K
    try refine aC ?_
    refine fA λK hK=>?_;(refine aQ _ _ 111 rfl w.heap.size 85 i0 (.pointer none) 1 8 Tryz.underlying111 hi hz0 hz1 hz2 rfl (by decide) _ j _ rfl (aB RW3.out ((aM _ _).alloc (aL _) _)) ⟨w3.heap.size,0,none⟩ 1 1 [.pointer (some ⟨a (8+3*j),0,none⟩)] rfl rfl (nP w3 _ _) (by simp [Value.oneCell']) (by unfold maxLen;omega) (by omega) (by simp;omega) (by decide) ?_;intro v5 w5 hown5 aP _;obtain ⟨g5,LV,rfl⟩:=ownsRow_succ hown5;have G5:=aa (ah.fC aP);have R5:=aa hown5;have NT:ah (λb=>b=a (7+3*j)\/w.heap.size<=b) _ w5:=G5.out.mono (λb _ e => .inr (RW3.out.lt b e).1);have H5:=aa ((H3.out.alloc _).aA G5.out (λe=>by have:=(RW3.out.lt _ e).1;omega));have d5:=H5.out.cell 3;have zd5:=H5.out.lt;have fd5:=λj=>H5.out.frozen j;clear hown5 aP);refine hK.out _ _ ?_;clear hK K
    try refine aC ?_;refine aj ?_;refine aj ?_
    refine fA λK hK=>?_;go_wp2_with (fail);refine hK.out _ _ ?_;clear hK K
    try refine aC ?_
    refine aD ?_;go_wp2;have QN:∀x,Used s.k false x->¬Value.ownBlock vf=some (a x):=λx hx e=>by have h1:=(RW3.out.lt _ e).1;have h2:=HAL.out x hx;omega
    have hcc:ah (λb=>b=a (7+3*j)\/w.heap.size<=b) wr w5:=((M0.out.mono (λ_ _ e => .inl e)).alloc _).trans (G5.out.mono (λb _ e => .inr (RW3.out.lt b e).1))
    have hBD:af w5 (a (7+3*j)) 211 #[.pointer none,.int .i64 (s.gn:Int),.int .i64 (s.gn:Int)]:=by
     have h1:=HB3.out.b;rw [if_pos rfl] at h1;exact (h1.alloc _).aA G5.out (QN _ (.of hlt (by omega) (by omega)))
    have hTT:TS w5 (a (8+3*j)) (a (9+3*j)) (ae.new s.gn):=(HT3.out.later ((aM _ _).alloc (aL _) _)).aA G5.out (QN _ (.of hlt (by omega) (by omega))) (QN _ (.of hlt (by omega) (by omega)));have hRR:=R5.out;rw [show (List.range j).map (λi=>Value.pointer (some ⟨a (8+3*i),0,none⟩)) ++ [Value.pointer (some ⟨a (8+3*j),0,none⟩)]=(List.range (j+1)).map (λi=>Value.pointer (some ⟨a (8+3*i),0,none⟩)) from by rw [List.range_succ,List.map_append];rfl] at hRR;have SG:=aa (KG.out.step hlt hcc hBD hTT HR.out hRR)
    have SC:=aa ((KC.out.trans' hcc (λb hb e=>by
     rcases e with e|e
     . exact ⟨_,.of hlt (by omega) (by omega),e⟩
     . omega)).trans ((((ah.refl (λb=>b=a 0) w5).set1 3 (.slice (some ⟨g5,0,none⟩) (j+1) LV))).mono (λb _ e=>(⟨0,.fH (by decide),e⟩:∃x,Used s.k false x/\b=a x))))
    clear hcc hBD hTT hRR QN
    go_roundw
    case rel=>exact ⟨j+1,_,by omega,by go_num,SG.out,SC.out⟩
    case measure=>simp [intOf];omega
  . obtain rfl:j=s.k:=by omega
    obtain ⟨g,sF,cur,rfl,hbg,hgB,hcell⟩:=jo KG.out.r (by omega);have hgz:=hgB.lt;have HPW:=aa (show ∀w',Below wr.heap.size wr w'->sM w' (some ⟨g,0,none⟩) s.k (λi=>some ⟨a (8+3*i),0,none⟩) from λw' hb h0=>⟨g,0,rfl,bM hgz hb.size,λi hi=>by rw [Nat.zero_add];exact (hb.cell (p:=⟨g,i,none⟩) hgz).trans (hcell i hi)⟩);have HCL:=aa hcell;have EN:=aa (λ(w':World) (h':sM w' (some ⟨g,0,none⟩) s.k (λi=>some ⟨a (8+3*i),0,none⟩))=>Vw (a 1) s.d (some ⟨g,0,none⟩) s.k sF (λi=>a (8+3*i)) HK.out w' h');have d0:=KG.out.hd.cell 0;have d1:=KG.out.hd.cell 1;have d3:=KG.out.hd.cell 3;have zd:=KG.out.hd.lt;clear hcell hgB;go_upto_region 5 with (fail)
    refine ag (λ_=>False) #[⟨0,0,2^28,1,0⟩,⟨0,0,2^29,1,0⟩,⟨2,2,2^30,2^29,0⟩,⟨4,6,2^31,2^30,0⟩,⟨8,14,2^32,2^31,1⟩,⟨0,0,2^33,1,0⟩,⟨32,32,2^34,2^33,0⟩,⟨64,96,2^35,2^34,0⟩,⟨128,224,2^36,2^35,1⟩,⟨0,0,2^37,1,0⟩,⟨512,512,2^38,2^37,0⟩,⟨1024,1536,2^39,2^38,0⟩,⟨2048,3584,2^40,2^39,1⟩,⟨4368,8190,2^41,(2^32+2^36+2^40),3⟩,⟨8192,16382,2^42,2^41,0⟩,⟨8192,16382,2^43,2^41,0⟩,⟨(2^13+2^14+2^15),65534,2^44,(2^42+2^43),3⟩,⟨131071,131071,2^45,2^28,0⟩,⟨262143,262143,2^46,2^45,0⟩,⟨393215,524287,0,(2^44+2^46),3⟩] 4368 [(0,0),(1,0),(2,0),(3,0),(4,1),(5,0),(6,0),(7,0),(8,1),(9,0),(10,0),(11,0),(12,1),(13,3),(14,0),(15,0),(16,3),(17,0),(18,0),(19,3)] (by kernel_rfl) (by kernel_rfl) (by kernel_rfl) (by kernel_rfl) (by kernel_rfl) (by kernel_rfl) (λc a d v w h=>by cases d <;> exact h) ?_;refine aj ?_;refine aj ?_;refine aj ?_;refine aj ?_;refine bW Tryz.underlying85 ?_
    try refine aC ?_;refine aj ?_;refine aj ?_;refine aj ?_
    refine bW Tryz.underlying3 ?_
    try refine aC ?_;refine aj ?_;refine aj ?_;refine aj ?_
    refine bW Tryz.underlying111 ?_
    try refine aC ?_
    refine fA λK hK=>?_;go_wp2_with ((go_at_call 160;((with_reducible refine (EN.out _ (HPW.out _ (aM _ _).drew)).mono ?_);rintro e w2 ⟨V,G6,cap6,rfl,hV,hG6,he2,hVG,hb2⟩;have HE2:=aa he2;have HB2:=aa (Below.bS hb2);have G2:=aa (KG.out.later (Below.bS hb2));have d24:=G2.out.hd.cell 4;have zd2:=G2.out.hd.lt;have fd2:=λj=>G2.out.hd.frozen j;have hVz:=he2.b.lt;have hGz:=he2.lt)));refine hK.out _ _ ?_;clear hK K
    try refine aC ?_;refine aj ?_;refine aj ?_
    refine fA λK hK=>?_;go_wp2_with ((go_at_call 159;(with_reducible refine (UK _ _).mono ?_);rintro e w4 ⟨rfl,rfl⟩));refine hK.out _ _ ?_;clear hK K
    try refine aC ?_;refine aj ?_;refine aj ?_
    refine fA λK hK=>?_;go_wp2_with (fail);refine hK.out _ _ ?_;clear hK K
    try refine aC ?_
    refine aD ?_;go_wp2;refine aJ (λWf hWf=>?_);have hC:ah (λb=>b=a 0) w2 Wf:=by rw [hWf];exact (ah.refl _ _).set1 _ _
    have hd:af Wf (a 0) 165 #[.pointer (some ⟨a 1,0,none⟩),.int .i64 (s.d:Int),.slice (some ⟨a 3,0,none⟩) s.k aT,.slice (some ⟨g,0,none⟩) s.k sF,.pointer (some ⟨V,0,none⟩),.bool tk]:=by rw [hWf];exact G2.out.hd.set 4 _
    have hz2:wr.heap.size<=w2.heap.size:=HB2.out.size;have hV':wr.heap.size<=V:=hV;have anw:wr.heap.size<=G6:=hG6;have hal:∀x,Used s.k false x->a x<w.heap.size:=KG.out.lt;have hge:∀x,Used s.k false x->w0.heap.size<=a x:=KG.out.n.ge;have h0:∀x,Used s.k false x->x≠0->¬a x=a 0:=λx hx hne e=>hne (KG.out.n.inj _ _ hx (.fH (by decide)) e);have abP:∀b,b=a 0->w0.heap.size<=b:=λb e=>by rw [e];exact hge 0 (.fH (by decide))
    have h00:a 0<w.heap.size:=hal 0 (.fH (by decide))
    obtain ⟨a',e4,e5,e6,hs⟩:∃a':Nat->Nat,a' 4=g/\a' 5=V/\a' 6=G6/\∀x,(x<4\/7<=x)->a' x=a x:=⟨λx=>if x=4 then g else if x=5 then V else if x=6 then G6 else a x,rfl,rfl,rfl,λx hx=>by
     dsimp only
     rw [if_neg (by omega),if_neg (by omega),if_neg (by omega)]⟩
    have hsu:∀x,Used s.k false x->a' x=a x:=λx hx=>hs x (by rcases hx with e | ⟨e,-⟩ | ⟨e,-⟩;exact .inl e;cases e;exact .inr e)
    have hut:∀x,Used s.k true x->Used s.k false x\/x=4\/x=5\/x=6:=λx hx=>by
     rcases hx with e | ⟨-,e⟩|e
     . exact .inl (.inl e)
     . by_cases c:x<4
       . exact .inl (.inl c)
       . exact .inr (by omega)
     . exact .inl (.inr (.inr e))
    refine bodyPost_end (results_none rfl _ _ _) rfl ⟨rfl,a',sF,cap6,⟨HXB.out.2,?_,λi hi=>?_,?_,λi hi=>?_,λi hi=>?_,?_,?_,?_,λi hi=>?_,⟨λx y hx hy e=>?_,λx hx=>?_⟩⟩,hsu,λx h1 h2=>?_,?_⟩
    . rw [hs 0 (by omega),hs 1 (by omega),hs 3 (by omega),e4,e5];exact hd
    . rw [hs 3 (by omega),hs _ (by omega)];exact (hC.cell (p:=⟨a 3,i,none⟩) G2.out.bz (h0 3 (.fH (by decide)) (by decide))).trans (G2.out.bl i hi)
    . rw [hs 3 (by omega)];exact bM G2.out.bz hC.size
    . rw [hs _ (by omega)];exact (G2.out.bd i hi).aA hC (h0 _ (.of hi (by omega) (by omega)) (by omega))
    . rw [e4,hs _ (by omega)];exact ((hC.cell (p:=⟨g,i,none⟩) (bM hgz hz2) (show ¬g=a 0 by omega)).trans (HB2.out.cell (p:=⟨g,i,none⟩) hgz)).trans (HCL.out i hi)
    . rw [e4];have:=hC.size;omega
    . rw [e5,e6,hs 1 (by omega),show (λi=>a' (8+3*i))=(λi=>a (8+3*i)) from funext λi=>hs _ (by omega),HXB.out.1];exact HE2.out.aA hC (by omega) (by omega)
    . rw [hs 1 (by omega),hs 2 (by omega)];exact eT.aA G2.out.t hC abP (h0 1 (.fH (by decide)) (by decide)) (h0 2 (.fH (by decide)) (by decide)) (λb e=>by cases e)
    . rw [hs _ (by omega),hs _ (by omega),HU.out i hi];exact eT.aA (G2.out.tt i hi) hC abP (h0 _ (.of hi (by omega) (by omega)) (by omega)) (h0 _ (.of hi (by omega) (by omega)) (by omega)) (λb e=>by cases e)
    . rcases hut x hx with hx'|hx'|hx'|hx' <;> rcases hut y hy with hy'|hy'|hy'|hy'
      . rw [hsu x hx',hsu y hy'] at e;exact KG.out.n.inj x y hx' hy' e
      all_goals (try (have q1:=hal x hx';rw [hsu x hx'] at e));(try (have q2:=hal y hy';rw [hsu y hy'] at e));(try subst hx');(try subst hy');(try rw [e4] at e);(try rw [e5] at e);(try rw [e6] at e);(try omega)
    . rcases hut x hx with hx'|hx'|hx'|hx'
      . rw [hsu x hx'];exact hge x hx'
      . have q:=hge 0 (.fH (by decide));subst hx';rw [e4];omega
      . have q:=hge 0 (.fH (by decide));subst hx';rw [e5];omega
      . have q:=hge 0 (.fH (by decide));subst hx';rw [e6];omega
    . obtain rfl|rfl|rfl:x=4\/x=5\/x=6:=by omega
      . rw [e4];exact hbg
      . rw [e5];omega
      . rw [e6];omega
    . exact (KC.out.au HB2.out).trans (hC.mono (λb _ e=>(⟨0,.fH (by decide),e⟩:∃x,Used s.k false x/\b=a x)))
end
def TQ (k gn bare i:Nat):Nat:=min gn (k*gn-bare-i*gn)
theorem QF (s:DuS) (i:Nat):s.je.pr i=TQ s.k s.gn (s.bare-1) i:=rfl
theorem KO {k gn bare j:Nat} (hk:k=1\/k=2) (h0:0<bare) (hb:bare<=k*gn) (hj:j<k) (hp:∀i,i<j->TQ k gn bare i=gn) (hl:TQ k gn bare j<gn) :
 (∀i,i<k->TQ k gn (bare-1) i=if i=j then TQ k gn bare j+1 else TQ k gn bare i)/\(bare=1->j=k-1)/\(j=k-1->gn-(TQ k gn bare j+1)=bare-1):=by
 unfold TQ at *
 rcases hk with rfl|rfl
 . obtain rfl:j=0:=by omega
   refine ⟨λi hi=>?_,λ_=>rfl,λ_=>?_⟩
   . obtain rfl:i=0:=by omega
     rw [if_pos rfl];omega
   . omega
 . have hj':j=0\/j=1:=by omega
   rcases hj' with rfl|rfl
   . refine ⟨λi hi=>?_,λe=>by omega,λe=>by omega⟩;have hi':i=0\/i=1:=by omega
     rcases hi' with rfl|rfl
     . rw [if_pos rfl];omega
     . rw [if_neg (by decide)];omega
   . have h1:=hp 0 (by decide);refine ⟨λi hi=>?_,λ_=>rfl,λ_=>by omega⟩;have hi':i=0\/i=1:=by omega
     rcases hi' with rfl|rfl
     . rw [if_neg (by decide)];omega
     . rw [if_pos rfl];omega
theorem abj {k gn bare:Nat} (hk:k=1\/k=2) (h0:0<bare) (hb:bare<=k*gn):¬∀i,i<k->TQ k gn bare i=gn:=λh=>by
 unfold TQ at h;rcases hk with rfl|rfl
 . have:=h 0 (by decide);omega
 . have h1:=h 0 (by decide);have h2:=h 1 (by decide);omega
theorem Uy {k gn:Nat} (hk:k=1\/k=2) {i:Nat} (hi:i<k):TQ k gn 0 i=gn:=by
 unfold TQ;rcases hk with rfl|rfl
 . obtain rfl:i=0:=by omega
   omega
 . have hi':i=0\/i=1:=by omega
   rcases hi' with rfl|rfl <;> omega
section
variable {w w' w0:World} {a:Nat->Nat} {s:DuS} {tk:Bool} {E:Nat->Addr} {aT M j:Nat} {mt:aG}
theorem ni.Ju (h:ni w a s aT tk E w0) (hok:dW s) (hs:mZ (some M) a s.k false w0.heap.size) (hj:j<s.k) (hp:∀i,i<j->s.pr i=s.gn) (hl:s.pr j<s.gn) (hb:BW w' (a (7+3*j)) (a (8+3*j)) (a (9+3*j)) s.gn (s.pr j+1) false) (hc:ah (λb=>b=M\/b=a (9+3*j)\/b=a (7+3*j)) w w') :
 (1<s.bare->ni w' a s.je aT tk E w0)/\(s.bare=1->TI w' a s.je aT 0 (.slice none 0 0) tk w'.heap.size E w0):=by
 have hk:s.k=1\/s.k=2:=by have:=hok.hk;omega
 have hm:=(hs M rfl).2
 have hn:∀x,Used s.k false x->x≠9+3*j->x≠7+3*j->¬ (a x=M\/a x=a (9+3*j)\/a x=a (7+3*j)):=λx hx h1 h2 e=>by
  rcases e with e|e|e
  . exact hm x hx e.symm
  . exact h1 (h.n.inj _ _ hx (.of hj (by omega) (by omega)) e)
  . exact h2 (h.n.inj _ _ hx (.of hj (by omega) (by omega)) e)
 have h0:∀b,(b=M\/b=a (9+3*j)\/b=a (7+3*j))->w0.heap.size<=b:=λb e=>by
  rcases e with e|e|e
  . rw [e];exact (hs M rfl).1
  . rw [e];exact h.n.ge _ (.of hj (by omega) (by omega))
  . rw [e];exact h.n.ge _ (.of hj (by omega) (by omega))
 obtain ⟨q1,q2,q3⟩:=KO hk h.hb hok.hb hj hp hl
 have hbw:∀i,i<s.k->BW w' (a (7+3*i)) (a (8+3*i)) (a (9+3*i)) s.gn (s.je.pr i) false:=λi hi=>by
  rw [QF,q1 i hi];by_cases e:i=j
  . subst e;rw [if_pos rfl];exact hb
  . rw [if_neg e];exact (h.bw i hi).aA hc (hn _ (.of hi (by omega) (by omega)) (by omega) (by omega)) (hn _ (.of hi (by omega) (by omega)) (by omega) (by omega)) (hn _ (.of hi (by omega) (by omega)) (by omega) (by omega))
 have hhd:=h.hd.aA hc (hn 0 (.fH (by decide)) (by omega) (by omega));have hbl:∀i,i<s.k->w'.cell? ⟨a 3,i,none⟩=some (.pointer (some ⟨a (7+3*i),0,none⟩)):=λi hi=>(hc.cell (p:=⟨a 3,i,none⟩) h.bz (hn 3 (.fH (by decide)) (by omega) (by omega))).trans (h.bl i hi);have ht:TN w' (a 1) (a 2) s.T E w0:=eT.aA h.t hc h0 (hn 1 (.fH (by decide)) (by omega) (by omega)) (hn 2 (.fH (by decide)) (by omega) (by omega)) (λb e=>by cases e);refine ⟨λh1=>⟨by show 0<s.bare-1;omega,hhd,hbl,bM h.bz hc.size,hbw,ht,h.n⟩,λh1=>⟨hhd,hbl,bM h.bz hc.size,λi hi=>by omega,λi hi=>by omega,λi _ hi=>?_,ht,⟨rfl,.inl ⟨rfl,rfl⟩⟩,h.n,λx hx=>bM (h.lt x hx) hc.size,aL _,o7 _⟩⟩;have:=hbw i hi;rw [QF,h1,Uy hk hi] at this;exact this
theorem TI.base0 {b1 b2:Nat} (h:TI w a s aT 0 (.slice none 0 0) tk b1 E w0) (h1:b1<=b2) (h2:b2<=w.heap.size):TI w a s aT 0 (.slice none 0 0) tk b2 E w0 :=
 ⟨h.hd,h.bl,h.bz,h.bd,h.tt,h.bw,h.t,⟨rfl,.inl ⟨rfl,rfl⟩⟩,h.n,λx hx=>bM (h.lt x hx) h1,h2,h.hj⟩
theorem ni.step (h:ni w a s aT tk E w0) (hok:dW s) (hM:af w M 37 mt.cells) (hs:mZ (some M) a s.k false w0.heap.size) (hl:mt.limited=false) :
 Calls Tryz.prog 54 #[.pointer (some ⟨a 0,0,none⟩),.pointer (some ⟨M,0,none⟩)] w λe w'=>e = .returned (.bool true)/\(∃a',fM w' a' s.je tk E w0/\(∀x,Used s.k false x->a' x=a x)/\(∀x,4<=x->x<7->w.heap.size<=a' x\/1<s.bare))/\
  af w' M 37 ((mt.add 0 1 0).add 0 0 1).cells/\ah (λb=>b=M\/oU a s b) w w':=by
 have hk:s.k=1\/s.k=2:=by have:=hok.hk;omega
 have hgb:=dZ hok.hr;have hb0:=h.hb;have HD:=aa h;have rH:=aa hok;have HS:=aa hs;have HM:=aa hM;have hm:=(hs M rfl).2;have RD:=aa h.ready;have LM:=aa (show ∀w',Below w.heap.size w w'->af w' M 37 mt.cells from λw' hb=>hM.below hb hM.lt)
 have HX:=aa (show ∀b j,j<s.k->(b=M\/b=a (9+3*j)\/b=a (7+3*j))->b=M\/oU a s b from λb j hj e=>by
  unfold oU;rw [decide_eq_false (by omega)];rcases e with e|e|e
  . exact .inl e
  . exact .inr ⟨_,.of hj (by omega) (by omega),e⟩
  . exact .inr ⟨_,.of hj (by omega) (by omega),e⟩)
 have HN0:=aa (show ∀j,j<s.k->¬ (a 0=M\/a 0=a (9+3*j)\/a 0=a (7+3*j)) from λj hj e=>by
  rcases e with e|e|e
  . exact hm 0 (.fH (by decide)) e.symm
  . exact h.n.ne (.fH (by decide)) (.of hj (by omega) (by omega)) (by omega) e
  . exact h.n.ne (.fH (by decide)) (.of hj (by omega) (by omega)) (by omega) e)
 have HXB:=aa (show ah (λb => ∃x,Used s.k false x/\b=a x)=ah (λb=>oU a s b) from by unfold oU;rw [decide_eq_false (show ¬s.bare=0 by omega)]);have HMX:=aa (show ∀x,Used s.k false x->M≠a x from hm);obtain ⟨c0,c1,c2,c3,c4,c5,zc⟩:=h.cells;clear h hM hs hm hok;go_enter Tryz.func54,Tryz.ntmps54
 go_wp2_with (go_at_call 106;(with_reducible refine RD.out.mono ?_);rintro e w1 ⟨rfl,rfl⟩)
 go_loopw [20] (λv20 wr => ∃j:Nat,j<=s.k/\v20 = .int .i64 (j:Int)/\Below w.heap.size w wr/\∀i,i<j->s.pr i=s.gn) (λv20 _=>s.k-(intOf v20).toNat)
 case atStart=>exact ⟨0,o7 _,rfl,aM _ _,λi hi=>by omega⟩
 case round =>
  clear c0 c1 c2 c3 c4 c5;obtain ⟨j,hj,rfl,hB,hpr⟩:=hrel;have KD:=aa (HD.out.later hB);have HP:=aa hpr;clear hpr
  have hlt:j<s.k:=by
   apply Classical.byContradiction
   intro hn;obtain rfl:j=s.k:=by omega
   exact abj hk hb0 rH.out.hb HP.out
  have kJ:(j:Int)<(s.k:Int):=by omega
  have l0:=KD.out.bl j hlt;have zb:=KD.out.bz;by_cases LA:s.pr j<s.gn
  . have SO:=aa (λ(w':World) (h':ni w' a s aT tk E w0) (hM':af w' M 37 mt.cells)=>aay (a (7+3*j)) (a (8+3*j)) (a (9+3*j)) s.gn (s.pr j) LA M mt hl w' (h'.bw j hlt) hM' ⟨HMX.out _ (.of hlt (by omega) (by omega)),HMX.out _ (.of hlt (by omega) (by omega)),HMX.out _ (.of hlt (by omega) (by omega))⟩);obtain ⟨-,q2,q3⟩:=KO hk hb0 rH.out.hb hlt HP.out LA;have ek:IntKind.i64.wrap ((s.k:Int)-1)=((s.k-1:Nat):Int):=by rw [IntKind.wrap_i64];omega
    by_cases hjk:j=s.k-1
    . have hje:((j:Int) == ((s.k-1:Nat):Int))=true:=by simp;omega
      have BLF:=aa (λ(w':World) (hb':BW w' (a (7+3*j)) (a (8+3*j)) (a (9+3*j)) s.gn (s.pr j+1) false)=>nR _ _ _ _ _ _ w' hb');rw [show s.gn-(s.pr j+1)=s.bare-1 from q3 hjk] at BLF;replace hjk:=aa hjk;clear q2 q3;by_cases hb1:s.bare=1
      . have HK:=rH.out.hk;have hpre:=rH.out.pre hb0;have BG:=aa (λ(w':World) (h':TI w' a s.je aT 0 (.slice none 0 0) tk w'.heap.size E w0)=>Tv h' HK rH.out.hr hpre.2 hpre.1 (show s.bare-1=0 by omega));rw [show s.bare-1=0 by omega] at BLF;clear hpre HK
        go_wp2_with (first
         | (go_at_call 108;(with_reducible refine (SO.out _ KD.out (LM.out _ hB)).mono ?_);rintro e w3 ⟨rfl,hb3,hm3,hc3⟩;have HP3:=aa (KD.out.Ju rH.out HS.out hlt HP.out LA hb3 hc3);have M0:=aa ((ah.of_below hB:ah (λb=>b=M\/oU a s b) w wr).trans (hc3.mono (λb _ e=>HX.out b j hlt e)));have HM3:=aa hm3;have HB3:=aa hb3;have d3:=KD.out.hd.aA hc3 (HN0.out j hlt);have d32:=d3.cell 2;have zd3:=d3.lt;clear hb3 hm3 hc3 d3)
         | (go_at_call 109;(with_reducible refine (BLF.out _ HB3.out).mono ?_);rintro e w4 ⟨rfl,hb4⟩;have G4:=aa (((HP3.out.2 hb1).later hb4).base0 hb4.size (aL _));have TU:=aa hb4;have z4:=hb4.size)
         | (go_at_call 110;(with_reducible refine (BG.out _ G4.out).mono ?_);rintro e w5 ⟨rfl,a',dz,cap5,hD5,hs5,QN,GD⟩;have D5:=aa hD5;have S5:=aa hs5;have N5:=aa QN;rw [show ah (λb => ∃x,Used s.je.k false x/\b=a x)=ah (λb=>oU a s b) from HXB.out] at GD;have C5:=aa GD;clear hD5 hs5 QN GD))
        go_ret;have hwz:=hB.size;have hz3:=M0.out.size;refine ⟨rfl,⟨a',⟨rH.out.je,.inr ⟨_,_,_,D5.out⟩⟩,S5.out,λx h1 h2 => .inl (by have:=N5.out x h1 h2;omega)⟩,?_,(M0.out.au TU.out).trans (C5.out.mono (λ_ _ e => .inr e))⟩;refine (HM3.out.below TU.out HM3.out.lt).aA C5.out (λe=>?_);unfold oU at e;rw [decide_eq_false (show ¬s.bare=0 by omega)] at e;obtain ⟨x,hx,e⟩:=e;exact HMX.out x hx e
      . have e0:(((s.bare-1:Nat):Int) == 0)=false:=by simp;omega
        go_wp2_with (first
         | (go_at_call 108;(with_reducible refine (SO.out _ KD.out (LM.out _ hB)).mono ?_);rintro e w3 ⟨rfl,hb3,hm3,hc3⟩;have HP3:=aa (KD.out.Ju rH.out HS.out hlt HP.out LA hb3 hc3);have M0:=aa ((ah.of_below hB:ah (λb=>b=M\/oU a s b) w wr).trans (hc3.mono (λb _ e=>HX.out b j hlt e)));have HM3:=aa hm3;have HB3:=aa hb3;have d3:=KD.out.hd.aA hc3 (HN0.out j hlt);have d32:=d3.cell 2;have zd3:=d3.lt;clear hb3 hm3 hc3 d3)
         | (go_at_call 109;(with_reducible refine (BLF.out _ HB3.out).mono ?_);rintro e w4 ⟨rfl,hb4⟩;have TU:=aa hb4))
        go_ret;exact ⟨rfl,⟨a,⟨rH.out.je,.inl ⟨_,(HP3.out.1 (by omega)).later TU.out⟩⟩,λ_ _=>rfl,λ_ _ _ => .inr (by omega)⟩,HM3.out.below TU.out HM3.out.lt,M0.out.au TU.out⟩
    . have hje:((j:Int) == ((s.k-1:Nat):Int))=false:=by simp;omega
      have hb2:1<s.bare:=by
       apply Classical.byContradiction
       intro hn;exact hjk (q2 (by omega))
      clear q2 q3
      go_wp2_with (go_at_call 108;(with_reducible refine (SO.out _ KD.out (LM.out _ hB)).mono ?_);rintro e w3 ⟨rfl,hb3,hm3,hc3⟩;have HP3:=aa (KD.out.Ju rH.out HS.out hlt HP.out LA hb3 hc3);have M0:=aa ((ah.of_below hB:ah (λb=>b=M\/oU a s b) w wr).trans (hc3.mono (λb _ e=>HX.out b j hlt e)));have HM3:=aa hm3;have HB3:=aa hb3;have d3:=KD.out.hd.aA hc3 (HN0.out j hlt);have d32:=d3.cell 2;have zd3:=d3.lt;clear hb3 hm3 hc3 d3)
      go_ret;exact ⟨rfl,⟨a,⟨rH.out.je,.inl ⟨_,HP3.out.1 hb2⟩⟩,λ_ _=>rfl,λ_ _ _ => .inr hb2⟩,HM3.out,M0.out⟩
  . have hpe:s.pr j=s.gn:=by have:=(KD.out.bw j hlt).hk;omega
    have SN:=aa (λ(w':World) (h':ni w' a s aT tk E w0)=>aaz (a (7+3*j)) (a (8+3*j)) (a (9+3*j)) s.gn false (some ⟨M,0,none⟩) w' (by have:=h'.bw j hlt;rw [hpe] at this;exact this))
    go_wp2_with (go_at_call 108;(with_reducible refine (SN.out _ KD.out).mono ?_);rintro e w3 ⟨rfl,hb3⟩;have B3:=aa (hB.trans (hb3.mono hB.size)))
    go_roundw
    case rel=>exact ⟨j+1,by omega,by go_num,B3.out,λi hi=>by
     by_cases e:i=j
     . rw [e];exact hpe
     . exact HP.out i (by omega)⟩
    case measure=>simp [intOf];omega
end
theorem adS:(Tryz.prog.info? 166).map (λi=>(i.zero,i.size,i.bytes))=some (some (.pointer none),1,8):=by kernel_rfl
def DuS.lg (k d gn:Nat) (T:ae):DuS:=⟨k,d,gn,k*gn,0,T,λ_=>ae.new gn⟩
theorem dW.lg {k d gn:Nat} {T:ae} (hk:k=1\/(k=2/\d<=15)) (hr:aN (gn:Int)=true) (hT:bq T):dW (DuS.lg k d gn T) :=
 ⟨hk,hr,aL _,o7 _,hT,λ_ _=>⟨bq.new hr,rfl⟩,λ_=>⟨rfl,λ_ _=>rfl⟩⟩
structure He (wr:World) (D O d gn j:Nat) (vb:Value) (bb tb tq c e:Nat->Nat):Prop where
 hd:af wr D 165 #[.pointer (some ⟨O,0,none⟩),.int .i64 (d:Int),vb,.slice none 0 0,.pointer none,.bool false]
 r:wr.ownsRow (D+1) 166 1 vb j ((List.range j).map (λi=>Value.pointer (some ⟨bb i,0,none⟩)))
 bw:∀i,i<j->BW wr (bb i) (tb i) (tq i) gn 0 false
 iv:∀i,i<j->D<c i/\c i<=bb i/\bb i<e i/\c i<=tb i/\tb i<e i/\c i<=tq i/\tq i<e i/\e i<=wr.heap.size
 up:∀i l,i<l->l<j->e i<=c l
 rb:∀b,vb.ownBlock=some b->∀i,i<j->b<c i\/e i<=b
section
variable {w w' w0:World} {D O d gn j:Nat} {vb:Value} {bb tb tq c e:Nat->Nat}
theorem He.later (h:He w D O d gn j vb bb tb tq c e) (hb:Below w.heap.size w w'):He w' D O d gn j vb bb tb tq c e :=
 ⟨h.hd.below hb h.hd.lt,aB h.r hb,λi hi=>(h.bw i hi).later hb,λi hi=>⟨(h.iv i hi).1,(h.iv i hi).2.1,(h.iv i hi).2.2.1,(h.iv i hi).2.2.2.1,(h.iv i hi).2.2.2.2.1,(h.iv i hi).2.2.2.2.2.1,(h.iv i hi).2.2.2.2.2.2.1,qH (h.iv i hi).2.2.2.2.2.2.2 hb.size⟩,h.up,h.rb⟩
theorem He.more {w1 w2:World} {v2:Value} {b t q:Nat} (h:He w D O d gn j vb bb tb tq c e) (hb1:Below w.heap.size w w1) (hB:BW w1 b t q gn 0 false) (l1:w.heap.size<=b/\w.heap.size<=t/\w.heap.size<=q)
 (hg:ah (λx=>vb.ownBlock=some x) w1 w2) (hrow:w2.ownsRow (D+1) 166 1 v2 (j+1) ((List.range j).map (λi=>Value.pointer (some ⟨bb i,0,none⟩)) ++ [Value.pointer (some ⟨b,0,none⟩)])) (hfr:v2.ownBlock=vb.ownBlock\/∃x,v2.ownBlock=some x/\w1.heap.size<=x) :
 He (w2.setCell ⟨D,2,none⟩ v2) D O d gn (j+1) v2 (upd bb j b) (upd tb j t) (upd tq j q) (upd c j w.heap.size) (upd e j w1.heap.size):=by
 have hD:=h.hd.lt;have hbt:b<w1.heap.size:=hB.b.lt;have htt:t<w1.heap.size:=(hB.t rfl).head.lt;have hqt:q<w1.heap.size:=(hB.t rfl).lt;have hvz:∀x,vb.ownBlock=some x->D+1<=x/\x<w.heap.size:=λx hx=>h.r.lt x hx;have hC:ah (λx=>x=D) w2 (w2.setCell ⟨D,2,none⟩ v2):=(ah.refl _ _).set1 _ _;have hz:=hg.size;have hz1:=hb1.size;have hcs:=hC.size
 have old:∀i,i<j->∀x,c i<=x->x<e i->¬ (vb.ownBlock=some x)/\¬x=D:=λi hi x h1 h2=>by
  have h3:=h.iv i hi;refine ⟨λe=>?_,by omega⟩;have:=h.rb x e i hi;omega
 have new:∀x,w.heap.size<=x->¬ (vb.ownBlock=some x)/\¬x=D:=λx hx=>⟨λe=>by have:=hvz x e;omega,by omega⟩
 refine ⟨?_,?_,λi hi=>?_,λi hi=>?_,λi l hil hl=>?_,λx hx i hi=>?_⟩
 . exact ((h.hd.below hb1 hD).aA hg (λe=>by have:=hvz D e;omega)).set 2 _
 . rw [List.range_succ,List.map_append]
   have e1:(List.range j).map (λi=>Value.pointer (some ⟨upd bb j b i,0,none⟩))=(List.range j).map (λi=>Value.pointer (some ⟨bb i,0,none⟩)):=List.map_congr_left λi hi=>by
    rw [ay _ _ (by have:=List.mem_range.1 hi;omega)]
   rw [e1];simp only [List.map_cons,List.map_nil,upd_same];exact gJ hrow hC (λx hx e=>by have:=(hrow.lt x hx).1;omega)
 . by_cases e:i=j
   . subst e;rw [upd_same,upd_same,upd_same];exact (hB.aA hg (new b l1.1).1 (new t l1.2.1).1 (new q l1.2.2).1).aA hC (new b l1.1).2 (new t l1.2.1).2 (new q l1.2.2).2
   . have hi':i<j:=by omega
     have h3:=h.iv i hi';rw [ay _ _ e,ay _ _ e,ay _ _ e];exact (((h.bw i hi').later hb1).aA hg (old i hi' _ (by omega) (by omega)).1 (old i hi' _ (by omega) (by omega)).1 (old i hi' _ (by omega) (by omega)).1).aA hC (old i hi' _ (by omega) (by omega)).2 (old i hi' _ (by omega) (by omega)).2 (old i hi' _ (by omega) (by omega)).2
 . by_cases e:i=j
   . subst e;simp only [upd_same];omega
   . have h3:=h.iv i (by omega);simp only [ay _ _ e];omega
 . by_cases e:l=j
   . subst e;have h3:=h.iv i (by omega);rw [upd_same,ay _ _ (by omega)];omega
   . rw [ay _ _ (by omega),ay _ _ e];exact h.up i l hil (by omega)
 . by_cases e:i=j
   . subst e;rw [upd_same,upd_same];rcases hfr with e1 | ⟨y,e1,hy⟩
     . rw [e1] at hx;have:=hvz x hx;omega
     . rw [e1] at hx;have:=Option.some.inj hx;omega
   . have h3:=h.iv i (by omega);rw [ay _ _ e,ay _ _ e];rcases hfr with e1 | ⟨y,e1,hy⟩
     . rw [e1] at hx;exact h.rb x hx i (by omega)
     . rw [e1] at hx;have:=Option.some.inj hx;omega
def Di (D O Q BS:Nat) (bb tb tq:Nat->Nat) (x:Nat):Nat :=
 if x=0 then D else if x=1 then O else if x=2 then Q else if x=3 then BS else if x<7 then 0
 else if (x-7) % 3=0 then bb ((x-7) / 3) else if (x-7) % 3=1 then tb ((x-7) / 3) else tq ((x-7) / 3)
theorem pI (D O Q BS:Nat) (bb tb tq:Nat->Nat) (i:Nat):Di D O Q BS bb tb tq (7+3*i)=bb i/\Di D O Q BS bb tb tq (8+3*i)=tb i/\Di D O Q BS bb tb tq (9+3*i)=tq i:=by
 unfold Di;refine ⟨?_,?_,?_⟩
 . rw [if_neg (by omega),if_neg (by omega),if_neg (by omega),if_neg (by omega),if_neg (by omega),if_pos (by omega),show (7+3*i-7) / 3=i by omega]
 . rw [if_neg (by omega),if_neg (by omega),if_neg (by omega),if_neg (by omega),if_neg (by omega),if_neg (by omega),if_pos (by omega),show (8+3*i-7) / 3=i by omega]
 . rw [if_neg (by omega),if_neg (by omega),if_neg (by omega),if_neg (by omega),if_neg (by omega),if_neg (by omega),if_neg (by omega),show (9+3*i-7) / 3=i by omega]
theorem oh {k x:Nat} (h:Used k false x):x=0\/x=1\/x=2\/x=3\/∃i,i<k/\(x=7+3*i\/x=8+3*i\/x=9+3*i):=by
 rcases h with h | ⟨e,-⟩ | ⟨h1,h2⟩
 . omega
 . cases e
 . exact .inr (.inr (.inr (.inr ⟨(x-7) / 3,by omega,by omega⟩)))
theorem He.done {Q k sF BS:Nat} {T:ae} {E:Nat->Addr} (h:He w D O d gn k (.slice (some ⟨BS,0,none⟩) k sF) bb tb tq c e) (hk:k=1\/(k=2/\d<=15)) (hr:aN (gn:Int)=true) (ht:TN w O Q T E w0) (hz:w0.heap.size<=D/\O<D/\Q<D)
 (hl:∀i,i<k->w.cell? ⟨BS,i,none⟩=some (.pointer (some ⟨bb i,0,none⟩))):ni w (Di D O Q BS bb tb tq) (DuS.lg k d gn T) sF false E w0:=by
 have hn1:=dZ hr;have hbs:=h.r.lt BS rfl;have hrb:=h.rb BS rfl;have hOQ:=ht.ne;have e0:Di D O Q BS bb tb tq 0=D:=rfl;have e1:Di D O Q BS bb tb tq 1=O:=rfl;have e2:Di D O Q BS bb tb tq 2=Q:=rfl;have e3:Di D O Q BS bb tb tq 3=BS:=rfl
 have hpr:∀i,(DuS.lg k d gn T).pr i=0:=λi=>by
  show min gn (k*gn-k*gn-i*gn)=0
  omega
 refine ⟨?_,by rw [e0,e1,e3];exact h.hd,λi hi=>?_,by rw [e3];exact hbs.2,λi hi=>?_,by rw [e1,e2];exact ht,⟨λx y hx hy he=>?_,λx hx=>?_⟩⟩
 . show 0<k*gn
   exact Nat.mul_pos (by omega) hn1.1
 . rw [e3,(pI D O Q BS bb tb tq i).1];exact hl i hi
 . rw [(pI D O Q BS bb tb tq i).1,(pI D O Q BS bb tb tq i).2.1,(pI D O Q BS bb tb tq i).2.2,hpr];exact h.bw i hi
 . have key:∀i,i<k->(bb i≠tb i/\bb i≠tq i/\tb i≠tq i):=λi hi=>⟨(h.bw i hi).ne.1,(h.bw i hi).ne.2,((h.bw i hi).t rfl).ne⟩
   rcases oh hx with rfl|rfl|rfl|rfl | ⟨i,hi,hxi⟩ <;> rcases oh hy with rfl|rfl|rfl|rfl | ⟨l,hl',hyl⟩
   all_goals (try rfl)
   all_goals (try simp only [e0,e1,e2,e3] at he)
   all_goals (try omega)
   all_goals (try (have q1:=h.iv i hi;have q2:=hrb i hi;obtain ⟨n1,n2,n3⟩:=pI D O Q BS bb tb tq i))
   all_goals (try (have r1:=h.iv l hl';have r2:=hrb l hl';obtain ⟨m1,m2,m3⟩:=pI D O Q BS bb tb tq l))
   . rcases hyl with rfl|rfl|rfl <;> first|(rw [m1] at he;omega)|(rw [m2] at he;omega)|(rw [m3] at he;omega)
   . rcases hyl with rfl|rfl|rfl <;> first|(rw [m1] at he;omega)|(rw [m2] at he;omega)|(rw [m3] at he;omega)
   . rcases hyl with rfl|rfl|rfl <;> first|(rw [m1] at he;omega)|(rw [m2] at he;omega)|(rw [m3] at he;omega)
   . rcases hyl with rfl|rfl|rfl <;> first|(rw [m1] at he;omega)|(rw [m2] at he;omega)|(rw [m3] at he;omega)
   . rcases hxi with rfl|rfl|rfl <;> first|(rw [n1] at he;omega)|(rw [n2] at he;omega)|(rw [n3] at he;omega)
   . rcases hxi with rfl|rfl|rfl <;> first|(rw [n1] at he;omega)|(rw [n2] at he;omega)|(rw [n3] at he;omega)
   . rcases hxi with rfl|rfl|rfl <;> first|(rw [n1] at he;omega)|(rw [n2] at he;omega)|(rw [n3] at he;omega)
   . rcases hxi with rfl|rfl|rfl <;> first|(rw [n1] at he;omega)|(rw [n2] at he;omega)|(rw [n3] at he;omega)
   . have hil:i=l:=by
      rcases Nat.lt_trichotomy i l with q|q|q
      . have:=h.up i l q hl';rcases hxi with rfl|rfl|rfl <;> rcases hyl with rfl|rfl|rfl <;> (first|rw [n1] at he|rw [n2] at he|rw [n3] at he) <;> (first|rw [m1] at he|rw [m2] at he|rw [m3] at he) <;> omega
      . exact q
      . have:=h.up l i q hi;rcases hxi with rfl|rfl|rfl <;> rcases hyl with rfl|rfl|rfl <;> (first|rw [n1] at he|rw [n2] at he|rw [n3] at he) <;> (first|rw [m1] at he|rw [m2] at he|rw [m3] at he) <;> omega
     subst hil;have kk:=key i hi;rcases hxi with rfl|rfl|rfl <;> rcases hyl with rfl|rfl|rfl <;> (try rfl) <;> (first|rw [n1] at he|rw [n2] at he) <;> (first|rw [n2] at he|rw [n3] at he) <;> omega
 . have g1:=ht.hB;have g2:=ht.hQ;rcases oh hx with rfl|rfl|rfl|rfl | ⟨i,hi,hxi⟩
   . rw [e0];exact hz.1
   . rw [e1];exact g1
   . rw [e2];exact g2
   . rw [e3];omega
   . have q1:=h.iv i hi;obtain ⟨n1,n2,n3⟩:=pI D O Q BS bb tb tq i;rcases hxi with rfl|rfl|rfl
     . rw [n1];omega
     . rw [n2];omega
     . rw [n3];omega
theorem Fy {Q k:Nat} {T:ae} {E:Nat->Addr} (dp:Int) (hkd:(k=1/\dp<0/\d=0)\/(k=2/\dp=(d:Int)/\d<=15)) (hr:aN (gn:Int)=true) (ht:TN w O Q T E w0) :
 Calls Tryz.prog 53 #[.pointer (some ⟨O,0,none⟩),.int .i64 (gn:Int),.int .i64 dp] w λe w' => ∃ (a:Nat->Nat) (aT:Nat),e = .returned (.tuple #[.pointer (some ⟨a 0,0,none⟩),.nilIface])/\
  ni w' a (DuS.lg k d gn T) aT false E w0/\a 1=O/\a 2=Q/\(∀x,Used k false x->x≠1->x≠2->w.heap.size<=a x)/\Below w.heap.size w w':=by
 obtain ⟨i0,hi,hz0,hz1,hz2⟩:=info_parts adS;have hk:k=1\/(k=2/\d<=15):=by omega
 have hOz:=ht.Sg;have hQz:=ht.Sd;have hge:=ht.j3.size;have hmax:max dp 0=(d:Int):=by omega
 have h15:¬dp > 15:=by omega
 have d15:decide (dp > 15)=false:=decide_eq_false h15;have BN:=aa (λ(w':World)=>acf gn hr w');have HT:=aa ht;have HR:=aa hr;have HKK:=aa hk;obtain ⟨D,hD⟩:=dC w.heap.size;clear ht hr hk;go_enter Tryz.func53,Tryz.ntmps53
 go_upto_region 7 with (fail)
 refine bG (λw1 hw1=>?_);have N1:=aa (show He w1 D O d gn 0 (.slice none 0 0) (λ_=>0) (λ_=>0) (λ_=>0) (λ_=>0) (λ_=>0) from ⟨by rw [hw1,hD];exact af.new _ _ _,⟨rfl,.inl ⟨rfl,rfl⟩⟩,λi hi=>by omega,λi hi=>by omega,λi l _ hl=>by omega,λb hb=>by cases hb⟩);have B1:=aa (show Below w.heap.size w w1 by rw [hw1];go_grown);have hDw:w.heap.size<=D:=Nat.le_of_eq hD.symm;have hOD:O<D/\Q<D:=by omega
 rw [<-hD];replace hD:=aa hD;replace hw1:=aa hw1;clear hmax h15 d15
 go_loopw [9] (λv9 wr => ∃ (j:Nat) (vb:Value) (bb tb tq c e:Nat->Nat),j<=k/\v9 = .int .i64 (j:Int)/\He wr D O d gn j vb bb tb tq c e/\Below w.heap.size w wr) (λv9 _=>k-(intOf v9).toNat)
 case atStart=>exact ⟨0,_,_,_,_,_,_,o7 _,rfl,N1.out,B1.out⟩
 case round =>
  clear N1 B1;obtain ⟨j,vb,bb,tb,tq,c,e,hj,rfl,hN,hB⟩:=hrel;have KN:=aa hN;have KB:=aa hB;have hDr:=hN.hd.lt;have hwr:=hB.size;clear hN hB;by_cases hlt:j<k
  . have ai2:j=0\/(j=1/\(0:Int)<=dp):=by omega
    rcases ai2 with hj0 | ⟨hj1,hdp⟩
    . have e0:((j:Int) == 0)=true:=by simp;omega
      replace hj0:=aa hj0
      go_wp2_with (first
       | (go_at_call 105;(with_reducible refine (BN.out _).mono ?_);rintro e3 w3 ⟨nb,nt,nq,rfl,z1,z2,z3,hb3,JL⟩;have BW3:=aa hb3;have HB3:=aa JL;have N3:=aa (KN.out.later JL);have d3:=N3.out.hd.cell 2;have zd3:=N3.out.hd.lt;have fd3:=λj=>N3.out.hd.frozen j;have z4:=JL.size;clear hb3 JL)
       | (at_builtin;refine iW rfl _ _ 162 rfl (D+1) 166 i0 (.pointer none) 1 8 Tryz.underlying162 hi hz0 hz1 hz2 rfl (by decide) _ j _ rfl (aB N3.out.r ((aM _ _).alloc (aL _) _)) ⟨w3.heap.size,0,none⟩ 1 1 [.pointer (some ⟨nb,0,none⟩)] rfl rfl (nP w3 _ _) (by simp [Value.oneCell']) (by unfold maxLen;omega) (by omega) (by simp;omega) (by decide) ?_;intro v5 w5 hown5 aP ic;obtain ⟨g5,LV,rfl⟩:=ownsRow_succ hown5;have M5:=aa (KN.out.more (HB3.out.trans (((aM w3.heap.size w3).alloc (aL _) (.cells #[.pointer (some ⟨nb,0,none⟩)] 166)).mono z4)) (BW3.out.alloc _) ⟨z1,z2,z3⟩ (ah.fC aP) hown5 (by rcases ic with e|e;exact .inl e;exact .inr ⟨_,e,aL _⟩));have H5:=aa ((N3.out.hd.alloc _).aA (ah.fC aP) (λe=>by have:=(N3.out.r.lt D e).1;omega));have zd5:=H5.out.lt;have fd5:=λj=>H5.out.frozen j;have d5:=H5.out.cell 2;have zh5:=aP.size;have G5:=aa (ah.fC aP);clear hown5 aP ic))
      go_roundw
      case rel =>
       refine ⟨j+1,_,_,_,_,_,_,by omega,by go_num,M5.out,?_⟩;refine (KB.out.trans (HB3.out.mono KB.out.size)).trans ?_;have sS:=(KB.out.trans (HB3.out.mono KB.out.size)).size;refine (((aM w.heap.size w3).alloc sS _).trans (G5.out.below (n:=w.heap.size) (by simp;omega) (λb hb e=>by have:=(N3.out.r.lt b e).1;omega))).setCell (p:=⟨D,2,none⟩) (by show w.heap.size<=D;omega) _
      case measure=>simp [intOf];omega
    . have e0:((j:Int) == 0)=false:=by simp;omega
      have e1:((j:Int) == 1)=true:=by simp;omega
      have agu:dp>=0:=hdp;have hdd:decide (dp>=0)=true:=decide_eq_true hdp;replace hj1:=aa hj1
      go_wp2_with (first
       | (go_at_call 105;(with_reducible refine (BN.out _).mono ?_);rintro e3 w3 ⟨nb,nt,nq,rfl,z1,z2,z3,hb3,JL⟩;have BW3:=aa hb3;have HB3:=aa JL;have N3:=aa (KN.out.later JL);have d3:=N3.out.hd.cell 2;have zd3:=N3.out.hd.lt;have fd3:=λj=>N3.out.hd.frozen j;have z4:=JL.size;clear hb3 JL)
       | (at_builtin;refine iW rfl _ _ 162 rfl (D+1) 166 i0 (.pointer none) 1 8 Tryz.underlying162 hi hz0 hz1 hz2 rfl (by decide) _ j _ rfl (aB N3.out.r ((aM _ _).alloc (aL _) _)) ⟨w3.heap.size,0,none⟩ 1 1 [.pointer (some ⟨nb,0,none⟩)] rfl rfl (nP w3 _ _) (by simp [Value.oneCell']) (by unfold maxLen;omega) (by omega) (by simp;omega) (by decide) ?_;intro v5 w5 hown5 aP ic;obtain ⟨g5,LV,rfl⟩:=ownsRow_succ hown5;have M5:=aa (KN.out.more (HB3.out.trans (((aM w3.heap.size w3).alloc (aL _) (.cells #[.pointer (some ⟨nb,0,none⟩)] 166)).mono z4)) (BW3.out.alloc _) ⟨z1,z2,z3⟩ (ah.fC aP) hown5 (by rcases ic with e|e;exact .inl e;exact .inr ⟨_,e,aL _⟩));have H5:=aa ((N3.out.hd.alloc _).aA (ah.fC aP) (λe=>by have:=(N3.out.r.lt D e).1;omega));have zd5:=H5.out.lt;have fd5:=λj=>H5.out.frozen j;have d5:=H5.out.cell 2;have zh5:=aP.size;have G5:=aa (ah.fC aP);clear hown5 aP ic))
      go_roundw
      case rel =>
       refine ⟨j+1,_,_,_,_,_,_,by omega,by go_num,M5.out,?_⟩;refine (KB.out.trans (HB3.out.mono KB.out.size)).trans ?_;have sS:=(KB.out.trans (HB3.out.mono KB.out.size)).size;refine (((aM w.heap.size w3).alloc sS _).trans (G5.out.below (n:=w.heap.size) (by simp;omega) (λb hb e=>by have:=(N3.out.r.lt b e).1;omega))).setCell (p:=⟨D,2,none⟩) (by show w.heap.size<=D;omega) _
      case measure=>simp [intOf];omega
  . have hjk:j=k:=by omega
    subst hjk;have e0:((j:Int) == 0)=false:=by simp;omega
    obtain ⟨BS,sF,cur,hvb,hbg,hgB,hcell⟩:=jo KN.out.r (by omega);subst hvb;have hdone:=KN.out.done HKK.out HR.out (HT.out.later (KB.out.mono (aL _))) ⟨by omega,hOD.1,hOD.2⟩ hcell;have DD:=aa hdone
    have HUX:=aa (show ∀x,Used j false x->x≠1->x≠2->w.heap.size<=Di D O Q BS bb tb tq x from λx hx h1 h2=>by
     rcases oh hx with rfl|rfl|rfl|rfl | ⟨i,hi,hxi⟩
     . exact hDw
     . exact absurd rfl h1
     . exact absurd rfl h2
     . have:=(KN.out.r.lt BS rfl).1;show w.heap.size<=BS;omega
     . have q1:=KN.out.iv i hi;obtain ⟨n1,n2,n3⟩:=pI D O Q BS bb tb tq i;rcases hxi with rfl|rfl|rfl
       . rw [n1];omega
       . rw [n2];omega
       . rw [n3];omega)
    clear hdone hcell hgB;rcases hkd with ⟨q1,q2,q3⟩ | ⟨q1,q2,q3⟩
    . have e1:((j:Int) == 1)=true:=by simp;omega
      have agu:¬dp>=0:=by omega
      have anc:¬ (0:Int)<=dp:=by omega
      have hdd:decide (dp>=0)=false:=decide_eq_false agu;replace q1:=aa q1;replace q3:=aa q3;go_wp2;go_ret2
      first
       | exact ⟨Di D O Q BS bb tb tq,rfl,⟨sF,DD.out⟩,rfl,rfl,HUX.out,KB.out⟩
    . have e1:((j:Int) == 1)=false:=by simp;omega
      replace q1:=aa q1;replace q2:=aa q2;go_wp2;go_ret2
      first
       | exact ⟨Di D O Q BS bb tb tq,sF,rfl,DD.out,rfl,rfl,HUX.out,KB.out⟩
end
end Go.Proofs.YtolhmibejhldkaaGreatDoor
