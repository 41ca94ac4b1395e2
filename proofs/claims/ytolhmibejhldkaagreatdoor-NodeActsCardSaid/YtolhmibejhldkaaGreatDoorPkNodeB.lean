/- Joined texts; conditions within. -/
import Derived.Laws.OwnMore
import Derived.Deep.LoopGhost
import Derived.Test.YtolhmibejhldkaaGreatDoorPkNodeR
set_option linter.unusedVariables false
set_option linter.unusedSimpArgs false
set_option maxRecDepth 100000
set_option maxHeartbeats 8000000
namespace Go.Proofs.YtolhmibejhldkaaGreatDoor
open Go.RowKit Go.Proofs
theorem Rk (h p k:Nat) (hh:h<18446744073709551616) (hk:k<=16) (hp:p<2 ^ k) (w:World) :
 Calls Tryz.prog 9 #[.int .u64 (h:Int),.int .i64 (p:Int),.int .i64 (k:Int)] w λe w'=>e = .returned (.bool (decide (rR h k=p)))/\w=w':=by
 have ht:=aa (adl h k hh hk);have hpp:=ow (p:Int) (k:Int);rw [decide_eq_true (show Pre (p:Int) (k:Int) from ⟨by omega,by omega,by simp;exact_mod_cast hp⟩)] at hpp;have HPP:=aa hpp;have hd:decide (rR h k=p)=(((rR h k:Nat):Int) == (p:Int)):=by rw [Bool.eq_iff_iff];simp;omega
 rw [hd];generalize rR h k=t at *
 clear hd hpp hp hh;go_enter Tryz.func9,Tryz.ntmps9
 go_wp2_with (first
  | (go_at_call 38;refine (ht.out _).mono ?_;rintro e w' ⟨rfl,rfl⟩)
  | (go_at_call 39;refine (HPP.out _).mono ?_;rintro e w' ⟨rfl,rfl⟩))
 go_ret;exact ⟨rfl,rfl⟩
def ndP (H:Int->Nat) (p d:Nat) (P:Int->Bool) (q:Int):Bool:=P q && decide (rR (H q) d=p)
def ndV (H:Int->Nat) (p d:Nat) (P:Int->Bool) (v:Int->Int) (q:Int):ai:=if ndP H p d P q=true then ⟨q,v q,H q⟩ else ai.zero
def qn (n:Nat):Nat:=(3*n+7) / 8
section
variable {x:bH} {s:DuS} {H:Int->Nat} {P:Int->Bool} {v:Int->Int} {m1 m c:Int}
theorem rJ.congr {P P':Int->Bool} {V V':Int->ai} (h:rJ s H m c P V) (hP:∀q,P q=P' q) (hV:∀q,V q=V' q):rJ s H m c P' V' :=
 ⟨h.f,λq=>(h.p q).trans (hP q),λq=>(h.e q).trans (hV q),h.c,h.l1,h.l2,h.z⟩
theorem rJ.adD {V:Int->ai} (h:rJ s H m c P V) (q v:Int):(s.put q v (H q) true).T.lv+dX (s.put q v (H q) true).U (s.put q v (H q) true).k<=s.T.lv+dX s.U s.k+1:=by
 have hy:=h.f.ok.yk (H q)
 have u1:dX (upd s.U (s.y (H q)) ((s.U (s.y (H q))).aR q v (H q))) s.k<=dX s.U s.k+1:=by
  rw [Ca h.k12 hy];have:=Jt (T:=s.U (s.y (H q))) q v (H q);split at this <;> omega
 have t1:(s.T.aR q v (H q)).lv<=s.T.lv+1:=by
  rw [(h.f.t.j6 q v).1];split <;> omega
 unfold DuS.put;split
 . show s.T.lv+dX (upd s.U (s.y (H q)) _) s.k<=_;omega
 . split
   . show (s.T.aR q v (H q)).lv+dX s.U s.k<=_;omega
   . split
     . show s.T.lv+dX s.U s.k<=_;omega
     . split
       . show s.T.lv+dX (upd s.U (s.y (H q)) _) s.k<=_;omega
       . show (s.T.aR q v (H q)).lv+dX s.U s.k<=_;omega
theorem rJ.adr {V:Int->ai} (h:rJ s H m c P V) (sw:∀q,H q<18446744073709551616) (hm:m<=7*(s.gn:Int)):s.bX.T.lv+dX s.bX.U s.bX.k<=s.T.lv+dX s.U s.k:=by
 unfold DuS.bX;by_cases h0:s.bare=0
 . rw [if_pos h0];by_cases hn:s.nx<s.T.n
   . rw [if_pos hn];have h':rJ s H (s.T.lv+dX s.U s.k) c P V:=⟨h.f,h.p,h.e,h.c,Int.le_refl _,λhb=>by omega,h.z⟩
     exact (h'.move sw (Int.le_trans h.l1 hm) h0 hn).2.l1
   . rw [if_neg hn];exact Int.le_refl _
 . rw [if_neg h0];exact Int.le_refl _
structure NF (x:bH) (H:Int->Nat) (P:Int->Bool) (v:Int->Int) (m1 m:Int):Prop where
 l:∃c,rJ x.s H m c (ndP H x.p x.d P) (ndV H x.p x.d P v)
 l1:x.bz=true->x.s.T.lv+dX x.s.U x.s.k<=m1
 i:x.bz=false->x.s.gn=64/\0<x.s.bare
 u:x.bz=true->(x.Ey=1/\x.s.k=1/\x.s.gn=x.s.T.n)\/(x.Ey=2/\x.s.k=1/\x.s.gn=2*x.s.T.n)\/(x.Ey=3/\x.s.k=2/\x.s.d=x.d/\x.s.gn=x.s.T.n/\x.d<5/\8<=x.s.T.n)
 hd:x.d<=5/\(x.d=0\/8<=x.s.T.n)
def bH.tot (x:bH):Nat:=x.s.k*x.s.gn+x.s.T.n
def bH.m0 (x:bH):Int:=4*(x.s.T.n:Int)+((x.d*qn x.s.T.n:Nat):Int)
def bH.mj (x:bH):Int:=if x.Ey=1 then 2*(x.s.T.n:Int) else x.m0
def NA (x:bH) (H:Int->Nat) (P:Int->Bool) (v:Int->Int):Prop :=
 (x.bz=false/\NF x H P v 0 (x.m0-1))\/(x.bz=true/\∃j:Nat,NF x H P v (x.mj+j) (x.m0+j)/\0<x.s.left/\x.s.left+8*(j+1)<=x.tot)
def NO (x:bH) (H:Int->Nat) (P:Int->Bool) (v:Int->Int):Prop :=
 (x.bz=false/\NF x H P v 0 x.m0)\/(x.bz=true/\∃j:Nat,NF x H P v (x.mj+j) (x.m0+j)/\0<x.s.left/\x.s.left+8*j<=x.tot)
theorem adA (d n:Nat) (hd:d<=5):d*qn n<=5*qn n:=Nat.mul_le_mul_right _ hd
theorem afX (n:Nat):8*qn n<=3*n+7/\3*n<=8*qn n:=by unfold qn;omega
theorem NF.room {m':Int} (h:NF x H P v m1 m') {j:Nat} (hm:m'<=x.m0+j) (hj:8*j<3*x.s.T.n) (hi:x.bz=false->j=0):m'<7*(x.s.gn:Int)/\m'<7*(x.s.T.n:Int):=by
 obtain ⟨c,hl⟩:=h.l;have hb:=hl.f.t.good.bounds;have h1:=adA x.d x.s.T.n h.hd.1;have h2:=afX x.s.T.n
 have h3:m'<7*(x.s.T.n:Int):=by
  unfold bH.m0 at hm;rcases h.hd.2 with e|e
  . rw [e,Nat.zero_mul] at hm;omega
  . omega
 refine ⟨?_,h3⟩;cases hz:x.bz with
 | false=>rw [(h.i hz).1];omega
 | true=>rcases h.u hz with e|e|e <;> omega
end
section
variable {x:bH} {s:DuS} {H:Int->Nat} {P P':Int->Bool} {v v':Int->Int} {m1 m c:Int}
theorem afY (s:DuS) (q v:Int) (h:Nat) (more:Bool):(s.put q v h more).d=s.d:=by
 unfold DuS.put;split
 . rfl
 . split
   . rfl
   . split
     . rfl
     . split <;> rfl
def Gv (s s':DuS):Prop:=s'.k=s.k/\s'.d=s.d/\s'.gn=s.gn/\s'.T.n=s.T.n/\s'.bare=s.bare/\s'.nx=s.nx
theorem Gv.put (s:DuS) (q v:Int) (h:Nat) (more:Bool):Gv s (s.put q v h more):=by
 obtain ⟨a1,a2,a3⟩:=Uv s q v h more;obtain ⟨b1,b2⟩:=pF s q v h more;exact ⟨b1,afY s q v h more,a1,a2,b2,a3⟩
theorem Gv.nums {s':DuS} (h:Gv x.s s'):bH.tot { x with s:=s'}=x.tot/\bH.m0 { x with s:=s'}=x.m0/\bH.mj { x with s:=s'}=x.mj/\s'.left=x.s.left:=by
 obtain ⟨h1,h2,h3,h4,h5,h6⟩:=h;unfold bH.tot bH.mj bH.m0 DuS.left;simp only [h1,h3,h4,h5,h6];exact ⟨trivial,trivial,trivial,trivial⟩
theorem NF.same {s':DuS} {UT m':Int} (h:NF x H P v m1 m) (hs:Gv x.s s') (hl:∃c,rJ s' H m' c (ndP H x.p x.d P') (ndV H x.p x.d P' v')) (h1:s'.T.lv+dX s'.U s'.k<=x.s.T.lv+dX x.s.U x.s.k+1) (hm:m1+1<=UT):NF { x with s:=s'} H P' v' UT m':=by
 obtain ⟨e1,e2,e3,e4,e5,e6⟩:=hs;refine ⟨hl,λe=>?_,λe=>?_,λe=>?_,?_⟩
 . have:=h.l1 e;show s'.T.lv+dX s'.U s'.k<=UT
   omega
 . have:=h.i e;show s'.gn=64/\0<s'.bare
   rw [e3,e5];exact this
 . have:=h.u e;show (x.Ey=1/\s'.k=1/\s'.gn=s'.T.n)\/(x.Ey=2/\s'.k=1/\s'.gn=2*s'.T.n)\/(x.Ey=3/\s'.k=2/\s'.d=x.d/\s'.gn=s'.T.n/\x.d<5/\8<=s'.T.n)
   rw [e1,e2,e3,e4];exact this
 . have:=h.hd;show x.d<=5/\(x.d=0\/8<=s'.T.n)
   rw [e4];exact this
theorem NF.put {UT m':Int} (h:NF x H P v m1 m) (hm:m<7*(x.s.gn:Int)/\m<7*(x.s.T.n:Int)) (sw:∀q,H q<18446744073709551616) (q val:Int) (hq:rR (H q) x.d=x.p) (h1:m1+1<=UT) (h2:m+1<=m') :
 x.s.bB q (H q) true = !P q/\x.s.bN q (H q) true=0/\NF { x with s:=x.s.put q val (H q) true} H (Ny P q true) (λq'=>if q'=q then val else v q') UT m':=by
 obtain ⟨c,hl⟩:=h.l;have hk:TH x.s H x.s.T.n x.s.gn m c (ndP H x.p x.d P) (ndV H x.p x.d P v):=⟨hl,rfl,rfl⟩
 have hok:=hk.okm hm.1 hm.2 q;have hb:=hl.f.abh q;rw [hok,hl.p q,if_pos rfl,Bool.and_true] at hb;have hpq:ndP H x.p x.d P q=P q:=by unfold ndP;rw [decide_eq_true hq,Bool.and_true]
 rw [hpq] at hb;refine ⟨hb.1,hb.2,h.same (Gv.put _ _ _ _ _) ⟨_,((hk.put hm.1 hm.2 q val (sw q)).l.congr (λq'=>?_) (λq'=>?_)).more h2⟩ (hl.adD q val) h1⟩
 . unfold Ny ndP;by_cases e:q'=q
   . subst e;simp [hq]
   . simp [e]
 . unfold abg ndV ndP Ny;by_cases e:q'=q
   . subst e;simp [hq]
   . simp [e]
theorem NF.more {UT m':Int} (h:NF x H P v m1 m) (h1:m1<=UT) (h2:m<=m'):NF x H P v UT m':=by
 obtain ⟨c,hl⟩:=h.l;exact ⟨⟨c,hl.more h2⟩,λe=>Int.le_trans (h.l1 e) h1,h.i,h.u,h.hd⟩
theorem NF.afS (h:NF x H P v m1 m) (hz:x.bz=true):x.tot<=3*x.s.T.n:=by
 unfold bH.tot;rcases h.u hz with ⟨-,e1,e2⟩ | ⟨-,e1,e2⟩ | ⟨-,e1,-,e2,-,-⟩ <;> rw [e1,e2] <;> omega
theorem NA.put (h:NA x H P v) (sw:∀q,H q<18446744073709551616) (q val:Int) (hq:rR (H q) x.d=x.p) :
 x.s.bB q (H q) true = !P q/\x.s.bN q (H q) true=0/\NO { x with s:=x.s.put q val (H q) true} H (Ny P q true) (λq'=>if q'=q then val else v q'):=by
 obtain ⟨n1,n2,n3,n4⟩:=(Gv.put x.s q val (H q) true).nums (x:=x);rcases h with ⟨hz,h2⟩ | ⟨hz,j,h2,h3,h4⟩
 . obtain ⟨c,hl⟩:=h2.l;have hb:=hl.f.t.good.bounds;obtain ⟨a1,a2,a3⟩:=h2.put (UT:=1) (m':=x.m0) (h2.room (j:=0) (by omega) (by omega) (λ_=>rfl)) sw q val hq (by omega) (by omega);refine ⟨a1,a2,.inl ⟨hz,?_⟩⟩;rw [n2];exact ⟨a3.l,λe=>(by rw [show x.bz=true from e] at hz;cases hz),a3.i,a3.u,a3.hd⟩
 . have ht:=h2.afS hz;obtain ⟨a1,a2,a3⟩:=h2.put (UT:=x.mj+((j+1:Nat):Int)) (m':=x.m0+((j+1:Nat):Int)) (h2.room (j:=j) (by omega) (by omega) (λe=>(by rw [hz] at e;cases e))) sw q val hq (by omega) (by omega);refine ⟨a1,a2,.inr ⟨hz,j+1,?_,?_,?_⟩⟩
   . rw [n2,n3];exact a3
   . show 0<(x.s.put q val (H q) true).left;rw [n4];exact h3
   . show (x.s.put q val (H q) true).left+8*(j+1)<=_;rw [n4,n1];exact h4
end
section
variable {x:bH} {s:DuS} {H:Int->Nat} {P P':Int->Bool} {v v':Int->Int} {m1 m c:Int}
def NG (k:Nat) (x:bH) (H:Int->Nat) (P:Int->Bool) (v:Int->Int):Prop :=
 (x.bz=false/\NF x H P v 0 (x.m0-1))\/(x.bz=true/\∃j:Nat,NF x H P v (x.mj+j) (x.m0+j)/\8*j<x.tot/\(x.s.left=0\/x.s.left+8*j+k<=x.tot))
theorem NG.bX {k:Nat} (h:NG k x H P v) (sw:∀q,H q<18446744073709551616):(x.bz=true->x.s.sH)/\NG (k+1) x.bX H P v:=by
 unfold bH.bX;rcases h with ⟨hz,h⟩ | ⟨hz,j,h,hj,h3⟩
 . rw [if_neg (by rw [hz];decide)];exact ⟨λe=>(by rw [hz] at e;cases e),.inl ⟨hz,h⟩⟩
 . rw [if_pos hz];obtain ⟨c,hl⟩:=h.l;have hb:=hl.f.t.good.bounds;have ht:=h.afS hz;have hr:=h.room (j:=j) (by omega) (by omega) (λe=>(by rw [hz] at e;cases e));have hk:TH x.s H x.s.T.n x.s.gn (x.m0+j) c (ndP H x.p x.d P) (ndV H x.p x.d P v):=⟨hl,rfl,rfl⟩
   obtain ⟨s1,s2,s3⟩:=hk.bX sw (by omega);have hl1:=hl.adr sw (by omega)
   have hkd:x.s.bX.k=x.s.k/\x.s.bX.d=x.s.d:=by
    unfold DuS.bX;split
    . split <;> exact ⟨rfl,rfl⟩
    . exact ⟨rfl,rfl⟩
   obtain ⟨e1,e2⟩:=hkd;obtain ⟨e3,e4⟩:=s2.n;have n1:bH.tot { x with s:=x.s.bX}=x.tot:=by unfold bH.tot;simp only [e1,e3,e4]
   have n2:bH.m0 { x with s:=x.s.bX}=x.m0:=by unfold bH.m0;simp only [e4]
   have n3:bH.mj { x with s:=x.s.bX}=x.mj:=by unfold bH.mj bH.m0;simp only [e4]
   refine ⟨λ_=>s1,.inr ⟨hz,j,⟨⟨c,by rw [n2];exact s2.l⟩,λ_=>?_,λe=>?_,λ_=>?_,?_⟩,by rw [n1];exact hj,?_⟩⟩
   . rw [n3];have:=h.l1 hz;show x.s.bX.T.lv+dX x.s.bX.U x.s.bX.k<=_
     omega
   . exact absurd (show x.bz=false from e) (by rw [hz];decide)
   . have:=h.u hz;show (x.Ey=1/\x.s.bX.k=1/\x.s.bX.gn=x.s.bX.T.n)\/(x.Ey=2/\x.s.bX.k=1/\x.s.bX.gn=2*x.s.bX.T.n)\/(x.Ey=3/\x.s.bX.k=2/\x.s.bX.d=x.d/\x.s.bX.gn=x.s.bX.T.n/\x.d<5/\8<=x.s.bX.T.n)
     rw [e1,e2,e3,e4];exact this
   . have:=h.hd;show x.d<=5/\(x.d=0\/8<=x.s.bX.T.n)
     rw [e4];exact this
   . show x.s.bX.left=0\/x.s.bX.left+8*j+(k+1)<=_
     rw [n1,s3];omega
end
section
variable {x:bH} {s:DuS} {H:Int->Nat} {P P':Int->Bool} {v v':Int->Int} {m1 m c:Int}
end
def Gw (Nb:Nat) (a:Nat->Nat) (x:bH) (b:Nat):Prop:=b=Nb\/NX a x b
structure NZ (w:World) (N:Nat) (Nb:Nat->Nat) (a:Nat->Nat->Nat) (xs:Nat->bH) (M:Nat) (mt:aG) (K:Nat->Prop) (E:Nat->Addr) (w0:World):Prop where
 v:∀i,i<N->ND w (Nb i) (a i) (xs i) E w0
 m:af w M 37 mt.cells
 ml:mt.limited=false
 mz:w0.heap.size<=M/\¬K M
 am:∀i,i<N->∀b,Gw (Nb i) (a i) (xs i) b->b≠M/\¬K b
 ap:∀i j,i<N->j<N->i≠j->∀b,Gw (Nb i) (a i) (xs i) b->¬Gw (Nb j) (a j) (xs j) b
 kz:∀b,K b->b<w.heap.size
 hb:Below w0.heap.size w0 w
section
variable {w w' w0:World} {N N' i:Nat} {Nb Nb':Nat->Nat} {a a':Nat->Nat->Nat} {xs xs':Nat->bH} {M:Nat} {mt jX:aG} {K K':Nat->Prop} {E:Nat->Addr}
theorem ND.bx {b Nb1:Nat} {a1:Nat->Nat} {x:bH} (h:ND w Nb1 a1 x E w0) (hb:Gw Nb1 a1 x b):b<w.heap.size/\w0.heap.size<=b:=by
 rcases hb with e|e
 . rw [e];exact ⟨h.b.lt,h.n.1⟩
 . exact ⟨NX.lt h b e,NX.ge h b e⟩
theorem NZ.later (h:NZ w N Nb a xs M mt K E w0) (hb:Below w.heap.size w w'):NZ w' N Nb a xs M mt K E w0 :=
 ⟨λi hi=>(h.v i hi).later hb,h.m.below hb h.m.lt,h.ml,h.mz,h.am,h.ap,λb hK=>bM (h.kz b hK) hb.size,h.hb.trans (hb.mono h.hb.size)⟩
theorem NZ.lens (h:NZ w N Nb a xs M mt K E w0) (hi:i<N):kQ (some M) (a i) (xs i) (Nb i) w0.heap.size:=λb e=>by
 cases e
 exact ⟨h.mz.1,λe=>(h.am i hi _ (.inr e)).1 rfl,λe=>(h.am i hi M (.inl e)).1 rfl⟩
theorem NZ.re (h:NZ w N Nb a xs M mt K E w0) (hi:i<N) (hc:ah (λb=>b=M\/Gw (Nb i) (a i) (xs i) b) w w') (hm:af w' M 37 jX.cells) (hl:jX.limited=false)
 (ho:∀j,j<N'->j<N/\j≠i->Nb' j=Nb j/\a' j=a j/\xs' j=xs j)
 (hn:∀j,j<N'->¬ (j<N/\j≠i)->ND w' (Nb' j) (a' j) (xs' j) E w0/\∀b,Gw (Nb' j) (a' j) (xs' j) b->Gw (Nb i) (a i) (xs i) b\/w.heap.size<=b)
 (hp:∀j j2,j<N'->j2<N'->j≠j2->¬ (j<N/\j≠i)->¬ (j2<N/\j2≠i)->∀b,Gw (Nb' j) (a' j) (xs' j) b->¬Gw (Nb' j2) (a' j2) (xs' j2) b) :
 NZ w' N' Nb' a' xs' M jX K E w0/\ah (KC K w0.heap.size) w w':=by
 have hY0:∀b,b=M\/Gw (Nb i) (a i) (xs i) b->w0.heap.size<=b:=λb e=>by
  rcases e with e|e
  . rw [e];exact h.mz.1
  . exact ((h.v i hi).bx e).2
 have hv2:=λj (hj:j<N/\j≠i)=>(h.v j hj.1).aA hc hY0 (λe=>by
  rcases e with e|e
  . exact (h.am j hj.1 _ (.inl rfl)).1 e
  . exact h.ap j i hj.1 hi hj.2 _ (.inl rfl) e) (λb hx e=>by
  rcases e with e|e
  . exact (h.am j hj.1 _ (.inr hx)).1 e
  . exact h.ap j i hj.1 hi hj.2 _ (.inr hx) e)
 have ags:∀j,j<N'->¬ (j<N/\j≠i)->∀b,Gw (Nb' j) (a' j) (xs' j) b->∀j2,j2<N/\j2≠i->¬Gw (Nb j2) (a j2) (xs j2) b:=λj hj hjn b hb j2 hj2 e=>by
  rcases (hn j hj hjn).2 b hb with f|f
  . exact h.ap j2 i hj2.1 hi hj2.2 b e f
  . have:=((h.v j2 hj2.1).bx e).1;omega
 refine ⟨⟨λj hj=>?_,hm,hl,h.mz,λj hj b hb=>?_,λj j2 hj hj2 hne b hb=>?_,λb hK=>bM (h.kz b hK) hc.size,h.hb.trans (hc.below h.hb.size (λk hk e=>by have:=hY0 k e;omega))⟩,hc.mono (λb _ e=>⟨hY0 b e,λhK=>?_⟩)⟩
 . by_cases c:j<N/\j≠i
   . obtain ⟨e1,e2,e3⟩:=ho j hj c;rw [e1,e2,e3];exact hv2 j c
   . exact (hn j hj c).1
 . by_cases c:j<N/\j≠i
   . obtain ⟨e1,e2,e3⟩:=ho j hj c;rw [e1,e2,e3] at hb;exact h.am j c.1 b hb
   . rcases (hn j hj c).2 b hb with f|f
     . exact h.am i hi b f
     . exact ⟨λe2=>by have:=h.m.lt;omega,λhK=>by have:=h.kz b hK;omega⟩
 . by_cases c:j<N/\j≠i
   . obtain ⟨e1,e2,e3⟩:=ho j hj c;rw [e1,e2,e3] at hb;by_cases c2:j2<N/\j2≠i
     . obtain ⟨f1,f2,f3⟩:=ho j2 hj2 c2;rw [f1,f2,f3];exact h.ap j j2 c.1 c2.1 hne b hb
     . exact λe=>ags j2 hj2 c2 b e j c hb
   . by_cases c2:j2<N/\j2≠i
     . obtain ⟨f1,f2,f3⟩:=ho j2 hj2 c2;rw [f1,f2,f3];exact ags j hj c b hb j2 c2
     . exact hp j j2 hj hj2 hne c c2 b hb
 . rcases e with e|e
   . rw [e] at hK;exact h.mz.2 hK
   . exact (h.am i hi b e).2 hK
theorem NZ.turn {a1:Nat->Nat} {x1:bH} (h:NZ w N Nb a xs M mt K E w0) (hi:i<N) (hv:ND w' (Nb i) a1 x1 E w0) (hm:af w' M 37 jX.cells) (hl:jX.limited=false) (hX:∀b,NX a1 x1 b->NX (a i) (xs i) b\/w.heap.size<=b) (hc:ah (λb=>b=M\/Gw (Nb i) (a i) (xs i) b) w w') :
 NZ w' N Nb (upd a i a1) (upd xs i x1) M jX K E w0/\ah (KC K w0.heap.size) w w':=by
 have hji:∀j,j<N->¬ (j<N/\j≠i)->j=i:=λj hj c=>by
  by_cases e:j=i
  . exact e
  . exact absurd ⟨hj,e⟩ c
 refine h.re hi hc hm hl (λj _ c=>⟨rfl,ay _ _ c.2,ay _ _ c.2⟩) (λj hj c=>?_) (λj j2 hj hj2 hne c c2=>absurd ((hji j hj c).trans (hji j2 hj2 c2).symm) hne);obtain rfl:=hji j hj c;rw [upd_same,upd_same];refine ⟨hv,λb hb=>?_⟩;rcases hb with e|e
 . exact .inl (.inl e)
 . rcases hX b e with f|f
   . exact .inl (.inr f)
   . exact .inr f
end
attribute [local go_sem] neq_nilG eql_nilG
def amS:Nat->DuS
 | 0=>DuS.lg 1 0 64 (ae.new 1)
 | k+1=>(amS k).put k 0 (k*1152921504606846976) true
def MX (k:Nat):bH:=⟨0,0,0,false,amS k⟩
def nD:bH:=(MX 4).Gy 2
theorem aaD:∀k,k<4->(amS k).bB k (k*1152921504606846976) true=true/\(amS k).bN k (k*1152921504606846976) true=0:=by decide +kernel
theorem ajK:(MX 4).wants 0=2/\(MX 4).dbl 0=false/\fK 2 ((MX 4).s.T.n:Int)=0:=by decide +kernel
theorem ajL:nD.s.left=3/\nD.bX.s.left=2/\nD.bX.bX.s.left=1/\nD.bX.bX.bX.s.left=0/\nD.bX.bX.bX.s.k=1/\(nD.bX.bX.bX.s.U 0).n=2/\(nD.bX.bX.bX.s.U 0).lv=4/\nD.s.bare=2/\nD.bX.s.bare=1/\nD.bz=true/\nD.bX.bz=true/\nD.bX.bX.bz=true/\nD.bX.bX.bX.bz=true:=by decide +kernel
theorem ajM:nD.bX.bX.s.sH:=by
 have h:nH nD.bX.bX.s.k nD.bX.bX.s.d (aS (nD.bX.bX.s.T.M nD.bX.bX.s.nx) (nD.bX.bX.s.T.S nD.bX.bX.s.nx)) nD.bX.bX.s.U:=by unfold nH;decide +kernel
 exact λ_ _=>h
section
variable {w w' w0:World} {D M:Nat} {a a':Nat->Nat} {x x':bH} {jX:aG} {E:Nat->Addr}
def mY (w:World) (D:Nat) (x:bH) (M:Nat) (E:Nat->Addr) (w0:World):Prop := ∃ (a:Nat->Nat) (mt:aG),ND w D a x E w0/\af w M 37 mt.cells/\mt.limited=false/\w0.heap.size<=M/\∀b,Gw D a x b->b≠M
theorem mY.lens (h0:w0.heap.size<=M) (ha:∀b,Gw D a x b->b≠M):kQ (some M) a x D w0.heap.size:=λb e=>by
 cases e
 exact ⟨h0,λf=>ha M (.inr f) rfl,λf=>ha M (.inl f) rfl⟩
theorem mY.turn (hv:ND w' D a' x' E w0) (hm:af w' M 37 jX.cells) (hl:jX.limited=false) (h0:w0.heap.size<=M) (ha:∀b,Gw D a x b->b≠M) (hM:M<w.heap.size) (hX:∀b,NX a' x' b->NX a x b\/w.heap.size<=b):mY w' D x' M E w0:=by
 refine ⟨a',_,hv,hm,hl,h0,λb e=>?_⟩;rcases e with e|e
 . exact ha b (.inl e)
 . rcases hX b e with f|f
   . exact ha b (.inr f)
   . omega
theorem mY.mk {w1:World} (hv:ND w1 D a x E w0):mY (w1.alloc (.cells aG.zero.cells 37)) D x w1.heap.size E w0 :=
 ⟨a,aG.zero,hv.later ((aM _ _).alloc (aL _) _),af.new _ _ _,rfl,hv.j3.size,λb e=>Nat.ne_of_lt (hv.bx e).1⟩
theorem mY.later (h:mY w D x M E w0) (hb:Below w.heap.size w w'):mY w' D x M E w0:=by
 obtain ⟨a,mt,h1,h2,h3⟩:=h;exact ⟨a,mt,h1.later hb,h2.below hb h2.lt,h3⟩
theorem mY.j3 (h:mY w D x M E w0):Below w0.heap.size w0 w:=by obtain ⟨a,mt,h1,-⟩:=h;exact h1.j3
theorem mY.put (h:mY w D x M E w0) (key v:Int) (hh:Nat) (hb:hh<18446744073709551616) (more:Bool) (x1 y1 z1:Int) :
 Calls Tryz.prog 12 #[.pointer (some ⟨D,0,none⟩),.agg #[.pointer (some ⟨M,0,none⟩),.int .i64 x1,.int .i64 y1,.int .i64 z1],.agg #[.int .u64 key,.int .u64 v,.int .u64 (hh:Int)],.bool more] w λe w' =>
  e = .returned (.tuple #[.bool (x.s.bB key hh more),jF E (x.s.bN key hh more)])/\mY w' D { x with s:=x.s.put key v hh more} M E w0:=by
 obtain ⟨a,mt,h1,h2,h3,h4,h5⟩:=h;refine (h1.put (lp:=some M) (mt:=mt) (λb e=>by cases e;exact h2) (mY.lens h4 h5) key v hh hb more _ (.inr ⟨M,rfl,rfl⟩) x1 y1 z1).mono ?_;rintro e w' ⟨e1,hv,⟨n,hl⟩,hc⟩
 exact ⟨e1,mY.turn hv (hl M rfl) ((eZ _ _ _ _ _).trans h3) h4 h5 h2.lt (λb e => .inl (by
  rcases e with ⟨f1,f2⟩|e
  . exact .inl ⟨f1,(oN (pF x.s key v hh more) b).1 f2⟩
  . exact .inr e))⟩
theorem mY.step (h:mY w D x M E w0) (hev:x.bz=true->x.s.sH) :
 Calls Tryz.prog 15 #[.pointer (some ⟨D,0,none⟩),.pointer (some ⟨M,0,none⟩)] w λe w'=>e = .returned (.bool (x.bz && decide (0<x.s.left)))/\mY w' D x.bX M E w0:=by
 obtain ⟨a,mt,h1,h2,h3,h4,h5⟩:=h;refine (h1.step h2 h3 (mY.lens h4 h5) hev).mono ?_;rintro e w' ⟨a',jX,e1,hv,hm,hl,hX,hc⟩
 exact ⟨e1,mY.turn hv hm hl h4 h5 h2.lt hX⟩
theorem mY.qy (h:mY w D x M E w0) (hz:x.bz=false) (kind:Int) (hbad:fK kind (x.s.T.n:Int)=0) (hd:kind=3->x.d<5) :
 Calls Tryz.prog 14 #[.pointer (some ⟨D,0,none⟩),.int .i64 kind] w λe w'=>e = .returned .nilIface/\mY w' D (x.Gy kind) M E w0:=by
 obtain ⟨a,mt,h1,h2,h3,h4,h5⟩:=h;refine (h1.qy hz kind hbad hd).mono ?_;rintro e w' ⟨a',e1,hv,hX,hc⟩
 exact ⟨e1,mY.turn hv (h2.aA hc (λe=>h5 M (.inl e) rfl)) h3 h4 h5 h2.lt hX⟩
theorem mY.p8 (h:mY w D x M E w0) (hz:x.bz=true) (hn:x.s.left=0) (hk:x.s.k=1) :
 Calls Tryz.prog 17 #[.pointer (some ⟨D,0,none⟩)] w λe w'=>e = .returned (.tuple #[.pointer none,.nilIface])/\mY w' D (bH.idle x.p x.d (x.s.U 0)) M E w0:=by
 obtain ⟨a,mt,h1,h2,h3,h4,h5⟩:=h;refine (h1.p8 hz hn hk).mono ?_;rintro e w' ⟨e1,hv,hc⟩
 exact ⟨e1,mY.turn hv (h2.aA hc (λe=>by
  rcases e with e|e
  . exact h5 M (.inl e) rfl
  . exact h5 M (.inr (e▸ .inl ⟨hz,0,.fH (by decide),rfl⟩)) rfl)) h3 h4 h5 h2.lt (λb e => .inl (qb hz (by omega) b e))⟩
end
theorem BB (E:Nat->Addr) (w:World) (he:EC w E [1,2,4,5,14,16]) (hT:iB w) :
 Calls Tryz.prog 5 #[] w λe w'=>e = .returned (.bool true)/\Below w.heap.size w w':=by
 have NW:=aa (Ej (w:=w) (w0:=w) 0 0 (by decide) (by decide) he hT (aM _ _));simp only [show ((0:Nat):Int)=0 from rfl] at NW;clear he hT;go_enter Tryz.func5,Tryz.ntmps5
 go_wp2_with (go_at_call 6;(with_reducible refine NW.out.mono ?_);rintro e w1 ⟨D,a,rfl,hD,hv,hX,hb1⟩;have V1:=aa hv;have B1:=aa hb1;clear hv hX hb1)
 have S3:=aa (mY.mk V1.out);simp only [aG.cells,aG.zero] at S3;obtain ⟨M,hM⟩:=dC w1.heap.size;simp only [<-hM] at S3 ⊢;clear hM V1 B1 NW;have S4:=aa (show mY _ D (MX 0) M E w from S3.out);clear S3
 go_loopw [22] (λv22 wr => ∃k:Nat,k<=4/\v22 = .int .u64 (k:Int)/\mY wr D (MX k) M E w) (λv22 _=>4-(intOf v22).toNat)
 case atStart=>exact ⟨0,by omega,rfl,S4.out⟩
 case round =>
  clear S4;obtain ⟨k,hk,rfl,hS⟩:=hrel;have KS:=aa hS;clear hS;by_cases hlt:k<4
  . have kJ:(k:Int)<4:=by omega
    have PU:=aa (λ(W:World) (h':mY W D (MX k) M E w)=>h'.put (k:Int) 0 (k*1152921504606846976) (by omega) true 1 0 0);have e1:(MX k).s.bB (k:Int) (k*1152921504606846976) true=true:=(aaD k hlt).1;have e2:(MX k).s.bN (k:Int) (k*1152921504606846976) true=0:=(aaD k hlt).2;rw [e1,e2,fG] at PU
    have hq:IntKind.u64.wrap ((k:Int)*2 ^ 60)=((k*1152921504606846976:Nat):Int):=by
     rw [show ((k:Int)*2 ^ 60)=((k*1152921504606846976:Nat):Int) by simp];exact IntWalk.u64_in _ (by omega)
    have hq2:IntKind.u64.wrap ((k:Int)*1152921504606846976)=((k*1152921504606846976:Nat):Int):=by
     rw [<-hq];rfl
    have HN:=aa (λ(W:World) (h':mY W D { MX k with s:=(MX k).s.put (k:Int) 0 (k*1152921504606846976) true} M E w)=>(show mY W D (MX (k+1)) M E w from h'));clear e1 e2;generalize k*1152921504606846976=hh at *
    go_wp2_with (first|(go_at_call 11;(with_reducible refine (fT _ _).mono ?_);rintro e w2 ⟨rfl,hb2⟩;have KS2:=aa (KS.out.later hb2))|(go_at_call 12;(with_reducible refine (PU.out _ KS2.out).mono ?_);rintro e w3 ⟨rfl,hs3⟩;have KS3:=aa (HN.out _ hs3);clear hs3))
    go_roundw
    case measure=>simp [intOf];omega
    case rel=>exact ⟨k+1,by omega,by go_num,KS3.out⟩
  . obtain rfl:k=4:=by omega
    obtain ⟨w1,w2,w3⟩:=ajK;obtain ⟨l1,l2,l3,l4,l5,l6,l7,l8,l9,z1,z2,z3,z4⟩:=ajL;have WN:=aa ((show ∃ (a:Nat->Nat) (mt:aG),_ from KS.out).elim λa h=>h.elim λmt h=>h.1.rQ 0);rw [w1,w2] at WN;have ST:=aa (λ(W:World) (h':mY W D (MX 4) M E w)=>h'.qy rfl 2 w3 (λe=>by cases e));have T1:=aa (λ(W:World) (h':mY W D nD M E w)=>h'.step (λ_ h0=>by omega));rw [z1,l1] at T1;have T2:=aa (λ(W:World) (h':mY W D nD.bX M E w)=>h'.step (λ_ h0=>by omega));rw [z2,l2] at T2;have T3:=aa (λ(W:World) (h':mY W D nD.bX.bX M E w)=>h'.step (λ_=>ajM));rw [z3,l3] at T3;have DN:=aa (λ(W:World) (h':mY W D nD.bX.bX.bX M E w)=>(show ∃ (a:Nat->Nat) (mt:aG),_ from h').elim λa h=>h.elim λmt h=>h.1.Ml);rw [z4,l4] at DN;have EN:=aa (λ(W:World) (h':mY W D nD.bX.bX.bX M E w)=>h'.p8 z4 l4 l5);have GR:=aa (λ(W:World) (h':mY W D (bH.idle nD.bX.bX.bX.p nD.bX.bX.bX.d (nD.bX.bX.bX.s.U 0)) M E w)=>(show ∃ (a:Nat->Nat) (mt:aG),_ from h').elim λa h=>h.elim λmt h=>h.1.abV rfl);have LE:=aa (λ(W:World) (h':mY W D (bH.idle nD.bX.bX.bX.p nD.bX.bX.bX.d (nD.bX.bX.bX.s.U 0)) M E w)=>(show ∃ (a:Nat->Nat) (mt:aG),_ from h').elim λa h=>h.elim λmt h=>h.1.aiE rfl);rw [show (bH.idle nD.bX.bX.bX.p nD.bX.bX.bX.d (nD.bX.bX.bX.s.U 0)).s.T.n=2 from l6] at GR;rw [show (bH.idle nD.bX.bX.bX.p nD.bX.bX.bX.d (nD.bX.bX.bX.s.U 0)).s.T.lv=4 from l7] at LE;simp only [show ((2:Nat):Int)=2 from rfl] at GR;have HJ:=aa (λ(W:World) (h':mY W D ((MX 4).Gy 2) M E w)=>(show mY W D nD M E w from h'));clear w1 w2 w3 l1 l2 l3 l4 l5 l6 l7 l8 l9 z1 z2 z3 z4;generalize nD.bX.bX.bX=y3 at *
    generalize nD.bX.bX=y2 at *
    generalize nD.bX=y1 at *
    generalize (MX 4).Gy 2=y0' at *
    generalize nD=y0 at *
    generalize bH.idle y3.p y3.d (y3.s.U 0)=y4 at *
    generalize MX 4=x4 at *
    go_wp2_with (first
     | (go_at_call 13;(with_reducible refine WN.out.mono ?_);rintro e w2 ⟨rfl,hb2⟩;have R2:=aa (KS.out.later hb2);clear hb2)
     | (go_at_call 14;(with_reducible refine (ST.out _ R2.out).mono ?_);rintro e w3 ⟨rfl,hs3⟩;have R3:=aa (HJ.out _ hs3);clear hs3)
     | (go_at_call 15;(with_reducible refine (T1.out _ R3.out).mono ?_);rintro e w4 ⟨rfl,hs4⟩;have R4:=aa hs4;clear hs4 T1)
     | (go_at_call 15;(with_reducible refine (T2.out _ R4.out).mono ?_);rintro e w5 ⟨rfl,hs5⟩;have R5:=aa hs5;clear hs5 T2)
     | (go_at_call 15;(with_reducible refine (T3.out _ R5.out).mono ?_);rintro e w6 ⟨rfl,hs6⟩;have R6:=aa hs6;clear hs6 T3)
     | (go_at_call 16;(with_reducible refine (DN.out _ R6.out).mono ?_);rintro e w7 ⟨rfl,NY⟩;have R7:=aa (R6.out.later NY);clear NY)
     | (go_at_call 17;(with_reducible refine (EN.out _ R7.out).mono ?_);rintro e w8 ⟨rfl,hs8⟩;have R8:=aa hs8;clear hs8)
     | (go_at_call 34;(with_reducible refine (GR.out _ R8.out).mono ?_);rintro e w9 ⟨rfl,rfl⟩)
     | (go_at_call 35;(with_reducible refine (LE.out _ R8.out).mono ?_);rintro e w9 ⟨rfl,rfl⟩))
    go_ret;exact ⟨rfl,R8.out.j3⟩
structure NAx (w:World) (D:Nat) (a:Nat->Nat) (M:Nat) (mt:aG) (R B7 B8:Nat) (xn xm:bH) (L Z:Nat->Prop) (m:Int) (E:Nat->Addr) (w0:World):Prop where
 v:ND w D a xn E w0
 mb:af w M 37 mt.cells
 ml:mt.limited=false
 r:iw w R xm m Z
 b7:af w B7 25 #[.pointer (some ⟨D,0,none⟩)]
 b8:af w B8 33 #[.pointer (some ⟨M,0,none⟩)]
 am:∀b,Gw D a xn b->b≠M/\¬L b/\¬Z b
 mz:w0.heap.size<=M/\¬L M/\¬Z M
 lz:∀b,L b->b<w.heap.size
 zz:∀b,Z b->w0.heap.size<=b/\¬L b
 l:L B7/\L B8
def cz (w:World) (D M R B7 B8:Nat) (xn xm:bH) (L:Nat->Prop) (m:Int) (E:Nat->Addr) (w0:World):Prop := ∃a mt Z,NAx w D a M mt R B7 B8 xn xm L Z m E w0
def KL (L:Nat->Prop) (P:Nat) (b:Nat):Prop:=L b\/b=P
section
variable {w w' w0:World} {D M R B7 B8:Nat} {a a':Nat->Nat} {mt jX:aG} {xn xm xn' xm':bH} {L L' Z Z':Nat->Prop} {m m':Int} {E:Nat->Addr}
theorem NAx.bx (h:NAx w D a M mt R B7 B8 xn xm L Z m E w0) {b:Nat} (hb:Gw D a xn b):b<w.heap.size/\w0.heap.size<=b:=h.v.bx hb
theorem NAx.lens (h:NAx w D a M mt R B7 B8 xn xm L Z m E w0):kQ (some M) a xn D w0.heap.size:=λb e=>by
 cases e
 exact ⟨h.mz.1,λf=>(h.am M (.inr f)).1 rfl,λf=>(h.am M (.inl f)).1 rfl⟩
theorem NAx.lw (h:NAx w D a M mt R B7 B8 xn xm L Z m E w0):LW w (some M) mt:=λb e=>by cases e;exact h.mb
theorem NAx.turn (h:NAx w D a M mt R B7 B8 xn xm L Z m E w0) (hv:ND w' D a' xn' E w0) (hm:af w' M 37 jX.cells) (hl:jX.limited=false) (hX:∀b,NX a' xn' b->NX a xn b\/w.heap.size<=b) (hc:ah (λb=>b=M\/Gw D a xn b) w w'):cz w' D M R B7 B8 xn' xm L m E w0/\ah (KC L w0.heap.size) w w':=by
 have hY:∀b,(b=M\/Gw D a xn b)->w0.heap.size<=b/\¬L b/\¬Z b:=λb e=>by
  rcases e with e|e
  . rw [e];exact h.mz
  . exact ⟨(h.bx e).2,(h.am b e).2⟩
 refine ⟨⟨a',jX,Z,hv,hm,hl,h.r.aA hc (λb e f=>(hY b f).2.2 e),h.b7.aA hc (λf=>(hY _ f).2.1 h.l.1),h.b8.aA hc (λf=>(hY _ f).2.1 h.l.2),λb e=>?_,h.mz,λb e=>bM (h.lz b e) hc.size,h.zz,h.l⟩,hc.mono (λb _ e=>⟨(hY b e).1,(hY b e).2.1⟩)⟩;rcases e with e|e
 . exact h.am b (.inl e)
 . rcases hX b e with f|f
   . exact h.am b (.inr f)
   . exact ⟨λg=>by have:=h.mb.lt;omega,λg=>by have:=h.lz b g;omega,λg=>by have:=h.r.lt b g;omega⟩
theorem NAx.Hz (h:NAx w D a M mt R B7 B8 xn xm L Z m E w0) (hr:iw w' R xm' m' Z') (hZ:∀b,Z' b->Z b\/w.heap.size<=b) (hc:ah Z w w'):cz w' D M R B7 B8 xn xm' L m' E w0/\ah (KC L w0.heap.size) w w':=by
 refine ⟨⟨a,mt,Z',h.v.aA hc (λb e=>(h.zz b e).1) (λe=>(h.am D (.inl rfl)).2.2 e) (λb e f=>(h.am b (.inr e)).2.2 f),h.mb.aA hc h.mz.2.2,h.ml,hr,h.b7.aA hc (λe=>(h.zz _ e).2 h.l.1),h.b8.aA hc (λe=>(h.zz _ e).2 h.l.2),λb e=>?_,⟨h.mz.1,h.mz.2.1,λe=>?_⟩,λb e=>bM (h.lz b e) hc.size,λb e=>?_,h.l⟩,hc.mono (λb _ e=>h.zz b e)⟩
 . refine ⟨(h.am b e).1,(h.am b e).2.1,λf=>?_⟩;rcases hZ b f with g|g
   . exact (h.am b e).2.2 g
   . have:=(h.bx e).1;omega
 . rcases hZ M e with g|g
   . exact h.mz.2.2 g
   . have:=h.mb.lt;omega
 . rcases hZ b e with g|g
   . exact h.zz b g
   . exact ⟨by have:=h.v.j3.size;omega,λf=>by have:=h.lz b f;omega⟩
theorem cz.later (h:cz w D M R B7 B8 xn xm L m E w0) (hb:Below w.heap.size w w'):cz w' D M R B7 B8 xn xm L m E w0:=by
 obtain ⟨a,mt,Z,h⟩:=h;exact ⟨a,mt,Z,h.v.later hb,h.mb.below hb h.mb.lt,h.ml,h.r.later hb,h.b7.below hb h.b7.lt,h.b8.below hb h.b8.lt,h.am,h.mz,λb e=>bM (h.lz b e) hb.size,h.zz,h.l⟩
theorem cz.drew (h:cz w D M R B7 B8 xn xm L m E w0):cz w.drew D M R B7 B8 xn xm L m E w0:=h.later (aM _ _).drew
theorem cz.j3 (h:cz w D M R B7 B8 xn xm L m E w0):Below w0.heap.size w0 w:=by obtain ⟨a,mt,Z,h⟩:=h;exact h.v.j3
theorem cz.gG (h:cz w D M R B7 B8 xn xm L m E w0):af w B7 25 #[.pointer (some ⟨D,0,none⟩)]/\af w B8 33 #[.pointer (some ⟨M,0,none⟩)]:=by obtain ⟨a,mt,Z,h⟩:=h;exact ⟨h.b7,h.b8⟩
theorem cz.pd (h:cz w D M R B7 B8 xn xm L m E w0):xn.d<=5/\xn.p<2 ^ xn.d:=by obtain ⟨a,mt,Z,h⟩:=h;exact h.v.pd
theorem cz.more (h:cz w D M R B7 B8 xn xm L m E w0) (hm:m<=m'):cz w D M R B7 B8 xn xm L m' E w0:=by
 obtain ⟨a,mt,Z,h⟩:=h;exact ⟨a,mt,Z,h.v,h.mb,h.ml,h.r.more hm,h.b7,h.b8,h.am,h.mz,h.lz,h.zz,h.l⟩
theorem cz.own (h:cz w D M R B7 B8 xn xm L m E w0) (hL:∀b,L' b->L b) (hl:L' B7/\L' B8):cz w D M R B7 B8 xn xm L' m E w0:=by
 obtain ⟨a,mt,Z,h⟩:=h;exact ⟨a,mt,Z,h.v,h.mb,h.ml,h.r,h.b7,h.b8,λb e=>⟨(h.am b e).1,λf=>(h.am b e).2.1 (hL b f),(h.am b e).2.2⟩,⟨h.mz.1,λf=>h.mz.2.1 (hL M f),h.mz.2.2⟩,λb e=>h.lz b (hL b e),λb e=>⟨(h.zz b e).1,λf=>(h.zz b e).2 (hL b f)⟩,hl⟩
theorem cz.kI (h:cz w D M R B7 B8 xn xm L m E w0) (o:Obj):cz (w.alloc o) D M R B7 B8 xn xm (KL L w.heap.size) m E w0:=by
 have hb:Below w.heap.size w (w.alloc o):=(aM _ _).alloc (aL _) o;obtain ⟨a,mt,Z,h⟩:=h;refine ⟨a,mt,Z,h.v.later hb,h.mb.below hb h.mb.lt,h.ml,h.r.later hb,h.b7.below hb h.b7.lt,h.b8.below hb h.b8.lt,λb e=>⟨(h.am b e).1,λf=>?_,(h.am b e).2.2⟩,⟨h.mz.1,λf=>?_,h.mz.2.2⟩,λb e=>?_,λb e=>⟨(h.zz b e).1,λf=>?_⟩,⟨.inl h.l.1,.inl h.l.2⟩⟩
 . rcases f with f|f
   . exact (h.am b e).2.1 f
   . have:=(h.bx e).1;omega
 . rcases f with f|f
   . exact h.mz.2.1 f
   . have:=h.mb.lt;omega
 . rcases e with e|e
   . have:=h.lz b e;simp;omega
   . rw [e];simp
 . rcases f with f|f
   . exact (h.zz b e).2 f
   . have:=h.r.lt b e;omega
theorem cz.kept {Y:Nat->Prop} (h:cz w D M R B7 B8 xn xm L m E w0) (hc:ah Y w w') (hY:∀b,Y b->L b/\w0.heap.size<=b/\b≠B7/\b≠B8):cz w' D M R B7 B8 xn xm L m E w0:=by
 obtain ⟨a,mt,Z,h⟩:=h;exact ⟨a,mt,Z,h.v.aA hc (λb e=>(hY b e).2.1) (λe=>(h.am D (.inl rfl)).2.1 (hY _ e).1) (λb e f=>(h.am b (.inr e)).2.1 (hY b f).1),h.mb.aA hc (λe=>h.mz.2.1 (hY M e).1),h.ml,h.r.aA hc (λb e f=>(h.zz b e).2 (hY b f).1),h.b7.aA hc (λe=>(hY _ e).2.2.1 rfl),h.b8.aA hc (λe=>(hY _ e).2.2.2 rfl),h.am,h.mz,λb e=>bM (h.lz b e) hc.size,h.zz,h.l⟩
theorem cz.fresh (h:cz w D M R B7 B8 xn xm L m E w0):w0.heap.size<=w.heap.size/\w.heap.size≠B7/\w.heap.size≠B8:=by
 obtain ⟨a,mt,Z,h⟩:=h;exact ⟨h.v.j3.size,Nat.ne_of_gt h.b7.lt,Nat.ne_of_gt h.b8.lt⟩
theorem cz.ll (h:cz w D M R B7 B8 xn xm L m E w0):L B7/\L B8:=by obtain ⟨a,mt,Z,h⟩:=h;exact h.l
theorem cz.put (h:cz w D M R B7 B8 xn xm L m E w0) (key v:Int) (hh:Nat) (hb:hh<18446744073709551616) (more:Bool) (x1 y1 z1:Int) :
 Calls Tryz.prog 12 #[.pointer (some ⟨D,0,none⟩),.agg #[.pointer (some ⟨M,0,none⟩),.int .i64 x1,.int .i64 y1,.int .i64 z1],.agg #[.int .u64 key,.int .u64 v,.int .u64 (hh:Int)],.bool more] w λe w' =>
  e = .returned (.tuple #[.bool (xn.s.bB key hh more),jF E (xn.s.bN key hh more)])/\cz w' D M R B7 B8 { xn with s:=xn.s.put key v hh more} xm L m E w0/\ah (KC L w0.heap.size) w w':=by
 obtain ⟨a,mt,Z,h⟩:=h;refine (h.v.put h.lw h.lens key v hh hb more _ (.inr ⟨M,rfl,rfl⟩) x1 y1 z1).mono ?_;rintro e w' ⟨e1,hv,⟨n,hl⟩,hc⟩
 exact ⟨e1,h.turn hv (hl M rfl) ((eZ _ _ _ _ _).trans h.ml) (λb e => .inl (by
  rcases e with ⟨f1,f2⟩|e
  . exact .inl ⟨f1,(oN (pF xn.s key v hh more) b).1 f2⟩
  . exact .inr e)) (hc.mono (λb _ e=>by
  rcases e with e|e
  . cases e;exact .inl rfl
  . exact .inr (.inr e)))⟩
theorem cz.del (h:cz w D M R B7 B8 xn xm L m E w0) (key:Int) (hh:Nat) (hb:hh<18446744073709551616) (x1 y1 z1:Int) :
 Calls Tryz.prog 10 #[.pointer (some ⟨D,0,none⟩),.agg #[.pointer (some ⟨M,0,none⟩),.int .i64 x1,.int .i64 y1,.int .i64 z1],.int .u64 key,.int .u64 (hh:Int)] w λe w' =>
  e = .returned (.tuple #[.agg #[.int .u64 (xn.s.bA key hh).key,.int .u64 (xn.s.bA key hh).val,.int .u64 (xn.s.bA key hh).hash],.bool (xn.s.has key hh)])/\cz w' D M R B7 B8 { xn with s:=xn.s.del key hh} xm L m E w0/\ah (KC L w0.heap.size) w w':=by
 obtain ⟨a,mt,Z,h⟩:=h;refine (h.v.del h.lw h.lens key hh hb _ (.inr ⟨M,rfl,rfl⟩) x1 y1 z1).mono ?_;rintro e w' ⟨e1,hv,⟨n,hl⟩,hc⟩
 exact ⟨e1,h.turn hv (hl M rfl) ((eZ _ _ _ _ _).trans h.ml) (λb e => .inl (by
  rcases e with ⟨f1,f2⟩|e
  . exact .inl ⟨f1,(oN (Fz xn.s key hh) b).1 f2⟩
  . exact .inr e)) (hc.mono (λb _ e=>by
  rcases e with e|e
  . cases e;exact .inl rfl
  . exact .inr (.inr e)))⟩
theorem cz.find (h:cz w D M R B7 B8 xn xm L m E w0) (key:Int) (hh:Nat) (hb:hh<18446744073709551616) (x1 y1 z1:Int) :
 Calls Tryz.prog 18 #[.pointer (some ⟨D,0,none⟩),.agg #[.pointer (some ⟨M,0,none⟩),.int .i64 x1,.int .i64 y1,.int .i64 z1],.int .u64 key,.int .u64 (hh:Int)] w λe w' =>
  e = .returned (.tuple #[.agg #[.int .u64 (xn.s.bA key hh).key,.int .u64 (xn.s.bA key hh).val,.int .u64 (xn.s.bA key hh).hash],.bool (xn.s.has key hh)])/\cz w' D M R B7 B8 xn xm L m E w0/\ah (KC L w0.heap.size) w w':=by
 obtain ⟨a,mt,Z,h⟩:=h;refine (h.v.find h.lw h.lens key hh hb _ (.inr ⟨M,rfl,rfl⟩) x1 y1 z1).mono ?_;rintro e w' ⟨e1,hv,⟨n,hl⟩,hc⟩
 exact ⟨e1,h.turn hv (hl M rfl) ((eZ _ _ _ _ _).trans h.ml) (λb e => .inl e) (hc.mono (λb _ e=>by cases e;exact .inl rfl))⟩
theorem cz.least (h:cz w D M R B7 B8 xn xm L m E w0) (key hash:Int) (x1 y1 z1:Int) :
 Calls Tryz.prog 25 #[.pointer (some ⟨D,0,none⟩),.agg #[.pointer (some ⟨M,0,none⟩),.int .i64 x1,.int .i64 y1,.int .i64 z1],.int .u64 hash,.int .u64 key] w λe w' =>
  e = .returned (.tuple #[.agg #[.int .u64 (xn.MQ key hash).1.key,.int .u64 (xn.MQ key hash).1.val,.int .u64 (xn.MQ key hash).1.hash],.bool (xn.MQ key hash).2])/\cz w' D M R B7 B8 xn xm L m E w0/\ah (KC L w0.heap.size) w w':=by
 obtain ⟨a,mt,Z,h⟩:=h;refine (h.v.least h.lw h.lens key hash _ (.inr ⟨M,rfl,rfl⟩) x1 y1 z1).mono ?_;rintro e w' ⟨e1,hv,⟨n,hl⟩,hc⟩
 exact ⟨e1,h.turn hv (hl M rfl) ((eZ _ _ _ _ _).trans h.ml) (λb e => .inl e) (hc.mono (λb _ e=>by cases e;exact .inl rfl))⟩
theorem cz.start (h:cz w D M R B7 B8 xn xm L m E w0) (kind:Int):∃xn',(xn'=if xn.jV kind=0 then xn.Gy kind else xn)/\
 Calls Tryz.prog 14 #[.pointer (some ⟨D,0,none⟩),.int .i64 kind] w λe w'=>e = .returned (jF E (xn.jV kind))/\cz w' D M R B7 B8 xn' xm L m E w0/\ah (KC L w0.heap.size) w w':=by
 refine ⟨_,rfl,?_⟩;by_cases hs:xn.jV kind=0
 . rw [if_pos hs,hs,fG];obtain ⟨a,mt,Z,h⟩:=h;obtain ⟨hz,hb,hd⟩:=Jk hs h.v.pd.1;refine (h.v.qy hz kind hb hd).mono ?_;rintro e w' ⟨a',e1,hv,hX,hc⟩
   exact ⟨e1,h.turn hv (h.mb.aA hc (λe=>(h.am M (.inl e)).1 rfl)) h.ml hX (hc.mono (λb _ e => .inr (.inl e)))⟩
 . rw [if_neg hs,jh E _ hs];have hh:=h;obtain ⟨a,mt,Z,h⟩:=h;refine (h.v.Jj kind hs).mono ?_;rintro e w' ⟨e1,hb⟩
   exact ⟨e1,hh.later hb,ah.of_below hb⟩
end
section
variable {w w' w0:World} {D M R B7 B8 BI:Nat} {xn xm:bH} {L:Nat->Prop} {m:Int} {E:Nat->Addr}
theorem cz.Mh (h:cz w D M R B7 B8 xn xm L m E w0) (hn:(xn.bz && decide (xn.s.left=0))=false):Calls Tryz.prog 17 #[.pointer (some ⟨D,0,none⟩)] w λe w'=>e = .returned (.tuple #[.pointer none,aO E 5])/\Below w.heap.size w w':=by
 obtain ⟨a,mt,Z,h⟩:=h;exact h.v.Mh hn
theorem cz.p8 (h:cz w D M R B7 B8 xn xm L m E w0) (hz:xn.bz=true) (hn:xn.s.left=0) (hk:xn.s.k=1):Calls Tryz.prog 17 #[.pointer (some ⟨D,0,none⟩)] w λe w' =>
 e = .returned (.tuple #[.pointer none,.nilIface])/\cz w' D M R B7 B8 (bH.idle xn.p xn.d (xn.s.U 0)) xm L m E w0/\ah (KC L w0.heap.size) w w':=by
 obtain ⟨a,mt,Z,h⟩:=h;have hc0:NX a xn (a 0) := .inl ⟨hz,0,.fH (by decide),rfl⟩;refine (h.v.p8 hz hn hk).mono ?_;rintro e w' ⟨e1,hv,hc⟩
 have hcc:∀b,(b=D\/b=a 0)->Gw D a xn b:=λb e=>by
  rcases e with e|e
  . exact .inl e
  . rw [e];exact .inr hc0
 exact ⟨e1,h.turn hv (h.mb.aA hc (λe=>(h.am M (hcc M e)).1 rfl)) h.ml (λb e => .inl (qb hz (by omega) b e)) (hc.mono (λb _ e => .inr (hcc b e)))⟩
theorem cz.Fw (h:cz w D M R B7 B8 xn xm L m E w0) (hz:xn.bz=true) (hn:xn.s.left=0) (hk:xn.s.k=2) (hd:xn.d<5):Calls Tryz.prog 17 #[.pointer (some ⟨D,0,none⟩)] w λe w' => ∃N2 a2,
 e = .returned (.tuple #[.pointer (some ⟨N2,0,none⟩),.nilIface])/\cz w' D M R B7 B8 (bH.idle (2*xn.p) (xn.d+1) (xn.s.U 0)) xm L m E w0/\ND w' N2 a2 (bH.idle (2*xn.p+1) (xn.d+1) (xn.s.U 1)) E w0/\(∀b,Gw N2 a2 (bH.idle (2*xn.p+1) (xn.d+1) (xn.s.U 1)) b->b≠R)/\w0.heap.size<=R/\ah (KC L w0.heap.size) w w':=by
 obtain ⟨a,mt,Z,h⟩:=h;have hc0:NX a xn (a 0) := .inl ⟨hz,0,.fH (by decide),rfl⟩;have hR:Z R:=by obtain ⟨Rb,X,gt,aH,p0,pt,L0,Lc,-,-,h3,-⟩:=h.r;exact h3
 refine (h.v.Fw hz hn hk hd).mono ?_;rintro e w' ⟨N2,e1,hN,hv,hv2,hc⟩
 have hcc:∀b,(b=D\/b=a 0)->Gw D a xn b:=λb e=>by
  rcases e with e|e
  . exact .inl e
  . rw [e];exact .inr hc0
 obtain ⟨t1,t2⟩:=h.turn hv (h.mb.aA hc (λe=>(h.am M (hcc M e)).1 rfl)) h.ml (λb e => .inl (qb hz (by omega) b e)) (hc.mono (λb _ e => .inr (hcc b e)));refine ⟨N2,_,e1,t1,hv2,λb e f=>?_,(h.zz R hR).1,t2⟩;rcases e with e|e
 . have:=h.r.lt R hR;omega
 . exact (h.am b (.inr (qb hz (by omega) b e))).2.2 (by rw [f];exact hR)
theorem cz.af6 (h:cz w D M R B7 B8 xn xm L m E w0) (hm:m<=90000000) (key v:Int) (hs:Nat) (more:Bool) (hh:hs<18446744073709551616) :
 Calls Tryz.prog 21 #[.pointer (some ⟨R,0,none⟩),.agg #[.int .u64 key,.int .u64 v,.int .u64 (hs:Int)],.bool more] w λe w' =>
  e = .returned (.tuple #[.bool (xm.s.bB key hs more),.int .i64 ((xm.s.bN key hs more:Nat):Int)])/\cz w' D M R B7 B8 xn { xm with s:=xm.s.put key v hs more} L (m+200) E w0/\ah (KC L w0.heap.size) w w':=by
 obtain ⟨a,mt,Z,h⟩:=h;refine (h.r.put hm key v hs more hh).mono ?_;rintro e w' ⟨e1,hr,hc⟩
 exact ⟨e1,h.Hz hr (λb e => .inl e) hc⟩
theorem cz.aiD (h:cz w D M R B7 B8 xn xm L m E w0) (hm:m<=90000000) (key:Int) (hs:Nat) (hh:hs<18446744073709551616) :
 Calls Tryz.prog 22 #[.pointer (some ⟨R,0,none⟩),.int .u64 key,.int .u64 (hs:Int)] w λe w' =>
  e = .returned (.tuple #[.agg #[.int .u64 (xm.s.bA key hs).key,.int .u64 (xm.s.bA key hs).val,.int .u64 (xm.s.bA key hs).hash],.bool (xm.s.has key hs)])/\cz w' D M R B7 B8 xn { xm with s:=xm.s.del key hs} L (m+200) E w0/\ah (KC L w0.heap.size) w w':=by
 obtain ⟨a,mt,Z,h⟩:=h;refine (h.r.del hm key hs hh).mono ?_;rintro e w' ⟨e1,hr,hc⟩
 exact ⟨e1,h.Hz hr (λb e => .inl e) hc⟩
theorem cz.af7 (h:cz w D M R B7 B8 xn xm L m E w0):Calls Tryz.prog 24 #[.pointer (some ⟨R,0,none⟩)] w λe w' =>
 ∃v,e = .returned v/\w'.ownsRow w.heap.size 46 3 v xm.all.length (cB xm.all)/\Below w.heap.size w w':=by
 obtain ⟨a,mt,Z,h⟩:=h;exact h.r.ae6
theorem cz.adK (h:cz w D M R B7 B8 xn xm L m E w0) (gl:Int):Calls Tryz.prog 27 #[.pointer (some ⟨R,0,none⟩),.int .i64 gl] w λe w'=>e = .returned (.tuple #[.int .i64 (xm.wants gl),.bool (xm.dbl gl)])/\Below w.heap.size w w':=by
 obtain ⟨a,mt,Z,h⟩:=h;exact h.r.rQ gl
theorem cz.mstart (h:cz w D M R B7 B8 xn xm L m E w0) (kind:Int) (hd5:xm.d<=5):Calls Tryz.prog 28 #[.pointer (some ⟨R,0,none⟩),.int .i64 kind] w λe w' =>
 e = .returned (.int .i64 ((xm.jV kind:Nat):Int))/\cz w' D M R B7 B8 xn (if xm.jV kind=0 then xm.Gy kind else xm) L m E w0/\ah (KC L w0.heap.size) w w':=by
 by_cases hs:xm.jV kind=0
 . rw [if_pos hs,hs];obtain ⟨a,mt,Z,h⟩:=h;have hR:Z R:=by obtain ⟨Rb,X,gt,aH,p0,pt,L0,Lc,-,-,h3,-⟩:=h.r;exact h3
   obtain ⟨hz,hb,hd⟩:=Jk hs hd5;refine (h.r.qy hz kind hd5 hb hd).mono ?_;rintro e w' ⟨e1,hr,hc⟩
   exact ⟨e1,h.Hz hr (λb e=>e.imp id (λe=>e.1)) (hc.mono (λb _ e=>by rw [e];exact hR))⟩
 . rw [if_neg hs];have hh:=h;obtain ⟨a,mt,Z,h⟩:=h;refine (h.r.Jj kind hd5 hs).mono ?_;rintro e w' ⟨e1,hb⟩
   exact ⟨e1,hh.later hb,ah.of_below hb⟩
theorem cz.adL (h:cz w D M R B7 B8 xn xm L m E w0) (hn:(xm.bz && decide (xm.s.left=0))=false):Calls Tryz.prog 29 #[.pointer (some ⟨R,0,none⟩)] w λe w'=>e = .returned (.tuple #[.pointer none,.int .i64 5])/\Below w.heap.size w w':=by
 obtain ⟨a,mt,Z,h⟩:=h;exact h.r.Mh hn
theorem cz.abx (h:cz w D M R B7 B8 xn xm L m E w0) (hz:xm.bz=true) (hn:xm.s.left=0) (hk:xm.s.k=1):Calls Tryz.prog 29 #[.pointer (some ⟨R,0,none⟩)] w λe w' =>
 e = .returned (.tuple #[.pointer none,.int .i64 0])/\cz w' D M R B7 B8 xn (bH.idle xm.p xm.d (xm.s.U 0)) L m E w0/\ah (KC L w0.heap.size) w w':=by
 obtain ⟨a,mt,Z,h⟩:=h;have hR:Z R:=by obtain ⟨Rb,X,gt,aH,p0,pt,L0,Lc,-,-,h3,-⟩:=h.r;exact h3
 refine (h.r.p8 hz hn hk).mono ?_;rintro e w' ⟨e1,hr,hc⟩
 exact ⟨e1,h.Hz hr (λb e => .inl e) (hc.mono (λb _ e=>by rw [e];exact hR))⟩
theorem cz.abw (h:cz w D M R B7 B8 xn xm L m E w0) (hz:xm.bz=true) (hn:xm.s.left=0) (hk:xm.s.k=2) (hp:xm.p<32) (hd:xm.d<5):Calls Tryz.prog 29 #[.pointer (some ⟨R,0,none⟩)] w λe w' => ∃R2 Z2,
 e = .returned (.tuple #[.pointer (some ⟨R2,0,none⟩),.int .i64 0])/\cz w' D M R B7 B8 xn (bH.idle (2*xm.p) (xm.d+1) (xm.s.U 0)) L m E w0/\iw w' R2 (bH.idle (2*xm.p+1) (xm.d+1) (xm.s.U 1)) m Z2/\ah (λb=>b=R) w w'/\ah (KC L w0.heap.size) w w':=by
 obtain ⟨a,mt,Z,h⟩:=h;have hR:Z R:=by obtain ⟨Rb,X,gt,aH,p0,pt,L0,Lc,-,-,h3,-⟩:=h.r;exact h3
 refine (h.r.Fw hz hn hk hp hd).mono ?_;rintro e w' ⟨R2,Z2,e1,hr,hr2,hc⟩
 obtain ⟨t1,t2⟩:=h.Hz hr (λb e => .inl e) (hc.mono (λb _ e=>by rw [e];exact hR));exact ⟨R2,Z2,e1,t1,hr2,hc,t2⟩
theorem iw.afU {Z:Nat->Prop} {x:bH} (h:iw w R x m Z) (hz:x.bz=true) (hm:m<=90000000) (hev:x.s.sH):∃Rb,w.cell? ⟨R,4,none⟩=some (.pointer (some ⟨Rb,0,none⟩))/\R<w.heap.size/\
 Calls Tryz.prog 33 #[.pointer (some ⟨Rb,0,none⟩)] w λe w'=>e = .returned (.tuple #[.bool (decide (0<x.s.left)),.bool false])/\iw w' R x.bX (m+600) Z/\ah Z w w':=by
 obtain ⟨Rb,X,gt,aH,p0,pt,L0,Lc,h1,h2,h3,h4,h5,h6⟩:=h;obtain ⟨c0,c1,c2,c3,c4,z⟩:=h1.cells;rw [if_pos hz] at c4;obtain ⟨hM,hok⟩:=h1.u hz;have jT:=h5 hz;have hx:=hok.hx;have hxs:x.bX = { x with s:=x.s.bX}:=by unfold bH.bX;rw [if_pos hz]
 rw [hxs];refine ⟨Rb,c4,z,?_⟩;have FI:=λ(w':World) (s':DuS) (L':Int) (mG:Nat->Int) (hL:0<=L'/\L'<=m+600) (hk:s'.k=x.s.k) (hl:∀i,i<x.s.k->0<=mG i/\mG i<=m+600) (hd:DM w' Rb X gt aH p0 pt s' false L' mG) (hok:dW s') (hc:ah (kT Rb X p0 pt x.s.k) w w')=>iw.mH hz h1 h2 h3 h6 hL hk hl hd hok hc;unfold DuS.bX DuS.left;by_cases h0:x.s.bare=0
 . rw [if_pos h0];by_cases hn:x.s.nx<x.s.T.n
   . rw [if_pos hn];rw [decide_eq_true (show 0<x.s.bare+(x.s.T.n-x.s.nx) by omega)];refine (hM.step h0 (by omega) m (by omega) hn (λi hi=>jT i hi)).mono ?_;rintro e w' ⟨b,rfl,g1,g2,g3,g4⟩
     cases b with
     | true=>exact absurd (hev h0 hn) (g2 rfl)
     | false =>
      obtain ⟨mG,k1,k2,k3⟩:=g3 rfl;exact ⟨rfl,FI w' _ _ mG (by omega) rfl (λi hi=>by have:=k3 i hi;omega) k1 (hok.move h0 hn) g4⟩
   . rw [if_neg hn];rw [decide_eq_false (show ¬0<x.s.bare+(x.s.T.n-x.s.nx) by omega)];refine (hM.Ji h0 (by omega)).mono ?_;rintro e w' ⟨rfl,g⟩
     exact ⟨rfl,FI w' _ _ Lc (by omega) rfl (λi hi=>by have:=jT i hi;omega) (hM.later g) hok (ah.of_below g)⟩
 . rw [if_neg h0];rw [decide_eq_true (show 0<x.s.bare+(x.s.T.n-x.s.nx) by omega)];refine (hM.je hok (by omega)).mono ?_;rintro e w' ⟨rfl,g1,g2⟩
   exact ⟨rfl,FI w' _ _ Lc (by omega) rfl (λi hi=>by have:=jT i hi;omega) g1 hok.je g2⟩
theorem iw.Kn {Z:Nat->Prop} {x:bH} (h:iw w R x m Z) (hm:m<=90000000) (hx:x.bad):∃Rb,w.cell? ⟨R,4,none⟩=some (.pointer (some ⟨Rb,0,none⟩))/\R<w.heap.size/\
 Calls Tryz.prog 33 #[.pointer (some ⟨Rb,0,none⟩)] w λe w'=>e = .returned (.tuple #[.bool true,.bool true])/\ah Z w w':=by
 obtain ⟨hz,h0,hn,hev⟩:=hx;obtain ⟨Rb,X,gt,aH,p0,pt,L0,Lc,h1,h2,h3,h4,h5,h6⟩:=h;obtain ⟨c0,c1,c2,c3,c4,z⟩:=h1.cells;rw [if_pos hz] at c4;have jT:=h5 hz;refine ⟨Rb,c4,z,((h1.u hz).1.step h0 (by omega) m (by omega) hn (λi hi=>jT i hi)).mono ?_⟩;rintro e w' ⟨b,rfl,g1,g2,g3,g4⟩
 cases b with
 | true=>exact ⟨rfl,g4.mono (λb _ e=>(h2 b (.inr ⟨hz,.inl e⟩)).1)⟩
 | false=>exact absurd (g1 rfl) hev
end
end Go.Proofs.YtolhmibejhldkaaGreatDoor
namespace Go.Proofs.YtolhmibejhldkaaGreatDoor
open Go.RowKit Go.Proofs
attribute [local go_sem] neq_nilG eql_nilG
theorem eq4n (a b c d:Int) (w:World):(Op.equalIn 10000 124 (.agg #[.int .i64 a,.int .i64 b,.int .i64 c,.int .i64 d]) (.agg #[.int .i64 a,.int .i64 b,.int .i64 c,.int .i64 d])).run Tryz.prog w = .ok true w:=by
 obtain ⟨i,hi⟩:∃i,Tryz.prog.info? 3=some i:=⟨_,rfl⟩
 have:=Kz (P:=Tryz.prog) (w:=w) (d:=9998) (k := .i64) Tryz.underlying124 hi Tryz.underlying3 (by kernel_rfl) [a,b,c,d] [a,b,c,d] rfl rfl;simpa using this
attribute [local go_sem] eq4n
section
variable {w w' w0:World} {D R:Nat} {a:Nat->Nat} {x:bH} {m gl:Int} {Z:Nat->Prop} {E:Nat->Addr}
theorem Ky (hv:ND w D a x E w0) (hr:iw w R x m Z) (gl:Int):Calls Tryz.prog 30 #[.pointer (some ⟨D,0,none⟩),.pointer (some ⟨R,0,none⟩),.int .i64 gl] w λe w'=>e = .returned (.bool true)/\Below w.heap.size w w':=by
 have HV:=aa hv;have HR:=aa hr;have PX:=aa hv.Dq;have NU:=aa (λ(W:World) (hb:Below w.heap.size w W)=>(hr.later hb).QG);have WN:=aa (λ(W:World) (hb:Below w.heap.size w W)=>(hv.later hb).rQ gl);have WR:=aa (λ(W:World) (hb:Below w.heap.size w W)=>(hr.later hb).rQ gl);have JO:=aa (λ(W:World) (hb:Below w.heap.size w W)=>(hv.later hb).aiG);have LE:=aa (λ(W:World) (hb:Below w.heap.size w W)=>(hv.later hb).aiF);have TO:=aa (λ(W:World) (hb:Below w.heap.size w W)=>(hv.later hb).adm);have GR:=aa (λ(W:World) (hb:Below w.heap.size w W)=>(hv.later hb).abW);have LF:=aa (λ(W:World) (hb:Below w.heap.size w W)=>(hv.later hb).aga);have DO:=aa (λ(W:World) (hb:Below w.heap.size w W)=>(hv.later hb).Ml);obtain ⟨Rb,c0,c1,c2,c4,z⟩:=hr.iq;unfold bH.nums at NU;have hl0:x.lft=if x.bz=true then ((x.s.left:Nat):Int) else 0:=rfl
 generalize x.len=q0 at *
 generalize x.tmb=q1 at *
 generalize x.grp=q2 at *
 generalize x.wants gl=wk at *
 generalize x.dbl gl=wd at *
 clear hv hr;obtain ⟨q3,hq3⟩:=dC x.lft;rw [<-hq3] at hl0 NU LF;clear hq3
 have HL:(w.cell? ⟨R,4,none⟩=some (.pointer (some ⟨Rb,0,none⟩))/\Hid (∀W,Below w.heap.size w W->Calls Tryz.prog 16 #[.pointer (some ⟨D,0,none⟩)] W λe w'=>e = .returned (.bool true)/\Below W.heap.size W w')/\(q3 == 0)=true)\/(w.cell? ⟨R,4,none⟩=some (.pointer (some ⟨Rb,0,none⟩))/\Hid (∀W,Below w.heap.size w W->Calls Tryz.prog 16 #[.pointer (some ⟨D,0,none⟩)] W λe w'=>e = .returned (.bool false)/\Below W.heap.size W w')/\(q3 == 0)=false)\/(w.cell? ⟨R,4,none⟩=some (.pointer none)/\Hid (∀W,Below w.heap.size w W->Calls Tryz.prog 16 #[.pointer (some ⟨D,0,none⟩)] W λe w'=>e = .returned (.bool false)/\Below W.heap.size W w')):=by
  rcases Bool.eq_false_or_eq_true x.bz with hz|hz
  . rw [if_pos hz] at hl0 c4;rw [hz,Bool.true_and] at DO;by_cases hn:x.s.left=0
    . rw [decide_eq_true hn] at DO;exact .inl ⟨c4,DO,by rw [hl0,hn];rfl⟩
    . rw [decide_eq_false hn] at DO;exact .inr (.inl ⟨c4,DO,by simp;omega⟩)
  . rw [if_neg (by rw [hz];decide)] at c4;rw [hz,Bool.false_and] at DO;exact .inr (.inr ⟨c4,DO⟩)
 clear c4 DO hl0;rcases HL with ⟨c4,DO,q3B⟩ | ⟨c4,DO,q3B⟩ | ⟨c4,DO⟩
 all_goals
  go_enter Tryz.func30,Tryz.ntmps30
  go_upto_region 5 with (first
   | (go_at_call 8;(with_reducible refine PX.out.mono ?_);rintro e w1 ⟨rfl,hb1⟩;have B1:=aa hb1;clear hb1)
   | (go_at_call 74;((with_reducible refine (NU.out _ B1.out).mono ?_);rintro e w2 ⟨rfl,hb2⟩;have B2:=aa (B1.out.trans ((hb2.alloc hb2.size (.cells #[.int .i64 q0,.int .i64 q1,.int .i64 q2,.int .i64 q3] 124)).mono B1.out.size));have N2:=aa (af.new w2 124 #[.int .i64 q0,.int .i64 q1,.int .i64 q2,.int .i64 q3]);clear hb2))
   | (go_at_call 13;(with_reducible refine (WN.out _ B2.out).mono ?_);rintro e w3 ⟨rfl,hb3⟩;have B3:=aa (B2.out.trans (hb3.mono B2.out.size));have N3:=aa (N2.out.below hb3 N2.out.lt);clear hb3)
   | (go_at_call 27;(with_reducible refine (WR.out _ B3.out).mono ?_);rintro e w4 ⟨rfl,hb4⟩;have B4:=aa (B3.out.trans (hb4.mono B3.out.size));have N4:=aa (N3.out.below hb4 N3.out.lt);clear hb4))
  refine bG (λW hW=>?_);have BW:Below w.heap.size w W:=by rw [hW];exact B4.out
  have NW:af W w2.heap.size 124 #[.int .i64 q0,.int .i64 q1,.int .i64 q2,.int .i64 q3]:=by rw [hW];exact N4.out
  have d0:=(BW.cell (p:=⟨R,0,none⟩) z).trans c0;have d1:=(BW.cell (p:=⟨R,1,none⟩) z).trans c1;have d2:=(BW.cell (p:=⟨R,2,none⟩) z).trans c2;have d4:=(BW.cell (p:=⟨R,4,none⟩) z).trans c4;have zR:=bM z BW.size;have n0:=NW.cell 0;have n1:=NW.cell 1;have n2:=NW.cell 2;have n3:=NW.cell 3;have zN:=NW.lt;have BD:=aa (BW.trans ((aM _ _).drew.mono BW.size));have NB:=aa (show af W.drew w2.heap.size 124 #[.int .i64 q0,.int .i64 q1,.int .i64 q2,.int .i64 q3] from NW.drew);clear hW BW NW c0 c1 c2 c4;refine ag (λ_=>False) #[⟨0,0,2^33,128,0⟩,⟨0,0,2^34,2,0⟩,⟨2,2,2^35,2^34,0⟩,⟨4,6,2^36,2^35,0⟩,⟨8,14,2^37,2^36,1⟩,⟨17,31,2^38,(2^33+2^37),0⟩,⟨32,63,2^39,2^38,0⟩,⟨64,127,2^40,(2^8+2^39),0⟩,⟨64,127,2^41,(2^1+2^39),0⟩,⟨320,383,2^42,(2^39+2^41),0⟩,⟨576,895,2^43,(2^39+2^42),0⟩,⟨1088,1919,2^44,(2^39+2^43),1⟩,⟨2240,4095,2^45,(2^39+2^40+2^44),0⟩,⟨4160,8191,2^46,(2^39+2^45),0⟩,⟨8256,16383,2^47,2^46,0⟩,⟨2^14,32767,2^48,(2^0+2^47),0⟩,⟨(2^14+2^15),65535,2^49,(2^47+2^48),2⟩,⟨2^14,32767,2^50,(2^1+2^47),0⟩,⟨(2^14+2^17),163839,2^51,(2^47+2^50),0⟩,⟨(2^14+2^18),425983,2^52,(2^47+2^51),0⟩,⟨(2^14+2^19),950271,2^53,(2^47+2^52),1⟩,⟨(2^14+2^16+2^20),2097151,2^54,(2^47+2^49+2^53),0⟩,⟨(2^14+2^21),4194303,2^55,(2^47+2^54),0⟩,⟨(2^16+2^22),8388607,2^56,2^55,0⟩,⟨2^23,16777215,2^57,(2^0+2^56),0⟩,⟨(2^23+2^24),33554431,2^58,(2^56+2^57),2⟩,⟨2^23,16777215,2^59,(2^0+2^56),0⟩,⟨(2^23+2^25+2^26),134217727,2^60,(2^56+2^59),2⟩,⟨2^23,16777215,2^61,(2^0+2^56),0⟩,⟨(2^23+2^27+2^28),536870911,2^62,(2^56+2^61),2⟩,⟨2^23,16777215,2^63,(2^0+2^56),0⟩,⟨(2^23+2^29+2^30),2147483647,2^64,(2^56+2^63),2⟩,⟨2860515328,4294967295,2^65,24571639566933426176,0⟩,⟨2^23,16777215,2^66,(2^9+2^56),1⟩,⟨(2^23+2^32+2^33),17179869183,2^67,(2^56+2^65+2^66),0⟩,⟨(2^23+2^34),34359738367,2^68,(2^56+2^67),0⟩,⟨(2^31+2^35),68719476735,2^69,2^68,0⟩,⟨2^36,137438953471,2^70,(2^0+2^69),0⟩,⟨(2^36+2^37),274877906943,2^71,(2^69+2^70),2⟩,⟨2^36,137438953471,2^72,(2^1+2^69),0⟩,⟨(2^36+2^39),687194767359,2^73,(2^69+2^72),0⟩,⟨(2^36+2^40),1786706395135,2^74,(2^69+2^73),0⟩,⟨(2^36+2^41),3985729650687,2^75,(2^69+2^74),1⟩,⟨(2^36+2^42),8383776161791,2^76,(2^69+2^75),0⟩,⟨(2^36+2^38+2^43),17592186044415,2^77,(2^69+2^76),0⟩,⟨2^44,35184372088831,2^78,(2^9+2^77),0⟩,⟨(2^44+2^45),70368744177663,2^79,(2^77+2^78),1⟩,⟨(2^44+2^46),140737488355327,2^80,(2^77+2^79),0⟩,⟨(2^36+2^44+2^47),281474976710655,2^81,(2^69+2^77+2^80),0⟩,⟨(2^36+2^38+2^48),562949953421311,2^82,(2^69+2^71+2^81),0⟩,⟨(2^36+2^49),1125899906842623,2^83,(2^69+2^82),0⟩,⟨(2^44+2^50),2251799813685247,2^84,2^83,0⟩,⟨2^51,4503599627370495,2^85,(2^10+2^84),0⟩,⟨2^51,4503599627370495,2^86,(2^12+2^84),0⟩,⟨(2^51+2^52+2^53),18014398509481983,2^87,(2^84+2^85+2^86),0⟩,⟨(2^51+2^54),36028797018963967,2^88,(2^84+2^87),0⟩,⟨(2^51+2^55),72057594037927935,2^89,2^88,0⟩,⟨2^56,144115188075855871,2^90,(2^11+2^89),0⟩,⟨2^56,144115188075855871,2^91,(2^13+2^89),0⟩,⟨(2^56+2^57+2^58),576460752303423487,2^92,(2^89+2^90+2^91),0⟩,⟨(2^56+2^59),1152921504606846975,2^93,(2^89+2^92),0⟩,⟨2305843009213693951,2305843009213693951,64,2^93,0⟩] 74775381674000 [(0,0),(1,0),(2,0),(3,0),(4,1),(5,0),(6,0),(7,0),(8,0),(9,0),(10,0),(11,1),(12,0),(13,0),(14,0),(15,0),(17,0),(18,0),(19,0),(20,1),(16,2),(21,0),(22,0),(23,0),(24,0),(26,0),(28,0),(30,0),(33,1),(25,2),(27,2),(29,2),(31,2),(32,0),(34,0),(35,0),(36,0),(37,0),(39,0),(40,0),(41,0),(42,1),(43,0),(38,2),(44,0),(45,0),(46,1),(47,0),(48,0),(49,0),(50,0),(51,0),(52,0),(53,0),(54,0),(55,0),(56,0),(57,0),(58,0),(59,0),(60,0),(61,0)] (by kernel_rfl) (by kernel_rfl) (by kernel_rfl) (by kernel_rfl) (by kernel_rfl) (by kernel_rfl) (λc a d v w h=>by cases d <;> exact h) ?_;refine aj ?_;refine aj ?_;refine aj ?_;refine aj ?_;refine bW Tryz.underlying3 ?_
  try refine aC ?_;refine aj ?_;refine aj ?_
  first
   | (refine jS ?_)
  try refine aC ?_
  first
   | (refine jS ?_)
  try refine aC ?_
  first
   | (refine jS ?_)
  try refine aC ?_
  first
   | (refine jS ?_)
  try refine aC ?_
  first
   | (refine bW Tryz.underlying3 ?_)
  try refine aC ?_
  first
   | (refine jS ?_)
  try refine aC ?_;refine aj ?_;refine aj ?_
  first
   | (refine jS ?_)
  try refine aC ?_
  first
   | (refine jS ?_)
  try refine aC ?_
  first
   | (refine jS ?_)
  try refine aC ?_
  first
   | (refine jS ?_)
  try refine aC ?_
  first
   | (refine bW Tryz.underlying3 ?_)
  try refine aC ?_
  first
   | (refine jD ?_)
   | (refine iK λK hK=>?_;go_wp2_with ((go_at_call 80;((with_reducible refine (JO.out _ BD.out).mono ?_);rintro e w5 ⟨rfl,hb5⟩;have B5:=aa (BD.out.trans (hb5.mono BD.out.size));have NT:ah (λ_=>False) _ w5:=ah.of_below hb5;have N5:=aa (NB.out.below hb5 NB.out.lt);have n50:=N5.out.cell 0;have n51:=N5.out.cell 1;have n52:=N5.out.cell 2;have n53:=N5.out.cell 3;have zn5:=N5.out.lt;have d54:=(hb5.cell (p:=⟨R,4,none⟩) zR).trans d4;have zr5:=bM zR hb5.size;clear hb5)));refine iX hK (h:=?_);clear hK K)
  try refine aC ?_
  first
   | (refine jS ?_)
  try refine aC ?_;refine aj ?_;refine aj ?_
  first
   | (refine jS ?_)
  try refine aC ?_
  first
   | (refine jS ?_)
  try refine aC ?_
  first
   | (refine jS ?_)
  try refine aC ?_
  first
   | (refine jS ?_)
  try refine aC ?_
  first
   | (refine jR [_,_,_,_] Tryz.underlying124 ?_)
  try refine aC ?_
  first
   | (refine jD ?_)
   | (refine iK λK hK=>?_;go_wp2_with ((go_at_call 35;((with_reducible refine (LE.out _ B5.out).mono ?_);rintro e w6 ⟨rfl,hb6⟩;have B6:=aa (B5.out.trans (hb6.mono B5.out.size));have ani:ah (λ_=>False) _ w6:=ah.of_below hb6;have N6:=aa (N5.out.below hb6 N5.out.lt);have n60:=N6.out.cell 0;have n61:=N6.out.cell 1;have n62:=N6.out.cell 2;have n63:=N6.out.cell 3;have zn6:=N6.out.lt;have d64:=(hb6.cell (p:=⟨R,4,none⟩) zr5).trans d54;have zr6:=bM zr5 hb6.size;clear hb6)));refine iX hK (h:=?_);clear hK K)
  try refine aC ?_
  first
   | (refine jD ?_)
   | (refine iK λK hK=>?_;go_wp2_with ((go_at_call 81;((with_reducible refine (TO.out _ B6.out).mono ?_);rintro e w7 ⟨rfl,NY⟩;have B7:=aa (B6.out.trans (NY.mono B6.out.size));have anh:ah (λ_=>False) _ w7:=ah.of_below NY;have N7:=aa (N6.out.below NY N6.out.lt);have n70:=N7.out.cell 0;have n71:=N7.out.cell 1;have n72:=N7.out.cell 2;have n73:=N7.out.cell 3;have zn7:=N7.out.lt;have d74:=(NY.cell (p:=⟨R,4,none⟩) zr6).trans d64;have zr7:=bM zr6 NY.size;clear NY)));refine iX hK (h:=?_);clear hK K)
  try refine aC ?_
  first
   | (refine jD ?_)
   | (refine iK λK hK=>?_;go_wp2_with ((go_at_call 34;((with_reducible refine (GR.out _ B7.out).mono ?_);rintro e w8 ⟨rfl,gM⟩;have B8:=aa (B7.out.trans (gM.mono B7.out.size));have ang:ah (λ_=>False) _ w8:=ah.of_below gM;have N8:=aa (N7.out.below gM N7.out.lt);have n80:=N8.out.cell 0;have n81:=N8.out.cell 1;have n82:=N8.out.cell 2;have n83:=N8.out.cell 3;have zn8:=N8.out.lt;have d84:=(gM.cell (p:=⟨R,4,none⟩) zr7).trans d74;have zr8:=bM zr7 gM.size;clear gM)));refine iX hK (h:=?_);clear hK K)
  try refine aC ?_
  first
   | (refine jD ?_)
   | (refine iK λK hK=>?_;go_wp2_with ((go_at_call 82;((with_reducible refine (LF.out _ B8.out).mono ?_);rintro e w9 ⟨rfl,pR⟩;have B9:=aa (B8.out.trans (pR.mono B8.out.size));have anf:ah (λ_=>False) _ w9:=ah.of_below pR;have N9:=aa (N8.out.below pR N8.out.lt);have n90:=N9.out.cell 0;have n91:=N9.out.cell 1;have n92:=N9.out.cell 2;have n93:=N9.out.cell 3;have zn9:=N9.out.lt;have d94:=(pR.cell (p:=⟨R,4,none⟩) zr8).trans d84;have zr9:=bM zr8 pR.size;clear pR)));refine iX hK (h:=?_);clear hK K)
  try refine aC ?_
  first
   | (refine jS ?_)
  try refine aC ?_
  first
   | (refine jS ?_)
  try refine aC ?_;refine aj ?_;refine aj ?_
  first
   | (refine jS ?_)
  try refine aC ?_
  first
   | (refine jS ?_)
  try refine aC ?_
  first
   | (refine jS ?_)
  try refine aC ?_
  first
   | (refine jS ?_)
  try refine aC ?_
  first
   | (refine bW Tryz.underlying76 ?_)
  try refine aC ?_
  first
   | (refine jS ?_)
  try refine aC ?_
  first
   | (refine jD ?_)
   | (refine iK λK hK=>?_;go_wp2_with ((go_at_call 16;((with_reducible refine (DO.out _ B9.out).mono ?_);rintro e Ub ⟨rfl,iY⟩;have B10:=aa (B9.out.trans (iY.mono B9.out.size));have akK:ah (λ_=>False) _ Ub:=ah.of_below iY;have Cu:=aa (N9.out.below iY N9.out.lt);have n100:=Cu.out.cell 0;have n101:=Cu.out.cell 1;have n102:=Cu.out.cell 2;have n103:=Cu.out.cell 3;have alO:=Cu.out.lt;have d104:=(iY.cell (p:=⟨R,4,none⟩) zr9).trans d94;have alJ:=bM zr9 iY.size;clear iY)));refine iX hK (h:=?_);clear hK K)
  try refine aC ?_
  first
   | (refine jS ?_)
  try refine aC ?_
  first
   | (refine jD ?_)
   | (refine jS ?_)
  try refine aC ?_
  first
   | (refine jD ?_)
   | (refine bW Tryz.underlying3 ?_)
  try refine aC ?_
  first
   | (refine jD ?_)
   | (refine jS ?_)
  try refine aC ?_
  first
   | (refine jS ?_)
  try refine aC ?_
  first
   | (refine jS ?_)
  try refine aC ?_;refine aj ?_;refine aj ?_
  first
   | (refine jS ?_)
  try refine aC ?_
  first
   | (refine jS ?_)
  try refine aC ?_
  first
   | (refine jS ?_)
  try refine aC ?_;refine aj ?_;refine aj ?_
  first
   | (refine jS ?_)
  try refine aC ?_
  first
   | (refine jS ?_)
  try refine aC ?_
  first
   | (refine jS ?_)
  try refine aC ?_;refine aj ?_;refine aj ?_
  refine aD ?_;go_wp2;go_ret;exact ⟨rfl,B10.out⟩
end
end Go.Proofs.YtolhmibejhldkaaGreatDoor
namespace Go.Proofs.YtolhmibejhldkaaGreatDoor
open Go.RowKit Go.Proofs
attribute [local go_sem] neq_nilG eql_nilG
section
variable {w w' w0:World} {D M R B7 B8 BI:Nat} {xn xm:bH} {L:Nat->Prop} {m:Int} {E:Nat->Addr}
theorem cz.step (h:cz w D M R B7 B8 xn xm L m E w0) (hev:xn.bz=true->xn.s.sH) :
 Calls Tryz.prog 15 #[.pointer (some ⟨D,0,none⟩),.pointer (some ⟨M,0,none⟩)] w λe w'=>e = .returned (.bool (xn.bz && decide (0<xn.s.left)))/\cz w' D M R B7 B8 xn.bX xm L m E w0/\ah (KC L w0.heap.size) w w':=by
 obtain ⟨a,mt,Z,h⟩:=h;refine (h.v.step h.mb h.ml h.lens hev).mono ?_;rintro e w' ⟨a',jX,e1,hv,hm,hl,hX,hc⟩
 exact ⟨e1,h.turn hv hm hl hX (hc.mono (λb _ e=>e.imp id .inr))⟩
theorem cz.AP (h:cz w D M R B7 B8 xn xm L m E w0) (hx:xn.bad) (hbr:∀w',Below w0.heap.size w0 w'->w'.cell? ⟨4,0,none⟩=some (aO E 10)) :
 Calls Tryz.prog 15 #[.pointer (some ⟨D,0,none⟩),.pointer (some ⟨M,0,none⟩)] w λe w'=>e = .panicked [{ v:=iA (aO E 10),recovered:=false}]/\ah (KC L w0.heap.size) w w'/\∃Z,iw w' R xm m Z/\∀b,Z b->w0.heap.size<=b/\¬L b:=by
 obtain ⟨a,mt,Z,h⟩:=h;refine (h.v.AP h.mb h.ml h.lens hx hbr).mono ?_;rintro e w' ⟨e1,hc⟩
 refine ⟨e1,hc.mono (λb _ e=>?_),Z,h.r.aA hc (λb e f=>?_),h.zz⟩
 rotate_left
 . rcases f with f|f
   . rw [f] at e;exact h.mz.2.2 e
   . exact (h.am b (.inr f)).2.2 e
 rcases e with e|e
 . rw [e];exact ⟨h.mz.1,h.mz.2.1⟩
 . exact ⟨(h.bx (.inr e)).2,(h.am b (.inr e)).2.1⟩
end
theorem Hy:Enters 32:=λargs w=>enters_of Tryz.func32 (by kernel_rfl) rfl args w
theorem NM (D M B7 B8 BI:Nat) (b x:Bool) (P:World->Prop) (w:World) (h7:af w B7 25 #[.pointer (some ⟨D,0,none⟩)]) (h8:af w B8 33 #[.pointer (some ⟨M,0,none⟩)])
 (hS:Calls Tryz.prog 15 #[.pointer (some ⟨D,0,none⟩),.pointer (some ⟨M,0,none⟩)] w λe w'=>e = .returned (.bool b)/\P w') (hI:∀w',P w'->af w' BI 4 #[.bool x]) :
 Calls Tryz.prog 32 #[.pointer (some ⟨B7,0,none⟩),.pointer (some ⟨B8,0,none⟩),.pointer (some ⟨BI,0,none⟩)] w λe w'=>e = .returned (.tuple #[])/\∃w2,P w2/\w2.setCell ⟨BI,0,none⟩ (.bool b)=w':=by
 have c3:=h7.cell 0;have c6:=h8.cell 0;have z3:=h7.lt;have z6:=h8.lt;have HS:=aa hS;have H8:=aa hI;clear h7 h8 hS hI;go_enter Tryz.func32,Tryz.ntmps32
 go_wp2_with (go_at_call 15;(with_reducible refine HS.out.mono ?_);rintro e w2 ⟨rfl,hp2⟩;have hb2:=H8.out _ hp2;have d0:=hb2.cell 0;have f0:=hb2.frozen 0;have zI:=hb2.lt;have P2:=aa hp2;clear hp2 hb2)
 ((try simp only [Exit.inBlock,Exit.then]);refine bodyPost_end (results_none rfl _ _ _) rfl ?_)
 exact ⟨rfl,w2,P2.out,rfl⟩
theorem Em (D M B7 B8 BI:Nat) (E:Nat->Addr) (P:World->Prop) (w:World) (h7:af w B7 25 #[.pointer (some ⟨D,0,none⟩)]) (h8:af w B8 33 #[.pointer (some ⟨M,0,none⟩)])
 (hS:Calls Tryz.prog 15 #[.pointer (some ⟨D,0,none⟩),.pointer (some ⟨M,0,none⟩)] w λe w'=>e = .panicked [{ v:=iA (aO E 10),recovered:=false}]/\P w') :
 Calls Tryz.prog 32 #[.pointer (some ⟨B7,0,none⟩),.pointer (some ⟨B8,0,none⟩),.pointer (some ⟨BI,0,none⟩)] w λe w'=>e = .panicked [{ v:=iA (aO E 10),recovered:=false}]/\P w':=by
 have c3:=h7.cell 0;have c6:=h8.cell 0;have z3:=h7.lt;have z6:=h8.lt;have HS:=aa hS;clear h7 h8 hS;go_enter Tryz.func32,Tryz.ntmps32
 go_wp2_with (go_at_call 15;(with_reducible refine HS.out.mono ?_);rintro e w2 ⟨rfl,hp2⟩;have P2:=aa hp2;clear hp2)
 exact ⟨rfl,rfl,P2.out⟩
section
variable {w w' w0:World} {D M R B7 B8 BI:Nat} {xn xm:bH} {L:Nat->Prop} {m:Int} {E:Nat->Addr}
theorem Hw (h:cz w D M R B7 B8 xn xm L m E w0) (hI:af w BI 4 #[.bool false]) (hLI:L BI) (hI0:w0.heap.size<=BI/\BI≠B7/\BI≠B8) (hev:xn.bz=true->xn.s.sH) :
 Calls Tryz.prog 31 #[.func (.func 32) #[] #[.pointer (some ⟨B7,0,none⟩),.pointer (some ⟨B8,0,none⟩),.pointer (some ⟨BI,0,none⟩)]] w λe w' =>
  e = .returned .nilIface/\cz w' D M R B7 B8 xn.bX xm L m E w0/\af w' BI 4 #[.bool (xn.bz && decide (0<xn.s.left))]/\ah (λc=>KC L w0.heap.size c\/c=BI) w w':=by
 have lI:=hI.lt;have hfr:=h.fresh;have h1:=h.kI (.cells #[.nilIface] 27);have hb:=h.gG
 have hA:=NM D M B7 B8 BI (xn.bz && decide (0<xn.s.left)) false (λw2=>cz w2 D M R B7 B8 xn.bX xm (KL L w.heap.size) m E w0/\ah (KC (KL L w.heap.size) w0.heap.size) (w.alloc (.cells #[.nilIface] 27)) w2) (w.alloc (.cells #[.nilIface] 27)) (hb.1.alloc _) (hb.2.alloc _) (h1.step hev)
  (λw2 h2=>(hI.alloc _).aA h2.2 (λe=>e.2 (.inl hLI)))
 refine (aaw _ _ _ w Hy hA (λw3 ⟨w2,⟨hv2,hc2⟩,e⟩=>by
  rw [<-e]
  exact ((af.new w 27 #[.nilIface]).aA hc2 (λe=>e.2 (.inr rfl))).other (by omega) _ _)).mono ?_
 rintro e w4 ⟨rfl,w3,⟨w2,⟨hv2,hc2⟩,rfl⟩,rfl⟩
 have c3:ah (λc=>c=BI\/c=w.heap.size) w2 ((w2.setCell ⟨BI,0,none⟩ (.bool (xn.bz && decide (0<xn.s.left)))).setCell ⟨w.heap.size,0,none⟩ .nilIface):=(((ah.refl (λc=>c=BI) w2).set1 _ _).mono (λ_ _ e => .inl e)).trans (((ah.refl (λc=>c=w.heap.size) _).set1 _ _).mono (λ_ _ e => .inr e));refine ⟨rfl,(hv2.kept c3 (λb e=>?_)).own (λb e => .inl e) h.ll,?_,?_⟩
 . rcases e with e|e
   . rw [e];exact ⟨.inl hLI,hI0⟩
   . rw [e];exact ⟨.inr rfl,hfr⟩
 . exact (((hI.alloc _).aA hc2 (λe=>e.2 (.inl hLI))).set 0 _).other (by omega) _ _
 . exact ((((ah.refl _ w).alloc _).trans (hc2.mono (λ_ _ e => .inl ⟨e.1,λk=>e.2 (.inl k)⟩))).trans' c3 (λc hc e=>by rcases e with e|e;exact .inr e;omega))
theorem El (h:cz w D M R B7 B8 xn xm L m E w0) (hx:xn.bad) (hbr:∀w',Below w0.heap.size w0 w'->w'.cell? ⟨4,0,none⟩=some (aO E 10)) :
 Calls Tryz.prog 31 #[.func (.func 32) #[] #[.pointer (some ⟨B7,0,none⟩),.pointer (some ⟨B8,0,none⟩),.pointer (some ⟨BI,0,none⟩)]] w λe w' =>
  e = .returned (aO E 10)/\ah (KC L w0.heap.size) w w'/\∃Z,iw w' R xm m Z/\∀b,Z b->w0.heap.size<=b:=by
 have h1:=h.kI (.cells #[.nilIface] 27);have hb:=h.gG;have hA:=Em D M B7 B8 BI E (λw2=>ah (KC (KL L w.heap.size) w0.heap.size) (w.alloc (.cells #[.nilIface] 27)) w2/\∃Z,iw w2 R xm m Z/\∀b,Z b->w0.heap.size<=b/\¬KL L w.heap.size b) (w.alloc (.cells #[.nilIface] 27)) (hb.1.alloc _) (hb.2.alloc _) (h1.AP hx hbr);refine (J3 _ _ _ _ _ w Hy hA (λw2 hc2=>(af.new w 27 #[.nilIface]).aA hc2.1 (λe=>e.2 (.inr rfl)))).mono ?_;rintro e w4 ⟨rfl,w2,⟨hc2,Z,hr2,hz2⟩,rfl⟩
 have hsz:w.heap.size<w2.heap.size:=by have:=hc2.size;simp at this;omega
 exact ⟨rfl,((((ah.refl _ w).alloc _).trans (hc2.mono (λ_ _ e=>⟨e.1,λk=>e.2 (.inl k)⟩))).trans' ((ah.refl (λc=>c=w.heap.size) _).set1 _ _) (λc hc e=>by omega)).alloc _,Z,(hr2.aA ((ah.refl (λc=>c=w.heap.size) _).set1 _ _) (λb e f=>(hz2 b e).2 (.inr f))).later ((aM _ _).alloc (aL _) _),λb e=>(hz2 b e).1⟩
theorem cz.acB (h:cz w D M R B7 B8 xn xm L m E w0) (hz:xm.bz=true) (hm:m<=90000000) (hev:xm.s.sH):∃Rb,w.cell? ⟨R,4,none⟩=some (.pointer (some ⟨Rb,0,none⟩))/\R<w.heap.size/\
 Calls Tryz.prog 33 #[.pointer (some ⟨Rb,0,none⟩)] w λe w'=>e = .returned (.tuple #[.bool (decide (0<xm.s.left)),.bool false])/\cz w' D M R B7 B8 xn xm.bX L (m+600) E w0/\ah (KC L w0.heap.size) w w':=by
 obtain ⟨a,mt,Z,h⟩:=h;obtain ⟨Rb,c,z,hc⟩:=h.r.afU hz hm hev;refine ⟨Rb,c,z,hc.mono ?_⟩;rintro e w' ⟨e1,hr,hc2⟩
 exact ⟨e1,h.Hz hr (λb e => .inl e) hc2⟩
theorem cz.acC (h:cz w D M R B7 B8 xn xm L m E w0) (hz:xm.bz=false):w.cell? ⟨R,4,none⟩=some (.pointer none)/\R<w.heap.size:=by
 obtain ⟨a,mt,Z,h⟩:=h;obtain ⟨Rb,-,-,-,c,z⟩:=h.r.iq;rw [if_neg (by rw [hz];decide)] at c;exact ⟨c,z⟩
theorem cz.same (h:cz w D M R B7 B8 xn xn L m E w0) (gl:Int):Calls Tryz.prog 30 #[.pointer (some ⟨D,0,none⟩),.pointer (some ⟨R,0,none⟩),.int .i64 gl] w λe w'=>e = .returned (.bool true)/\Below w.heap.size w w':=by
 obtain ⟨a,mt,Z,h⟩:=h;exact Ky h.v h.r gl
theorem cz.Dq (h:cz w D M R B7 B8 xn xm L m E w0):Calls Tryz.prog 8 #[.pointer (some ⟨D,0,none⟩)] w λe w'=>e = .returned (.tuple #[.int .i64 (xn.p:Int),.int .i64 (xn.d:Int)])/\Below w.heap.size w w':=by
 obtain ⟨a,mt,Z,h⟩:=h;exact h.v.Dq
end
def MG (l:List ai) (key:Int) (x:ai) (b:Bool):Prop:=(b=true/\x∈l/\x.key=key)\/(b=false/\x=ai.zero/\∀e∈l,e.key≠key)
def ag8 (l:List ai) (key:Int) (e:Ending):Prop := ∃ (x:ai) (b:Bool),e = .returned (.tuple #[.agg #[.int .u64 x.key,.int .u64 x.val,.int .u64 x.hash],.bool b])/\MG l key x b
theorem sG (v:Value) (l:List ai) (base:Nat) (key:Int) (w:World) (h:w.ownsRow base 46 3 v l.length (cB l)) (hl:l.length<=100000) :
 Calls Tryz.prog 23 #[v,.int .u64 key] w λe w'=>ag8 l key e/\Below w.heap.size w w':=by
 obtain ⟨a,cap,rfl,-,hrow⟩:=kL h;have Ha:=aa hrow;obtain ⟨n,hn⟩:=dC l.length;rw [<-hn];have HN:=aa hn;have hnb:n<=100000:=by omega
 clear hn;clear h hrow;go_enter Tryz.func23,Tryz.ntmps23
 go_upto_region 1 with (fail)
 refine bG (λW hW=>?_);have R1:=aa (show af W w.heap.size 46 #[.int .u64 0,.int .u64 0,.int .u64 0] by rw [hW];exact af.new _ _ _);have B1:=aa (show Below w.heap.size w W by rw [hW];go_grown);obtain ⟨z,hz⟩:=dC w.heap.size;rw [<-hz] at R1 ⊢;have HZ:=aa hz;clear hW hz;go_wp2;go_loopg [10] n (λgk v10 wr => ∃k:Nat,k+gk=n/\v10 = .int .i64 (k:Int)/\Below W.heap.size W wr/\∀i (hi:i<l.length),i<k->l[i].key≠key)
 case atStart=>exact ⟨0,by omega,rfl,aM _ _,λi hi h=>by omega⟩
 case round =>
  obtain ⟨k,hk,rfl,hB,hno⟩:=hrel;have KB:=aa hB;have NO:=aa hno;have KW:=aa (B1.out.trans (hB.mono B1.out.size));have KR:=aa (R1.out.below hB R1.out.lt);clear hB hno;by_cases aiX:k<n
  . have kJ:(k:Int)<(n:Int):=by omega
    have hlt:k<l.length:=by rw [<-HN.out];exact aiX
    obtain ⟨b,rfl,hbb,hbz,hcl⟩:=Ha.out (λe=>by rw [e] at hlt;exact absurd hlt (by simp));obtain ⟨g0,g1,g2⟩:=hcl k hlt;obtain ⟨en,hen⟩:=dC (l[k]);rw [<-hen] at g0 g1 g2;replace g0:=(KW.out.cell (p:=⟨b,k*3,none⟩) hbz).trans g0;replace g1:=(KW.out.cell (p:=⟨b,k*3+1,none⟩) hbz).trans g1;replace g2:=(KW.out.cell (p:=⟨b,k*3+2,none⟩) hbz).trans g2;have ai8:=bM hbz KW.out.size;have HEN:=aa hen;clear hcl hen hbb;go_upto_region 4 with (fail)
    refine bG (λw4 hw4=>?_);have hb4:Below wr.heap.size wr w4:=by rw [hw4];go_grown
    have B4:=aa (KB.out.trans (hb4.mono KB.out.size));have W4:=aa (KW.out.trans (hb4.mono KW.out.size));have R4:=aa (KR.out.below hb4 KR.out.lt);have P4:=aa (show af w4 wr.heap.size 46 #[.int .u64 en.key,.int .u64 en.val,.int .u64 en.hash] by rw [hw4];exact af.new _ _ _);obtain ⟨eb,Vj⟩:=dC wr.heap.size;rw [<-Vj] at P4 ⊢;replace hw4:=aa hw4;replace Vj:=aa Vj;obtain ⟨p0,p1,p2⟩:=cells3 P4.out;have zP:=P4.out.lt;obtain ⟨r0,r1,r2⟩:=cells3 R4.out;have zR:=R4.out.lt;have rf:=λj=>R4.out.frozen j;clear g0 g1 g2 ai8 hb4;by_cases hq:en.key=key
    . have hqB:(en.key == key)=true:=by simpa using hq
      have Qr:=aa (show MG l key en true from .inl ⟨rfl,by rw [HEN.out];exact List.getElem_mem hlt,hq⟩);obtain ⟨ek,ev,eh⟩:=en;simp only at p0 p1 p2 hqB hq;clear hq;go_wp2;refine aJ (λWf hWf=>?_);have hR:af Wf z 46 #[.int .u64 ek,.int .u64 ev,.int .u64 eh]:=by rw [hWf];exact ((R4.out.set 0 _).set 1 _).set 2 _
      have hC:ah (λb=>b=z) w4 Wf:=by rw [hWf];exact (((ah.refl _ _).set1 _ _).set1 _ _).set1 _ _
      obtain ⟨s0,s1,s2⟩:=cells3 hR;exact bodyPost_ret (v := .tuple #[.agg #[.int .u64 ek,.int .u64 ev,.int .u64 eh],.bool true]) (by simp [results,Tryz.results23,go_sem,s0,s1,s2]) rfl ⟨⟨⟨ek,ev,eh⟩,true,rfl,Qr.out⟩,W4.out.trans (hC.below W4.out.size (λc hc e=>by have:=HZ.out;omega))⟩
    . have hqB:(en.key == key)=false:=by simpa using hq
      have Qs:=aa (show ∀i (hi:i<l.length),i<k+1->l[i].key≠key from λi hi h=>by
       by_cases e:i=k
       . subst e;rw [<-HEN.out];exact hq
       . exact NO.out i hi (by omega))
      go_wp2;go_roundg (gk-1)
      case measure=>omega
      case rel=>exact ⟨k+1,by omega,by go_num,B4.out,Qs.out⟩
  . have Qr:=aa (show MG l key ai.zero false from .inr ⟨rfl,rfl,λe he=>by
     obtain ⟨i,hi,rfl⟩:=List.getElem_of_mem he
     exact NO.out i hi (by have:=HN.out;omega)⟩)
    obtain ⟨r0,r1,r2⟩:=cells3 KR.out;have zR:=KR.out.lt;have rf:=λj=>KR.out.frozen j;have hge:¬ (k:Int)<(n:Int):=by omega
    go_wp2;refine aJ (λWf hWf=>?_);have hR:af Wf z 46 #[.int .u64 0,.int .u64 0,.int .u64 0]:=by rw [hWf];exact ((KR.out.set 0 _).set 1 _).set 2 _
    have hC:ah (λb=>b=z) wr Wf:=by rw [hWf];exact (((ah.refl _ _).set1 _ _).set1 _ _).set1 _ _
    obtain ⟨s0,s1,s2⟩:=cells3 hR;exact bodyPost_ret (v := .tuple #[.agg #[.int .u64 0,.int .u64 0,.int .u64 0],.bool false]) (by simp [results,Tryz.results23,go_sem,s0,s1,s2]) rfl ⟨⟨ai.zero,false,rfl,Qr.out⟩,KW.out.trans (hC.below KW.out.size (λc hc e=>by have:=HZ.out;omega))⟩
end Go.Proofs.YtolhmibejhldkaaGreatDoor
namespace Go.Proofs.YtolhmibejhldkaaGreatDoor
open Go.RowKit Go.Proofs
structure nY (x:bH) (H:Int->Nat) (m:Int):Prop where
 c:jQ x.s H m
 i:x.bz=false->0<x.s.bare
 t:x.bz=true->x.s.k=2->x.d<5
section
variable {x:bH} {s:DuS} {H:Int->Nat} {m m':Int}
theorem nY.more (h:nY x H m) (hm:m<=m'):nY x H m':=⟨h.c.more hm,h.i,h.t⟩
theorem nY.put (h:nY x H m) (q v:Int) (hh:H q<18446744073709551616) (more:Bool):nY { x with s:=x.s.put q v (H q) more} H (m+1) :=
 ⟨h.c.put q v hh more,λe=>by show 0<(x.s.put q v (H q) more).bare;rw [(pF x.s q v (H q) more).2];exact h.i e,λe1 e2=>h.t e1 ((pF x.s q v (H q) more).1.symm.trans e2)⟩
theorem nY.del (h:nY x H m) (q:Int):nY { x with s:=x.s.del q (H q)} H m :=
 ⟨h.c.del q,λe=>by show 0<(x.s.del q (H q)).bare;rw [(Fz x.s q (H q)).2];exact h.i e,λe1 e2=>h.t e1 ((Fz x.s q (H q)).1.symm.trans e2)⟩
theorem QI (h:jQ s H m):s.T.lv<=m/\∀i,i<s.k->(s.U i).lv<=m:=by
 have h0:=h.f.t.good.bounds;have hc:=h.c;rcases h.k12 with e|e
 . rw [e,lG] at hc;have h1:=(h.f.ok.u 0 (by omega)).1.bounds
   exact ⟨by omega,λi hi=>by
    have:i=0:=by omega
    subst this
    omega⟩
 . rw [e,lF] at hc;have h1:=(h.f.ok.u 0 (by omega)).1.bounds;have h2:=(h.f.ok.u 1 (by omega)).1.bounds
   exact ⟨by omega,λi hi=>by
    have:i=0\/i=1:=by omega
    rcases this with e|e <;> subst e <;> omega⟩
theorem nY.Gy (h:nY x H m) (kind:Int) (hd:x.d<=5) (hbad:fK kind (x.s.T.n:Int)=0) (h3:kind=3->x.d<5):nY (x.Gy kind) H m:=by
 obtain ⟨-,-,b3⟩:=Cs hbad;rw [Fx] at b3;refine ⟨?_,λe=>(by cases e),λ_ e=>?_⟩
 rotate_left
 . refine h3 (Classical.byContradiction λk3=>?_);have:(if kind=3 then 2 else 1)=2:=e;rw [if_neg k3] at this;cases this
 unfold bH.Gy;by_cases k3:kind=3
 . simp only [if_pos k3];exact jQ.new (.inr ⟨rfl,by omega⟩) b3 h.c.f.t (QI h.c).1
 . simp only [if_neg k3];exact jQ.new (.inl rfl) b3 h.c.f.t (QI h.c).1
theorem jQ.ah9 (h:jQ s H m) (sw:∀q,H q<18446744073709551616) (hev:s.sH):jQ s.bX H m:=by
 unfold DuS.bX;split
 . rename_i h0
   split
   . rename_i hn
     exact h.move sw h0 hn (hev h0 hn)
   . exact h
 . exact h.je
theorem ads (s:DuS):s.bX.k=s.k:=by
 unfold DuS.bX;split
 . split <;> rfl
 . rfl
theorem nY.bX (h:nY x H m) (sw:∀q,H q<18446744073709551616) (hev:x.bz=true->x.s.sH):nY x.bX H m:=by
 unfold bH.bX;by_cases hz:x.bz=true
 . rw [if_pos hz];exact ⟨h.c.ah9 sw (hev hz),λe=>absurd hz (by rw [show x.bz=false from e];decide),λe1 e2=>h.t e1 ((ads x.s).symm.trans e2)⟩
 . rw [if_neg hz];exact h
theorem nY.idle {T:ae} (hT:bU T H) (hm:T.lv<=m) (p d:Nat):nY (bH.idle p d T) H m:=⟨jQ.new (.inl rfl) (by decide) hT hm,λ_=>(show 0<1*64 by decide),λe=>(by cases e)⟩
theorem nY.fin (h:nY x H m) (i p d:Nat) (hi:i<x.s.k):nY (bH.idle p d (x.s.U i)) H m:=nY.idle (h.c.f.u.f i hi) ((QI h.c).2 i hi) p d
theorem nY.new (d:Nat):nY (bH.idle 0 d (ae.new 1)) H 0:=nY.idle (bU.new (by decide) H) (by show (0:Int)<=0;decide) 0 d
theorem bH.acU (x:bH):(x.bz=true->x.s.sH)\/x.bad:=by
 by_cases hz:x.bz=true
 . by_cases h0:x.s.bare=0
   . by_cases hn:x.s.nx<x.s.T.n
     . by_cases he:nH x.s.k x.s.d (aS (x.s.T.M x.s.nx) (x.s.T.S x.s.nx)) x.s.U
       . exact .inl (λ_ _ _=>he)
       . exact .inr ⟨hz,h0,hn,he⟩
     . exact .inl (λ_ _ h=>absurd h hn)
   . exact .inl (λ_ h=>absurd h h0)
 . exact .inl (λh=>absurd h hz)
theorem QQ {T:ae} (hT:bU T H) {q:Int} (h:T.has q (H q)=true):∃e∈T.iG,e.key=q:=by
 obtain ⟨g,k,ha⟩:=hT.iN.1 h;exact ⟨T.S g k,Ov.2 ⟨g,k,ha.hg,ha.hk,ha.full,rfl⟩,ha.key⟩
theorem nY.agK (h:nY x H m) {q:Int} {e:ai} {b:Bool} (hf:MG x.all q e b):x.s.has q (H q)=b/\x.s.bA q (H q)=e:=by
 have hF:=h.c.f;rcases hf with ⟨rfl,he,rfl⟩ | ⟨rfl,rfl,hno⟩
 . unfold bH.all at he;by_cases hz:x.bz=true
   . rw [if_pos hz] at he;exact hF.mem he
   . rw [if_neg hz] at he;obtain ⟨i1,i2⟩:=jK (h.i (by simpa using hz)) e.key (H e.key);rw [i1,i2];exact Eo hF.t he
 . have hT:x.s.T.has q (H q)=false:=by
    rw [Bool.eq_false_iff];intro ht;obtain ⟨e,he,hk⟩:=QQ hF.t ht;refine hno e ?_ hk;unfold bH.all;by_cases hz:x.bz=true
    . rw [if_pos hz,jA,List.mem_append];exact .inl he
    . rw [if_neg hz];exact he
   by_cases hz:x.bz=true
   . have hU:(x.s.U (x.s.y (H q))).has q (H q)=false:=by
      rw [Bool.eq_false_iff];intro ht;obtain ⟨e,he,hk⟩:=QQ (hF.u.f _ (hF.ok.yk (H q))) ht;refine hno e ?_ hk;unfold bH.all;rw [if_pos hz,jA,List.mem_append];exact .inr (BX.2 ⟨_,hF.ok.yk (H q),he⟩)
     rw [hF.has_eq,hF.pY,hT,hU];exact ⟨rfl,by rw [if_neg (by decide)];exact bU.eu hT⟩
   . obtain ⟨i1,i2⟩:=jK (h.i (by simpa using hz)) q (H q);rw [i1,i2];exact ⟨hT,bU.eu hT⟩
theorem nY.MQ (h:nY x H m) (key hash:Int):x.MQ key hash=ae.dU x.all ⟨key,0,hash⟩:=by
 unfold bH.MQ bH.all;by_cases hz:x.bz=true
 . rw [if_pos hz,if_pos hz];exact h.c.f.U0 _
 . rw [if_neg hz,if_neg hz];rfl
theorem nY.len (h:nY x H m):(x.all.length:Int)<=m:=by
 unfold bH.all;by_cases hz:x.bz=true
 . rw [if_pos hz];exact h.c.len
 . rw [if_neg hz,kM h.c.f.t.good];exact (QI h.c).1
end
noncomputable def rC:Code:=((Tryz.f4.body.bind (mP 2)).getD .skip)
structure aff (w0 w7:World) (D M R B7 B8 A EB:Nat) (x:bH) (L:Nat->Prop) (m mc:Int) (E:Nat->Addr) (q h:Nat) (kd ky vN vv:Int) (H:Int->Nat):Prop where
 d:cz w7 D M R B7 B8 x x L m E w0
 a:af w7 A 44 #[.int .i64 kd,.int .i64 ky,.int .i64 vN]
 e:af w7 EB 46 #[.int .u64 (q:Int),.int .u64 vv,.int .u64 (h:Int)]
 kk:L A/\L EB
 i:nY x H mc
 hx:H (q:Int)=h
 gx:h<18446744073709551616
 hb:∀q,H q<18446744073709551616
 he:dR w0 E
 vv:IntKind.u64.wrap vN=vv
 m:m<=80000000
 mc:mc<=500
end Go.Proofs.YtolhmibejhldkaaGreatDoor
