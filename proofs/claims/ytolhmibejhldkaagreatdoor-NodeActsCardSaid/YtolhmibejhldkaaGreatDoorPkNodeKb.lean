/- Joined texts; conditions within. -/
import Derived.Test.YtolhmibejhldkaaGreatDoorPkNodeB
set_option linter.unusedVariables false
set_option linter.unusedSimpArgs false
set_option linter.unusedSectionVars false
set_option maxRecDepth 100000
set_option maxHeartbeats 16000000
namespace Go.Proofs.YtolhmibejhldkaaGreatDoor
open Go.RowKit Go.Proofs
attribute [local go_sem] neq_nilG eql_nilG
section
variable {w0 w7:World} {D M R B7 B8 A EB:Nat} {x:bH} {L:Nat->Prop} {m mc:Int} {E:Nat->Addr} {q h:Nat} {kd ky vN vv:Int} {H:Int->Nat} {Q:Exit->Act->World->Prop} {a:Act} {ct0 ct1 ct2 ct3 ct4 ct5 ct6 ct8 Qc Qb Qa P7 P6 aeV aeU aeS aeR aeQ aeP aeO aeN aeM aeL aeK aeJ aeH aeG aeF aeE aeD aeC aeB aeA aez aey aew aev aeu aet PZ PY PV PS PQ PO PN PM PK PI PH PG PD Pz Py Px Pw Pv Pt Ps Pq Pp Po Pn Pm Pk Pj Ph Pg Pf Pe Pd Pb O9 O8 O7 O6 O5 O4 O3 O1 O0 OZ OY OX OW OV OU OT OQ OO OM OL OJ OI OH Gp Gn Gm Gl Gj Gi Gh Gg Gf Gd Gc Gb Ga F9 F8 F7 F6 FZ FY FX FW FQ aas aar aaq aap aao aan aam aal aak aaj aai aah aag aaf aae aad aac aab aaa Z9 Z7 Z6 Z4 Z0 ZY ZX ZW ZV ZU ZT ZR ZQ ZP ZO ZN ZM ZL ZK ZJ ZI ZH ZG ZF ZE ZC ZB ZA Zz Zy Zx Zw Zv Zu Zt Zr Zq Zp Zo Zn Zm Zl Zk Zj Zi Zh Zg Zf Ze Zd Zc Zb Za Y3 Y2 Y1 Y0 YZ YY YX YW YV YU YS YR YQ YP YO YN YM YK YJ YI YH YG YF YE YD YC Yz Yy Yx Yw Yv Yu Yt Yr Yq Yp Yo Yn Ym Yl Yk Yj Yi Yh Yg Yf Ye Yd Yc Yb Ya X0 XZ XY XX XV XU XT XR XQ XP XO XN XM XK XJ XI XH XG XF XD XB Xz Xy Xx Xw Xv Xu Xr Xq Xp Xo Xn Xm Xl Xk Xj Xi Xh Xg Xf Xe Xd Xc Xb Xa W9 WZ WY WX WW WV WU WT WS WQ WO WM WL WJ WG WC WB WA Wz Wy Wx Ww Wv Wu Wt Ws Wq Wp Wo Wn Wm Wl Wj Wi Wh We Wd V7 V6 V5 VZ VY VX VW VV VU VT VR VQ VP VO VN VL FP FM FK FJ FH FD FC:Value}
variable (F:aff w0 w7 D M R B7 B8 A EB x L m mc E q h kd ky vN vv H) (ha:a=⟨#[ct0,ct1,ct2,ct3,ct4,ct5,ct6,.pointer (some ⟨B7,0,none⟩),ct8,.pointer (some ⟨R,0,none⟩),Qc,.pointer (some ⟨B8,0,none⟩),Qb,.pointer (some ⟨A,0,none⟩),Qa,.pointer (some ⟨EB,0,none⟩),P7,P6,aeV,aeU,aeS,aeR,aeQ,aeP,aeO,aeN,aeM,aeL,aeK,aeJ,aeH,aeG,aeF,aeE,aeD,aeC,aeB,aeA,aez,aey,aew,aev,aeu,aet,PZ,PY,PV,PS,PQ,PO,PN,PM,PK,PI,PH,PG,PD,Pz,Py,Px,Pw,Pv,Pt,Ps,Pq,Pp,Po,Pn,Pm,Pk,Pj,Ph,Pg,Pf,Pe,Pd,Pb,O9,O8,O7,O6,O5,O4,O3,O1,O0,OZ,OY,OX,OW,OV,OU,OT,OQ,OO,OM,OL,OJ,OI,OH,Gp,Gn,Gm,Gl,Gj,Gi,Gh,Gg,Gf,Gd,Gc,Gb,Ga,F9,F8,F7,F6,FZ,FY,FX,FW,FQ,.int .i64 kd,aas,aar,aaq,aap,aao,aan,aam,aal,aak,aaj,aai,aah,aag,aaf,aae,aad,aac,aab,aaa,Z9,Z7,Z6,Z4,Z0,ZY,ZX,ZW,ZV,ZU,ZT,ZR,ZQ,ZP,ZO,ZN,ZM,ZL,ZK,ZJ,ZI,ZH,ZG,ZF,ZE,ZC,ZB,ZA,Zz,Zy,Zx,Zw,Zv,Zu,Zt,Zr,Zq,Zp,Zo,Zn,Zm,Zl,Zk,Zj,Zi,Zh,Zg,Zf,Ze,Zd,Zc,Zb,Za,Y3,Y2,Y1,Y0,YZ,YY,YX,YW,YV,YU,YS,YR,YQ,YP,YO,YN,YM,YK,YJ,YI,YH,YG,YF,YE,YD,YC,Yz,Yy,Yx,Yw,Yv,Yu,Yt,Yr,Yq,Yp,Yo,Yn,Ym,Yl,Yk,Yj,Yi,Yh,Yg,Yf,Ye,Yd,Yc,Yb,Ya,X0,XZ,XY,XX,XV,XU,XT,XR,XQ,XP,XO,XN,XM,XK,XJ,XI,XH,XG,XF,XD,XB,Xz,Xy,Xx,Xw,Xv,Xu,Xr,Xq,Xp,Xo,Xn,Xm,Xl,Xk,Xj,Xi,Xh,Xg,Xf,Xe,Xd,Xc,Xb,Xa,W9,WZ,WY,WX,WW,WV,WU,WT,WS,WQ,WO,WM,WL,WJ,WG,WC,WB,WA,Wz,Wy,Wx,Ww,Wv,Wu,Wt,Ws,Wq,Wp,Wo,Wn,Wm,Wl,Wj,Wi,Wh,We,Wd,V7,V6,V5,VZ,VY,VX,VW,VV,VU,VT,VR,VQ,VP,VO,VN,VL,FP,FM,FK,FJ,FH,FD,FC],[]⟩)
variable (hQ:∀ (x':bH) (ut6 Jg Jf Je Jd Jc Jb Ja I9 I7 I6 I5 I4 I1 IZ IY IW IV IU IQ IP IM IL IJ II IG IE Av Au Ar Aq Ap Ao Am Al Ak Aj Ai Ah Ag Af Ae Ad Ac Ab Aa zZ zY zW zU zS zQ zO zL zK zJ zH zC zy zx zq zi y9 y8 y5 yZ yY yX yV yU yT yS yR yQ yP yO yN yM yL yK yJ yI yH yG yF yE yD yC yB yA yz yx yw yu yt yo yn ym yl yj yh yg yf yc x9 x8 xZ xY xX xW xV xU xS xR xQ xP xO xN xM xL xK xJ xI xH xG xE xD xC xB xA xz xy xx xw xu xq xk xh xg xe xc wZ wY wX wW wV wU wT wS wR wQ wP wO wN wM wK wJ wH wG wF wD wC wB wz wy wu wm wh vZ vY vX vW vV vU vT vS vR vQ vO vM vL vK vJ vI vH vG vF vD vC vz vw vo vk vg uZ uY uX uW uV uU uT uS uR uQ uP uO uN uM uL uK uJ uI uH uG uF uD uC uB uA uz uy uw uu uq uo um uk uj ui ug uf tZ tY tX tV tQ tO tN tL tK tJ tH tF tC tu sZ sW sU:Value) (wx:World),cz wx D M R B7 B8 x' x' L (m+200000) E w0->nY x' H (mc+1)->af wx A 44 #[.int .i64 kd,.int .i64 ky,.int .i64 vN]->Q .normal ⟨#[ct0,ct1,ct2,ct3,ct4,ct5,ut6,.pointer (some ⟨B7,0,none⟩),ct8,.pointer (some ⟨R,0,none⟩),Qc,.pointer (some ⟨B8,0,none⟩),Qb,.pointer (some ⟨A,0,none⟩),Qa,.pointer (some ⟨EB,0,none⟩),P7,P6,Jg,Jf,Je,Jd,Jc,Jb,Ja,I9,I7,I6,I5,I4,I1,IZ,IY,IW,IV,IU,IQ,IP,IM,IL,IJ,II,IG,IE,PZ,PY,PV,PS,PQ,PO,PN,PM,PK,PI,PH,PG,PD,Pz,Py,Px,Pw,Pv,Pt,Ps,Pq,Pp,Po,Pn,Pm,Pk,Pj,Ph,Pg,Pf,Pe,Pd,Pb,O9,O8,O7,O6,O5,O4,O3,O1,O0,OZ,OY,OX,OW,OV,OU,OT,OQ,OO,OM,OL,OJ,OI,OH,Gp,Gn,Gm,Gl,Gj,Gi,Gh,Gg,Gf,Gd,Gc,Gb,Ga,F9,F8,F7,F6,FZ,FY,FX,FW,FQ,.int .i64 kd,Av,Au,Ar,Aq,Ap,Ao,Am,Al,Ak,Aj,Ai,Ah,Ag,Af,Ae,Ad,Ac,Ab,Aa,zZ,zY,zW,zU,zS,zQ,zO,zL,zK,zJ,zH,zC,zy,zx,zq,zi,y9,y8,y5,yZ,yY,yX,yV,yU,yT,yS,yR,yQ,yP,yO,yN,yM,yL,yK,yJ,yI,yH,yG,yF,yE,yD,yC,yB,yA,yz,yx,yw,yu,yt,yo,yn,ym,yl,yj,yh,yg,yf,yc,x9,x8,xZ,xY,xX,xW,xV,xU,xS,xR,xQ,xP,xO,xN,xM,xL,xK,xJ,xI,xH,xG,xE,xD,xC,xB,xA,xz,xy,xx,xw,xu,xq,xk,xh,xg,xe,xc,wZ,wY,wX,wW,wV,wU,wT,wS,wR,wQ,wP,wO,wN,wM,wK,wJ,wH,wG,wF,wD,wC,wB,wz,wy,wu,wm,wh,vZ,vY,vX,vW,vV,vU,vT,vS,vR,vQ,vO,vM,vL,vK,vJ,vI,vH,vG,vF,vD,vC,vz,vw,vo,vk,vg,uZ,uY,uX,uW,uV,uU,uT,uS,uR,uQ,uP,uO,uN,uM,uL,uK,uJ,uI,uH,uG,uF,uD,uC,uB,uA,uz,uy,uw,uu,uq,uo,um,uk,uj,ui,ug,uf,tZ,tY,tX,tV,tQ,tO,tN,tL,tK,tJ,tH,tF,tC,tu,sZ,sW,sU,FP,FM,FK,FJ,FH,FD,FC],[]⟩ wx)
variable (oH:Hid (∀ (c:List PanicEntry) (a:Act) (d:Option Tmp) (v:Value) (w:World),Q (.panic c) (a.put d v) w->Q (.panic c) a w))
variable (hR:∀ (Jg Jf Je Jd Jc Jb Ja I9 I7 I6 I5 I4 I1 IZ IY IW IV IU IQ IP IM IL IJ II IG IE Av Au Ar Aq Ap Ao Am Al Ak Aj Ai Ah Ag Af Ae Ad Ac Ab Aa zZ zY zW zU zS zQ zO zL zK zJ zH zC zy zx zq zi y9 y8 y5 yZ yY yX yV yU yT yS yR yQ yP yO yN yM yL yK yJ yI yH yG yF yE yD yC yB yA yz yx yw yu yt yo yn ym yl yj yh yg yf yc x9 x8 xZ xY xX xW xV xU xS xR xQ xP xO xN xM xL xK xJ xI xH xG xE xD xC xB xA xz xy xx xw xu xq xk xh xg xe xc wZ wY wX wW wV wU wT wS wR wQ wP wO wN wM wK wJ wH wG wF wD wC wB wz wy wu wm wh vZ vY vX vW vV vU vT vS vR vQ vO vM vL vK vJ vI vH vG vF vD vC vz vw vo vk vg uZ uY uX uW uV uU uT uS uR uQ uP uO uN uM uL uK uJ uI uH uG uF uD uC uB uA uz uy uw uu uq uo um uk uj ui ug uf tZ tY tX tV tQ tO tN tL tK tJ tH tF tC tu sZ sW sU:Value) (wx:World),Below w0.heap.size w0 wx->Q .ret ⟨#[ct0,ct1,ct2,ct3,ct4,ct5,.bool true,.pointer (some ⟨B7,0,none⟩),ct8,.pointer (some ⟨R,0,none⟩),Qc,.pointer (some ⟨B8,0,none⟩),Qb,.pointer (some ⟨A,0,none⟩),Qa,.pointer (some ⟨EB,0,none⟩),P7,P6,Jg,Jf,Je,Jd,Jc,Jb,Ja,I9,I7,I6,I5,I4,I1,IZ,IY,IW,IV,IU,IQ,IP,IM,IL,IJ,II,IG,IE,PZ,PY,PV,PS,PQ,PO,PN,PM,PK,PI,PH,PG,PD,Pz,Py,Px,Pw,Pv,Pt,Ps,Pq,Pp,Po,Pn,Pm,Pk,Pj,Ph,Pg,Pf,Pe,Pd,Pb,O9,O8,O7,O6,O5,O4,O3,O1,O0,OZ,OY,OX,OW,OV,OU,OT,OQ,OO,OM,OL,OJ,OI,OH,Gp,Gn,Gm,Gl,Gj,Gi,Gh,Gg,Gf,Gd,Gc,Gb,Ga,F9,F8,F7,F6,FZ,FY,FX,FW,FQ,.int .i64 kd,Av,Au,Ar,Aq,Ap,Ao,Am,Al,Ak,Aj,Ai,Ah,Ag,Af,Ae,Ad,Ac,Ab,Aa,zZ,zY,zW,zU,zS,zQ,zO,zL,zK,zJ,zH,zC,zy,zx,zq,zi,y9,y8,y5,yZ,yY,yX,yV,yU,yT,yS,yR,yQ,yP,yO,yN,yM,yL,yK,yJ,yI,yH,yG,yF,yE,yD,yC,yB,yA,yz,yx,yw,yu,yt,yo,yn,ym,yl,yj,yh,yg,yf,yc,x9,x8,xZ,xY,xX,xW,xV,xU,xS,xR,xQ,xP,xO,xN,xM,xL,xK,xJ,xI,xH,xG,xE,xD,xC,xB,xA,xz,xy,xx,xw,xu,xq,xk,xh,xg,xe,xc,wZ,wY,wX,wW,wV,wU,wT,wS,wR,wQ,wP,wO,wN,wM,wK,wJ,wH,wG,wF,wD,wC,wB,wz,wy,wu,wm,wh,vZ,vY,vX,vW,vV,vU,vT,vS,vR,vQ,vO,vM,vL,vK,vJ,vI,vH,vG,vF,vD,vC,vz,vw,vo,vk,vg,uZ,uY,uX,uW,uV,uU,uT,uS,uR,uQ,uP,uO,uN,uM,uL,uK,uJ,uI,uH,uG,uF,uD,uC,uB,uA,uz,uy,uw,uu,uq,uo,um,uk,uj,ui,ug,uf,tZ,tY,tX,tV,tQ,tO,tN,tL,tK,tJ,tH,tF,tC,tu,sZ,sW,sU,FP,FM,FK,FJ,FH,FD,FC],[]⟩ wx)
include F ha hQ oH hR
theorem aiw (hkd:kd=3):Code.wp Tryz.prog rC Q a w7:=by
 subst ha;subst hkd
 conv=>arg 2;whnf
 have D7:=aa F.d;have A7:=aa F.a;have E7:=aa F.e;have HKK:=aa F.kk;have HI:=aa F.i;have Rf:=aa F.hx;have Dj:=F.gx;have TF:=aa F.hb;have HE:=aa F.he;have hv0:=F.vv;have hm8:=F.m;have hmc:=F.mc;have HQ:=aa hQ;have HR:=aa hR;have hd5:=D7.out.pd.1;clear hQ hR F;have DE:=aa (λ(L9:Nat->Prop) (w':World) (h':cz w' D M R B7 B8 x x L9 m E w0)=>h'.find (q:Int) h Dj 1 0 0);have AL:=aa (λ(w':World) (L9:Nat->Prop) (h':cz w' D M R B7 B8 x x L9 m E w0)=>h'.af7);have HI2:=aa (HI.out.more (m':=mc+1) (by omega));have hal:x.all.length<=100000:=by have:=HI.out.len;omega
 have HFR:=aa (show ∀e b,MG x.all (q:Int) e b->x.s.has (q:Int) h=b/\x.s.bA (q:Int) h=e from λe b hf=>by
  have:=HI.out.agK hf
  rw [Rf.out] at this;exact this)
 obtain ⟨x2,hx2⟩:∃x2:bH,x2=x:=⟨_,rfl⟩
 subst hx2;generalize x2.s.has (q:Int) h=bb at *
 generalize x2.s.bA (q:Int) h=en at *
 obtain ⟨en0,en1,en2⟩:=en;simp only at DE;generalize x2.all=xl at *
 obtain ⟨a0,a1,Q9⟩:=cells3 A7.out;have za:=A7.out.lt;obtain ⟨e0,e1,e2⟩:=cells3 E7.out;have ze:=E7.out.lt;have m5:=D7.out.gG.1.cell 0;have Qv:=D7.out.gG.1.lt;have m8:=D7.out.gG.2.cell 0;have TJ:=D7.out.gG.2.lt;have hX5:¬KC L w0.heap.size B7:=λe=>e.2 D7.out.ll.1;have hX8:¬KC L w0.heap.size B8:=λe=>e.2 D7.out.ll.2;have hXE:¬KC L w0.heap.size EB:=λe=>e.2 HKK.out.2;have hXA:¬KC L w0.heap.size A:=λe=>e.2 HKK.out.1;go_upto_region 44 with (fail)
 go_cut [26,27] from 226 to 236 (λvP vB wx => ∃P9,vP = .pointer (some ⟨P9,0,none⟩)/\vB = .bool bb/\af wx P9 46 #[.int .u64 en0,.int .u64 en1,.int .u64 en2]/\cz wx D M R B7 B8 x2 x2 (KL L P9) m E w0/\af wx A 44 #[.int .i64 3,.int .i64 ky,.int .i64 vN]/\af wx EB 46 #[.int .u64 (q:Int),.int .u64 vv,.int .u64 (h:Int)]/\w7.heap.size<=P9)
 case first =>
  refine cZ (KC L w0.heap.size) #[⟨0,0,2^227,128,1⟩,⟨0,0,2^228,2048,1⟩,⟨2,2,2^229,2^228,2⟩,⟨0,0,2^230,2^15,0⟩,⟨8,8,2^231,2^230,1⟩,⟨0,0,2^232,2^15,0⟩,⟨32,32,2^233,2^232,1⟩,⟨85,127,2^234,18332763733662435060373570259173348858073258207327589287150454969466880,3⟩,⟨128,255,2^226,2^234,0⟩,⟨256,511,2^235,2^226,0⟩,⟨256,511,2^236,2^226,0⟩,⟨0,0,2^26,0,2⟩,⟨3071,3071,0,(2^26+2^235),3⟩,⟨8191,8191,2^27,2^236,0⟩] 83 (.step 0 1 (.step 1 1 (.step 3 0 (.step 4 1 (.step 5 0 (.step 6 1 (.fork (.alt 2 (.fork (.alt 7 (.step 8 0 (.step 9 0 (.step 10 0 (.step 11 2 (.step 12 3 (.step 13 0 bu.done)))))) (.alt 11 (.step 7 3 (.step 8 0 (.step 9 0 (.step 10 0 (.step 12 3 (.step 13 0 bu.done)))))) bu.none))) (.alt 11 (.step 2 2 (.step 7 3 (.step 8 0 (.step 9 0 (.step 10 0 (.step 12 3 (.step 13 0 bu.done))))))) bu.none))))))))) (by kernel_rfl) (by decide +kernel) (by kernel_rfl) (by kernel_rfl) (by kernel_rfl) (by decide +kernel) (λc a d v w h=>oH.out c a d v w h) ?_;refine qV Tryz.underlying25 ?_
  try refine bF ?_
  refine qV Tryz.underlying33 ?_
  try refine bF ?_;refine cO ?_
  refine qV Tryz.underlying38 ?_
  try refine bF ?_;refine cO ?_
  refine qV Tryz.underlying38 ?_
  try refine bF ?_
  refine BH (λK hK=>?_) λK hK=>?_
  (go_wp2_with ((go_at_call 11;(with_reducible refine (fT _ _).mono ?_);(rintro e w8 ⟨rfl,gM⟩;(try dsimp only);(((have D4:Hid (cz w8 D M R B7 B8 x2 x2 L m E w0):=aa (D7.out.drew.later gM);have A4:=aa (A7.out.drew.below gM A7.out.drew.lt);have E4:=aa (E7.out.drew.below gM E7.out.drew.lt);have z4:w7.heap.size<=w8.heap.size:=gM.size))))));refine eQ hK (h:=?_);clear hK K)
  try refine bF ?_
  refine BH (λK hK=>?_) λK hK=>?_
  (go_wp2_with ((go_at_call 18;((with_reducible refine (DE.out _ _ (by exact D4.out)).mono ?_);rintro e w9 ⟨rfl,sS,dH⟩;(try dsimp only);(((have D5:Hid (cz w9 D M R B7 B8 x2 x2 L m E w0):=aa sS;have A5:=aa (A4.out.aA dH (λe=>e.2 HKK.out.1));have E5:=aa (E4.out.aA dH (λe=>e.2 HKK.out.2));have z5:w7.heap.size<=w9.heap.size:=qH z4 dH.size))))));refine eQ hK (h:=?_);clear hK K)
  try refine bF ?_;refine cO ?_;refine cO ?_;refine cO ?_
  refine qU λK hK=>?_;go_wp2_with (fail);refine eQ hK (h:=?_);clear hK K
  try refine bF ?_
  refine iC λK hK=>?_;go_wp2_with (fail);refine hK.out _ _ ?_;clear hK K
  try refine bF ?_;refine cO ?_
  refine bP ?_
  rotate_left 1
  (go_wp2_with (fail);refine eQ hK (h:=?_);clear hK K)
  try refine bF ?_
  refine iC λK hK=>?_;go_wp2_with ((go_at_call 18;((with_reducible refine (DE.out _ _ (by exact (cz.kI D4.out _))).mono ?_);rintro e w9 ⟨rfl,sS,dH⟩;(try dsimp only);(((have D5:Hid (cz w9 D M R B7 B8 x2 x2 (KL L w8.heap.size) m E w0):=aa sS;have A5:=aa ((A4.out.alloc _).aA dH (λe=>e.2 (.inl HKK.out.1)));have E5:=aa ((E4.out.alloc _).aA dH (λe=>e.2 (.inl HKK.out.2)));have hcX:ah (KC L w0.heap.size) _ w9:=dH.mono (λb _ e=>⟨e.1,λe2=>e.2 (Or.inl e2)⟩);have P5:Hid (af w9 w8.heap.size 46 #[.int .u64 0,.int .u64 0,.int .u64 0]):=aa ((af.new w8 _ _).aA dH (λe=>e.2 (Or.inr rfl)));have q5:=cells3 P5.out;have p50:=q5.1;have p51:=q5.2.1;have p52:=q5.2.2;clear q5;have pf5:=λj=>P5.out.frozen j;have zP5:=P5.out.lt;have HPz:=aa D4.out.fresh;have HPA:=aa (And.intro (Nat.ne_of_gt A4.out.lt) (Nat.ne_of_gt E4.out.lt));have z5:=z4))))));refine hK.out _ _ ?_;clear hK K
  try refine bF ?_;refine cO ?_;refine cO ?_;refine cO ?_
  refine iC λK hK=>?_;go_wp2_with (fail);refine hK.out _ _ ?_;clear hK K
  try refine bF ?_;refine cO ?_
  refine bP ?_
  rotate_left 1
  rotate_right 2
  rotate_left 2
  (go_wp2_with (fail);refine eQ hK (h:=?_);clear hK K)
  try refine bF ?_
  refine qU λK hK=>?_;go_wp2_with ((go_at_call 11;(with_reducible refine (fT _ _).mono ?_);(rintro e w8 ⟨rfl,gM⟩;(try dsimp only);(((have D4:Hid (cz w8 D M R B7 B8 x2 x2 (KL L w7.heap.size) m E w0):=aa ((cz.kI D7.out.drew _).later gM);have A4:=aa ((A7.out.drew.alloc _).below gM (A7.out.drew.alloc _).lt);have E4:=aa ((E7.out.drew.alloc _).below gM (E7.out.drew.alloc _).lt);have P4:Hid (af w8 w7.heap.size 46 #[.int .u64 0,.int .u64 0,.int .u64 0]):=aa (af.below (af.new w7.drew _ _) gM (by simp));have z4:w7.heap.size<=w8.heap.size:=Nat.le_of_lt P4.out.lt))))));refine eQ hK (h:=?_);clear hK K
  try refine bF ?_
  refine iC λK hK=>?_;go_wp2_with ((go_at_call 18;((with_reducible refine (DE.out _ _ (by exact D4.out)).mono ?_);rintro e w9 ⟨rfl,sS,dH⟩;(try dsimp only);(((have D5:Hid (cz w9 D M R B7 B8 x2 x2 (KL L w7.heap.size) m E w0):=aa sS;have A5:=aa (A4.out.aA dH (λe=>e.2 (.inl HKK.out.1)));have E5:=aa (E4.out.aA dH (λe=>e.2 (.inl HKK.out.2)));have hcX:ah (KC L w0.heap.size) _ w9:=dH.mono (λb _ e=>⟨e.1,λe2=>e.2 (Or.inl e2)⟩);have P5:Hid (af w9 w7.heap.size 46 #[.int .u64 0,.int .u64 0,.int .u64 0]):=aa (P4.out.aA dH (λe=>e.2 (Or.inr rfl)));have q5:=cells3 P5.out;have p50:=q5.1;have p51:=q5.2.1;have p52:=q5.2.2;clear q5;have pf5:=λj=>P5.out.frozen j;have zP5:=P5.out.lt;have HPz:=aa D7.out.fresh;have HPA:=aa (And.intro (Nat.ne_of_gt A7.out.lt) (Nat.ne_of_gt E7.out.lt));have z5:=aL w7.heap.size))))));refine hK.out _ _ ?_;clear hK K
  try refine bF ?_;refine cO ?_;refine cO ?_;refine cO ?_
  refine iC λK hK=>?_;go_wp2_with (fail);refine hK.out _ _ ?_;clear hK K
  try refine bF ?_;refine cO ?_
  refine bP ?_
  rotate_left 1
  rotate_right 3
  all_goals (go_wp2;go_meet)
  all_goals
   first
    | exact ⟨_,rfl,rfl,af.new _ _ _,D5.out.kI _,A5.out.alloc _,E5.out.alloc _,z5⟩
    | exact ⟨_,rfl,rfl,((P5.out.set 0 _).set 1 _).set 2 _,cz.kept D5.out (((ah.refl _ _).set1 _ _).set1 _ _ |>.set1 _ _) (λb e=>by rw [e];exact ⟨.inr rfl,HPz.out⟩),A5.out.aA (((ah.refl (λb=>b=_) _).set1 _ _).set1 _ _ |>.set1 _ _) (λe=>HPA.out.1 e.symm),E5.out.aA (((ah.refl (λb=>b=_) _).set1 _ _).set1 _ _ |>.set1 _ _) (λe=>HPA.out.2 e.symm),z5⟩
 obtain ⟨P9,rfl,rfl,QR,sS,hA9,hE9,hPw⟩:=hcut;have N9:=aa sS;have Rc:=aa QR;have A9:=aa hA9;have E9:=aa hE9;obtain ⟨e90,e91,e92⟩:=cells3 E9.out;have ze9:=E9.out.lt;obtain ⟨a90,a91,a92⟩:=cells3 A9.out;have za9:=A9.out.lt;clear sS hA9 hE9 QR a0 a1 Q9 za e0 e1 e2 ze m5 Qv m8 TJ hX5 hX8 hXE hXA DE;go_upto_region 45 with (fail)
 refine bG (λW hW=>?_);have NW:=aa (show cz W D M R B7 B8 x2 x2 (KL L P9) m E w0 by rw [hW];exact N9.out);have AW:=aa (show af W A 44 #[.int .i64 3,.int .i64 ky,.int .i64 vN] by rw [hW];exact A9.out);have EW:=aa (show af W EB 46 #[.int .u64 (q:Int),.int .u64 vv,.int .u64 (h:Int)] by rw [hW];exact E9.out);have PW:=aa (show af W P9 46 #[.int .u64 en0,.int .u64 en1,.int .u64 en2] by rw [hW];exact Rc.out);obtain ⟨f0,f1,f2⟩:=cells3 EW.out;have zf:=EW.out.lt;obtain ⟨b0,b1,b2⟩:=cells3 AW.out;have zb:=AW.out.lt;clear hW e90 e91 e92 ze9 a90 a91 a92 za9 N9 A9 E9 Rc;go_cut [28,29] from 237 to 244 (λvP vB wx => ∃P8,vP = .pointer (some ⟨P8,0,none⟩)/\vB = .bool bb/\af wx P8 46 #[.int .u64 en0,.int .u64 en1,.int .u64 en2]/\Below W.heap.size W wx)
 case first =>
  have hdA:=ah.lL (λ_=>False) W (.cells #[.int .u64 0,.int .u64 0,.int .u64 0] 46);refine cZ (λ_=>False) #[⟨0,0,2^238,512,0⟩,⟨1,1,2^239,2^238,2⟩,⟨0,0,2^240,2^15,0⟩,⟨4,4,2^241,2^240,1⟩,⟨10,15,2^242,(2^239+2^241),3⟩,⟨16,31,2^237,2^242,0⟩,⟨32,63,2^243,2^237,0⟩,⟨32,63,2^244,2^237,0⟩,⟨0,0,2^28,0,2⟩,⟨383,383,0,(2^28+2^243),3⟩,⟨1023,1023,2^29,2^244,0⟩] 8 (.step 0 0 (.step 2 0 (.step 3 1 (.fork (.alt 1 (.fork (.alt 4 (.step 5 0 (.step 6 0 (.step 7 0 (.step 8 2 (.step 9 3 (.step 10 0 bu.done)))))) (.alt 8 (.step 4 3 (.step 5 0 (.step 6 0 (.step 7 0 (.step 9 3 (.step 10 0 bu.done)))))) bu.none))) (.alt 8 (.step 1 2 (.step 4 3 (.step 5 0 (.step 6 0 (.step 7 0 (.step 9 3 (.step 10 0 bu.done))))))) bu.none)))))) (by kernel_rfl) (by decide +kernel) (by kernel_rfl) (by kernel_rfl) (by kernel_rfl) (by decide +kernel) (λc a d v w h=>oH.out c a d v w h) ?_;refine cO ?_;refine cO ?_;refine qV Tryz.underlying38 ?_
  try refine bF ?_
  refine BH (λK hK=>?_) λK hK=>?_
  (go_wp2_with ((go_at_call 24;((with_reducible refine (AL.out _ _ (by exact NW.out.drew)).mono ?_);rintro e w8 ⟨av,rfl,MR,gM⟩;(try dsimp only);have ad7:ah (λ_=>False) _ w8:=ah.of_below gM;(((have B8:Hid (Below W.heap.size W w8):=aa ((aM _ _).drew.trans gM);have R8:=aa MR))))));refine eQ hK (h:=?_);clear hK K)
  try refine bF ?_
  refine BH (λK hK=>?_) λK hK=>?_
  (go_wp2_with ((go_at_call 23;((with_reducible refine (sG _ _ _ (q:Int) _ (by exact R8.out) hal).mono ?_);rintro e w9 ⟨⟨fx,fb,rfl,hfr⟩,pR⟩;obtain ⟨rfl,rfl⟩:=HFR.out _ _ hfr;(try dsimp only);((have B9:Hid (Below W.heap.size W w9):=aa (B8.out.trans (pR.mono B8.out.size))));(skip);have Vk:ah (λ_=>False) _ w9:=ah.of_below pR)));refine eQ hK (h:=?_);clear hK K)
  try refine bF ?_;refine cO ?_;refine cO ?_;refine cO ?_
  refine qU λK hK=>?_;go_wp2_with (fail);refine eQ hK (h:=?_);clear hK K
  try refine bF ?_
  refine iC λK hK=>?_;go_wp2_with (fail);refine hK.out _ _ ?_;clear hK K
  try refine bF ?_;refine cO ?_
  refine bP ?_
  rotate_left 1
  (go_wp2_with (fail);refine eQ hK (h:=?_);clear hK K)
  try refine bF ?_
  refine iC λK hK=>?_;go_wp2_with ((go_at_call 23;((with_reducible refine (sG _ _ _ (q:Int) _ (by exact aB R8.out ((aM _ _).alloc (aL _) _)) hal).mono ?_);rintro e w9 ⟨⟨fx,fb,rfl,hfr⟩,pR⟩;obtain ⟨rfl,rfl⟩:=HFR.out _ _ hfr;(try dsimp only);((have B9:Hid (Below W.heap.size W w9):=aa ((B8.out.alloc B8.out.size _).trans (pR.mono (qH B8.out.size (by simp))))));(((have P5:Hid (af w9 w8.heap.size 46 #[.int .u64 0,.int .u64 0,.int .u64 0]):=aa ((af.new w8 _ _).below pR (by simp));have z5:W.heap.size<=w8.heap.size:=B8.out.size;have q5:=cells3 P5.out;have p50:=q5.1;have p51:=q5.2.1;have p52:=q5.2.2;clear q5;have pf5:=λj=>P5.out.frozen j;have zP5:=P5.out.lt)));have Vk:ah (λ_=>False) _ w9:=ah.of_below pR)));refine hK.out _ _ ?_;clear hK K
  try refine bF ?_;refine cO ?_;refine cO ?_;refine cO ?_
  refine iC λK hK=>?_;go_wp2_with (fail);refine hK.out _ _ ?_;clear hK K
  try refine bF ?_;refine cO ?_
  refine bP ?_
  rotate_left 1
  rotate_right 2
  rotate_left 2
  (go_wp2_with (fail);refine eQ hK (h:=?_);clear hK K)
  try refine bF ?_
  refine qU λK hK=>?_;go_wp2_with ((go_at_call 24;((with_reducible refine (AL.out _ _ (by exact NW.out.drew.later ((aM _ _).alloc (aL _) _))).mono ?_);rintro e w8 ⟨av,rfl,MR,gM⟩;(try dsimp only);have ad7:ah (λ_=>False) _ w8:=ah.of_below gM;(((have B8:Hid (Below W.heap.size W w8):=aa (((aM W.heap.size W).drew.alloc (aL _) _).trans (gM.mono (by simp)));have R8:=aa MR;have P4:Hid (af w8 W.heap.size 46 #[.int .u64 0,.int .u64 0,.int .u64 0]):=aa (af.below (af.new W.drew _ _) gM (by simp))))))));refine eQ hK (h:=?_);clear hK K
  try refine bF ?_
  refine iC λK hK=>?_;go_wp2_with ((go_at_call 23;((with_reducible refine (sG _ _ _ (q:Int) _ (by exact R8.out) hal).mono ?_);rintro e w9 ⟨⟨fx,fb,rfl,hfr⟩,pR⟩;obtain ⟨rfl,rfl⟩:=HFR.out _ _ hfr;(try dsimp only);((have B9:Hid (Below W.heap.size W w9):=aa (B8.out.trans (pR.mono B8.out.size))));(((have P5:=aa (P4.out.below pR P4.out.lt);have z5:W.heap.size<=W.heap.size:=aL _;have q5:=cells3 P5.out;have p50:=q5.1;have p51:=q5.2.1;have p52:=q5.2.2;clear q5;have pf5:=λj=>P5.out.frozen j;have zP5:=P5.out.lt)));have Vk:ah (λ_=>False) _ w9:=ah.of_below pR)));refine hK.out _ _ ?_;clear hK K
  try refine bF ?_;refine cO ?_;refine cO ?_;refine cO ?_
  refine iC λK hK=>?_;go_wp2_with (fail);refine hK.out _ _ ?_;clear hK K
  try refine bF ?_;refine cO ?_
  refine bP ?_
  rotate_left 1
  rotate_right 3
  all_goals (go_wp2;go_meet)
  all_goals
   first
    | exact ⟨_,rfl,rfl,af.new _ _ _,B9.out.alloc B9.out.size _⟩
    | exact ⟨_,rfl,rfl,((P5.out.set 0 _).set 1 _).set 2 _,B9.out.trans (ah.below (X:=λb=>b=_) (((ah.refl _ _).set1 _ _).set1 _ _ |>.set1 _ _) B9.out.size (λk hk e=>by omega))⟩
 obtain ⟨P8,rfl,rfl,QR,hbW⟩:=hcut;have P8b:=aa QR;have Cu:=aa (NW.out.later hbW);have BK:=aa (AW.out.below hbW AW.out.lt);have P10:=aa (PW.out.below hbW PW.out.lt);obtain ⟨p0,p1,p2⟩:=cells3 P10.out;have zp:=P10.out.lt;obtain ⟨r0,r1,r2⟩:=cells3 P8b.out;have zr:=P8b.out.lt;clear QR hbW f0 f1 f2 zf b0 b1 b2 zb;go_wp2;exact HQ.out x2 _ _ _ _ _ _ _ _ _ _ _ _ _ _ _ _ _ _ _ _ _ _ _ _ _ _ _ _ _ _ _ _ _ _ _ _ _ _ _ _ _ _ _ _ _ _ _ _ _ _ _ _ _ _ _ _ _ _ _ _ _ _ _ _ _ _ _ _ _ _ _ _ _ _ _ _ _ _ _ _ _ _ _ _ _ _ _ _ _ _ _ _ _ _ _ _ _ _ _ _ _ _ _ _ _ _ _ _ _ _ _ _ _ _ _ _ _ _ _ _ _ _ _ _ _ _ _ _ _ _ _ _ _ _ _ _ _ _ _ _ _ _ _ _ _ _ _ _ _ _ _ _ _ _ _ _ _ _ _ _ _ _ _ _ _ _ _ _ _ _ _ _ _ _ _ _ _ _ _ _ _ _ _ _ _ _ _ _ _ _ _ _ _ _ _ _ _ _ _ _ _ _ _ _ _ _ _ _ _ _ _ _ _ _ _ _ _ _ _ _ _ _ _ _ _ _ _ _ _ _ _ _ _ _ _ _ _ _ _ _ _ _ _ _ _ _ _ _ _ ((Cu.out.own (λb e => .inl e) D7.out.ll).more (by omega)) HI2.out BK.out
theorem aiv (hkd:kd=4):Code.wp Tryz.prog rC Q a w7:=by
 subst ha;subst hkd
 conv=>arg 2;whnf
 have D7:=aa F.d;have A7:=aa F.a;have E7:=aa F.e;have HKK:=aa F.kk;have HI:=aa F.i;have Rf:=aa F.hx;have Dj:=F.gx;have TF:=aa F.hb;have HE:=aa F.he;have hv0:=F.vv;have hm8:=F.m;have hmc:=F.mc;have HQ:=aa hQ;have HR:=aa hR;have hd5:=D7.out.pd.1;clear hQ hR F;have DE:=aa (λ(L9:Nat->Prop) (w':World) (h':cz w' D M R B7 B8 x x L9 m E w0)=>h'.least vv (h:Int) 1 0 0);have AL:=aa (λ(w':World) (L9:Nat->Prop) (h':cz w' D M R B7 B8 x x L9 m E w0)=>h'.af7);have HI2:=aa (HI.out.more (m':=mc+1) (by omega));have hal:x.all.length<=1000:=by have:=HI.out.len;omega
 have LL:=aa (λ(w':World) (v:Value) (base:Nat) (hr:w'.ownsRow base 46 3 v x.all.length (cB x.all))=>Nr v x.all base (h:Int) vv w' hr hal);have hls:=HI.out.MQ vv (h:Int);rw [hls] at DE;clear hls;obtain ⟨x2,hx2⟩:∃x2:bH,x2=x:=⟨_,rfl⟩
 subst hx2;generalize ae.dU x2.all ⟨vv,0,(h:Int)⟩=res at *
 obtain ⟨⟨en0,en1,en2⟩,bb⟩:=res;simp only at DE LL;generalize x2.all=xl at *
 obtain ⟨a0,a1,Q9⟩:=cells3 A7.out;have za:=A7.out.lt;obtain ⟨e0,e1,e2⟩:=cells3 E7.out;have ze:=E7.out.lt;have m5:=D7.out.gG.1.cell 0;have Qv:=D7.out.gG.1.lt;have m8:=D7.out.gG.2.cell 0;have TJ:=D7.out.gG.2.lt;have hX5:¬KC L w0.heap.size B7:=λe=>e.2 D7.out.ll.1;have hX8:¬KC L w0.heap.size B8:=λe=>e.2 D7.out.ll.2;have hXE:¬KC L w0.heap.size EB:=λe=>e.2 HKK.out.2;have hXA:¬KC L w0.heap.size A:=λe=>e.2 HKK.out.1;go_upto_region 49 with (fail)
 go_cut [30,31] from 255 to 266 (λvP vB wx => ∃P9,vP = .pointer (some ⟨P9,0,none⟩)/\vB = .bool bb/\af wx P9 46 #[.int .u64 en0,.int .u64 en1,.int .u64 en2]/\cz wx D M R B7 B8 x2 x2 (KL L P9) m E w0/\af wx A 44 #[.int .i64 4,.int .i64 ky,.int .i64 vN]/\af wx EB 46 #[.int .u64 (q:Int),.int .u64 vv,.int .u64 (h:Int)]/\w7.heap.size<=P9)
 case first =>
  refine cZ (KC L w0.heap.size) #[⟨0,0,2^256,128,1⟩,⟨0,0,2^257,2048,1⟩,⟨2,2,2^258,2^257,2⟩,⟨0,0,2^259,2^15,0⟩,⟨8,8,2^260,2^259,1⟩,⟨0,0,2^261,8192,0⟩,⟨32,32,2^262,2^261,1⟩,⟨64,96,2^263,2^262,0⟩,⟨149,255,2^264,17253021296360113118112076766294498270137227715180444041879180017179056316350464,3⟩,⟨256,511,2^255,2^264,0⟩,⟨512,1023,2^265,2^255,0⟩,⟨512,1023,2^266,2^255,0⟩,⟨0,0,2^30,0,2⟩,⟨6143,6143,0,(2^30+2^265),3⟩,⟨16383,16383,2^31,2^266,0⟩] 83 (.step 0 1 (.step 1 1 (.step 3 0 (.step 4 1 (.step 5 0 (.step 6 1 (.step 7 0 (.fork (.alt 2 (.fork (.alt 8 (.step 9 0 (.step 10 0 (.step 11 0 (.step 12 2 (.step 13 3 (.step 14 0 bu.done)))))) (.alt 12 (.step 8 3 (.step 9 0 (.step 10 0 (.step 11 0 (.step 13 3 (.step 14 0 bu.done)))))) bu.none))) (.alt 12 (.step 2 2 (.step 8 3 (.step 9 0 (.step 10 0 (.step 11 0 (.step 13 3 (.step 14 0 bu.done))))))) bu.none)))))))))) (by kernel_rfl) (by decide +kernel) (by kernel_rfl) (by kernel_rfl) (by kernel_rfl) (by decide +kernel) (λc a d v w h=>oH.out c a d v w h) ?_;refine qV Tryz.underlying25 ?_
  try refine bF ?_
  refine qV Tryz.underlying33 ?_
  try refine bF ?_;refine cO ?_
  refine qV Tryz.underlying38 ?_
  try refine bF ?_;refine cO ?_
  refine qV Tryz.underlying3 ?_
  try refine bF ?_;refine cO ?_
  refine BH (λK hK=>?_) λK hK=>?_
  (go_wp2_with ((go_at_call 11;(with_reducible refine (fT _ _).mono ?_);(rintro e w8 ⟨rfl,gM⟩;(try dsimp only);(((have D4:Hid (cz w8 D M R B7 B8 x2 x2 L m E w0):=aa (D7.out.drew.later gM);have A4:=aa (A7.out.drew.below gM A7.out.drew.lt);have E4:=aa (E7.out.drew.below gM E7.out.drew.lt);have z4:w7.heap.size<=w8.heap.size:=gM.size))))));refine eQ hK (h:=?_);clear hK K)
  try refine bF ?_
  refine BH (λK hK=>?_) λK hK=>?_
  (go_wp2_with ((go_at_call 25;((with_reducible refine (DE.out _ _ (by exact D4.out)).mono ?_);rintro e w9 ⟨rfl,sS,dH⟩;(try dsimp only);(((have D5:Hid (cz w9 D M R B7 B8 x2 x2 L m E w0):=aa sS;have A5:=aa (A4.out.aA dH (λe=>e.2 HKK.out.1));have E5:=aa (E4.out.aA dH (λe=>e.2 HKK.out.2));have z5:w7.heap.size<=w9.heap.size:=qH z4 dH.size))))));refine eQ hK (h:=?_);clear hK K)
  try refine bF ?_;refine cO ?_;refine cO ?_;refine cO ?_
  refine qU λK hK=>?_;go_wp2_with (fail);refine eQ hK (h:=?_);clear hK K
  try refine bF ?_
  refine iC λK hK=>?_;go_wp2_with (fail);refine hK.out _ _ ?_;clear hK K
  try refine bF ?_;refine cO ?_
  refine bP ?_
  rotate_left 1
  (go_wp2_with (fail);refine eQ hK (h:=?_);clear hK K)
  try refine bF ?_
  refine iC λK hK=>?_;go_wp2_with ((go_at_call 25;((with_reducible refine (DE.out _ _ (by exact (cz.kI D4.out _))).mono ?_);rintro e w9 ⟨rfl,sS,dH⟩;(try dsimp only);(((have D5:Hid (cz w9 D M R B7 B8 x2 x2 (KL L w8.heap.size) m E w0):=aa sS;have A5:=aa ((A4.out.alloc _).aA dH (λe=>e.2 (.inl HKK.out.1)));have E5:=aa ((E4.out.alloc _).aA dH (λe=>e.2 (.inl HKK.out.2)));have hcX:ah (KC L w0.heap.size) _ w9:=dH.mono (λb _ e=>⟨e.1,λe2=>e.2 (Or.inl e2)⟩);have P5:Hid (af w9 w8.heap.size 46 #[.int .u64 0,.int .u64 0,.int .u64 0]):=aa ((af.new w8 _ _).aA dH (λe=>e.2 (Or.inr rfl)));have q5:=cells3 P5.out;have p50:=q5.1;have p51:=q5.2.1;have p52:=q5.2.2;clear q5;have pf5:=λj=>P5.out.frozen j;have zP5:=P5.out.lt;have HPz:=aa D4.out.fresh;have HPA:=aa (And.intro (Nat.ne_of_gt A4.out.lt) (Nat.ne_of_gt E4.out.lt));have z5:=z4))))));refine hK.out _ _ ?_;clear hK K
  try refine bF ?_;refine cO ?_;refine cO ?_;refine cO ?_
  refine iC λK hK=>?_;go_wp2_with (fail);refine hK.out _ _ ?_;clear hK K
  try refine bF ?_;refine cO ?_
  refine bP ?_
  rotate_left 1
  rotate_right 2
  rotate_left 2
  (go_wp2_with (fail);refine eQ hK (h:=?_);clear hK K)
  try refine bF ?_
  refine qU λK hK=>?_;go_wp2_with ((go_at_call 11;(with_reducible refine (fT _ _).mono ?_);(rintro e w8 ⟨rfl,gM⟩;(try dsimp only);(((have D4:Hid (cz w8 D M R B7 B8 x2 x2 (KL L w7.heap.size) m E w0):=aa ((cz.kI D7.out.drew _).later gM);have A4:=aa ((A7.out.drew.alloc _).below gM (A7.out.drew.alloc _).lt);have E4:=aa ((E7.out.drew.alloc _).below gM (E7.out.drew.alloc _).lt);have P4:Hid (af w8 w7.heap.size 46 #[.int .u64 0,.int .u64 0,.int .u64 0]):=aa (af.below (af.new w7.drew _ _) gM (by simp));have z4:w7.heap.size<=w8.heap.size:=Nat.le_of_lt P4.out.lt))))));refine eQ hK (h:=?_);clear hK K
  try refine bF ?_
  refine iC λK hK=>?_;go_wp2_with ((go_at_call 25;((with_reducible refine (DE.out _ _ (by exact D4.out)).mono ?_);rintro e w9 ⟨rfl,sS,dH⟩;(try dsimp only);(((have D5:Hid (cz w9 D M R B7 B8 x2 x2 (KL L w7.heap.size) m E w0):=aa sS;have A5:=aa (A4.out.aA dH (λe=>e.2 (.inl HKK.out.1)));have E5:=aa (E4.out.aA dH (λe=>e.2 (.inl HKK.out.2)));have hcX:ah (KC L w0.heap.size) _ w9:=dH.mono (λb _ e=>⟨e.1,λe2=>e.2 (Or.inl e2)⟩);have P5:Hid (af w9 w7.heap.size 46 #[.int .u64 0,.int .u64 0,.int .u64 0]):=aa (P4.out.aA dH (λe=>e.2 (Or.inr rfl)));have q5:=cells3 P5.out;have p50:=q5.1;have p51:=q5.2.1;have p52:=q5.2.2;clear q5;have pf5:=λj=>P5.out.frozen j;have zP5:=P5.out.lt;have HPz:=aa D7.out.fresh;have HPA:=aa (And.intro (Nat.ne_of_gt A7.out.lt) (Nat.ne_of_gt E7.out.lt));have z5:=aL w7.heap.size))))));refine hK.out _ _ ?_;clear hK K
  try refine bF ?_;refine cO ?_;refine cO ?_;refine cO ?_
  refine iC λK hK=>?_;go_wp2_with (fail);refine hK.out _ _ ?_;clear hK K
  try refine bF ?_;refine cO ?_
  refine bP ?_
  rotate_left 1
  rotate_right 3
  all_goals (go_wp2;go_meet)
  all_goals
   first
    | exact ⟨_,rfl,rfl,af.new _ _ _,D5.out.kI _,A5.out.alloc _,E5.out.alloc _,z5⟩
    | exact ⟨_,rfl,rfl,((P5.out.set 0 _).set 1 _).set 2 _,cz.kept D5.out (((ah.refl _ _).set1 _ _).set1 _ _ |>.set1 _ _) (λb e=>by rw [e];exact ⟨.inr rfl,HPz.out⟩),A5.out.aA (((ah.refl (λb=>b=_) _).set1 _ _).set1 _ _ |>.set1 _ _) (λe=>HPA.out.1 e.symm),E5.out.aA (((ah.refl (λb=>b=_) _).set1 _ _).set1 _ _ |>.set1 _ _) (λe=>HPA.out.2 e.symm),z5⟩
 obtain ⟨P9,rfl,rfl,QR,sS,hA9,hE9,hPw⟩:=hcut;have N9:=aa sS;have Rc:=aa QR;have A9:=aa hA9;have E9:=aa hE9;obtain ⟨e90,e91,e92⟩:=cells3 E9.out;have ze9:=E9.out.lt;obtain ⟨a90,a91,a92⟩:=cells3 A9.out;have za9:=A9.out.lt;clear sS hA9 hE9 QR a0 a1 Q9 za e0 e1 e2 ze m5 Qv m8 TJ hX5 hX8 hXE hXA DE;go_upto_region 50 with (fail)
 refine bG (λW hW=>?_);have NW:=aa (show cz W D M R B7 B8 x2 x2 (KL L P9) m E w0 by rw [hW];exact N9.out);have AW:=aa (show af W A 44 #[.int .i64 4,.int .i64 ky,.int .i64 vN] by rw [hW];exact A9.out);have EW:=aa (show af W EB 46 #[.int .u64 (q:Int),.int .u64 vv,.int .u64 (h:Int)] by rw [hW];exact E9.out);have PW:=aa (show af W P9 46 #[.int .u64 en0,.int .u64 en1,.int .u64 en2] by rw [hW];exact Rc.out);obtain ⟨f0,f1,f2⟩:=cells3 EW.out;have zf:=EW.out.lt;obtain ⟨b0,b1,b2⟩:=cells3 AW.out;have zb:=AW.out.lt;clear hW e90 e91 e92 ze9 a90 a91 a92 za9 N9 A9 E9 Rc;go_cut [32,33] from 267 to 277 (λvP vB wx => ∃P8,vP = .pointer (some ⟨P8,0,none⟩)/\vB = .bool bb/\af wx P8 46 #[.int .u64 en0,.int .u64 en1,.int .u64 en2]/\Below W.heap.size W wx)
 case first =>
  have hdA:=ah.lL (λ_=>False) W (.cells #[.int .u64 0,.int .u64 0,.int .u64 0] 46);refine cZ (λ_=>False) #[⟨0,0,2^268,512,0⟩,⟨1,1,2^269,2^268,2⟩,⟨0,0,2^270,2^15,0⟩,⟨4,4,2^271,2^270,1⟩,⟨0,0,2^272,8192,0⟩,⟨16,16,2^273,2^272,1⟩,⟨32,48,2^274,2^273,0⟩,⟨74,127,2^275,(2^269+2^271+2^274),3⟩,⟨128,255,2^267,2^275,0⟩,⟨256,511,2^276,2^267,0⟩,⟨256,511,2^277,2^267,0⟩,⟨0,0,2^32,0,2⟩,⟨3071,3071,0,(2^32+2^276),3⟩,⟨8191,8191,2^33,2^277,0⟩] 40 (.step 0 0 (.step 2 0 (.step 3 1 (.step 4 0 (.step 5 1 (.step 6 0 (.fork (.alt 1 (.fork (.alt 7 (.step 8 0 (.step 9 0 (.step 10 0 (.step 11 2 (.step 12 3 (.step 13 0 bu.done)))))) (.alt 11 (.step 7 3 (.step 8 0 (.step 9 0 (.step 10 0 (.step 12 3 (.step 13 0 bu.done)))))) bu.none))) (.alt 11 (.step 1 2 (.step 7 3 (.step 8 0 (.step 9 0 (.step 10 0 (.step 12 3 (.step 13 0 bu.done))))))) bu.none))))))))) (by kernel_rfl) (by decide +kernel) (by kernel_rfl) (by kernel_rfl) (by kernel_rfl) (by decide +kernel) (λc a d v w h=>oH.out c a d v w h) ?_;refine cO ?_;refine cO ?_;refine qV Tryz.underlying38 ?_
  try refine bF ?_;refine cO ?_
  refine qV Tryz.underlying3 ?_
  try refine bF ?_;refine cO ?_
  refine BH (λK hK=>?_) λK hK=>?_
  (go_wp2_with ((go_at_call 24;((with_reducible refine (AL.out _ _ (by exact NW.out.drew)).mono ?_);rintro e w8 ⟨av,rfl,MR,gM⟩;(try dsimp only);have ad7:ah (λ_=>False) _ w8:=ah.of_below gM;(((have B8:Hid (Below W.heap.size W w8):=aa ((aM _ _).drew.trans gM);have R8:=aa MR))))));refine eQ hK (h:=?_);clear hK K)
  try refine bF ?_
  refine BH (λK hK=>?_) λK hK=>?_
  (go_wp2_with ((go_at_call 26;((with_reducible refine (LL.out _ _ _ (by exact R8.out)).mono ?_);rintro e w9 ⟨rfl,pR⟩;(try dsimp only);((have B9:Hid (Below W.heap.size W w9):=aa (B8.out.trans (pR.mono B8.out.size))));(skip);have Vk:ah (λ_=>False) _ w9:=ah.of_below pR)));refine eQ hK (h:=?_);clear hK K)
  try refine bF ?_;refine cO ?_;refine cO ?_;refine cO ?_
  refine qU λK hK=>?_;go_wp2_with (fail);refine eQ hK (h:=?_);clear hK K
  try refine bF ?_
  refine iC λK hK=>?_;go_wp2_with (fail);refine hK.out _ _ ?_;clear hK K
  try refine bF ?_;refine cO ?_
  refine bP ?_
  rotate_left 1
  (go_wp2_with (fail);refine eQ hK (h:=?_);clear hK K)
  try refine bF ?_
  refine iC λK hK=>?_;go_wp2_with ((go_at_call 26;((with_reducible refine (LL.out _ _ _ (by exact aB R8.out ((aM _ _).alloc (aL _) _))).mono ?_);rintro e w9 ⟨rfl,pR⟩;(try dsimp only);((have B9:Hid (Below W.heap.size W w9):=aa ((B8.out.alloc B8.out.size _).trans (pR.mono (qH B8.out.size (by simp))))));(((have P5:Hid (af w9 w8.heap.size 46 #[.int .u64 0,.int .u64 0,.int .u64 0]):=aa ((af.new w8 _ _).below pR (by simp));have z5:W.heap.size<=w8.heap.size:=B8.out.size;have q5:=cells3 P5.out;have p50:=q5.1;have p51:=q5.2.1;have p52:=q5.2.2;clear q5;have pf5:=λj=>P5.out.frozen j;have zP5:=P5.out.lt)));have Vk:ah (λ_=>False) _ w9:=ah.of_below pR)));refine hK.out _ _ ?_;clear hK K
  try refine bF ?_;refine cO ?_;refine cO ?_;refine cO ?_
  refine iC λK hK=>?_;go_wp2_with (fail);refine hK.out _ _ ?_;clear hK K
  try refine bF ?_;refine cO ?_
  refine bP ?_
  rotate_left 1
  rotate_right 2
  rotate_left 2
  (go_wp2_with (fail);refine eQ hK (h:=?_);clear hK K)
  try refine bF ?_
  refine qU λK hK=>?_;go_wp2_with ((go_at_call 24;((with_reducible refine (AL.out _ _ (by exact NW.out.drew.later ((aM _ _).alloc (aL _) _))).mono ?_);rintro e w8 ⟨av,rfl,MR,gM⟩;(try dsimp only);have ad7:ah (λ_=>False) _ w8:=ah.of_below gM;(((have B8:Hid (Below W.heap.size W w8):=aa (((aM W.heap.size W).drew.alloc (aL _) _).trans (gM.mono (by simp)));have R8:=aa MR;have P4:Hid (af w8 W.heap.size 46 #[.int .u64 0,.int .u64 0,.int .u64 0]):=aa (af.below (af.new W.drew _ _) gM (by simp))))))));refine eQ hK (h:=?_);clear hK K
  try refine bF ?_
  refine iC λK hK=>?_;go_wp2_with ((go_at_call 26;((with_reducible refine (LL.out _ _ _ (by exact R8.out)).mono ?_);rintro e w9 ⟨rfl,pR⟩;(try dsimp only);((have B9:Hid (Below W.heap.size W w9):=aa (B8.out.trans (pR.mono B8.out.size))));(((have P5:=aa (P4.out.below pR P4.out.lt);have z5:W.heap.size<=W.heap.size:=aL _;have q5:=cells3 P5.out;have p50:=q5.1;have p51:=q5.2.1;have p52:=q5.2.2;clear q5;have pf5:=λj=>P5.out.frozen j;have zP5:=P5.out.lt)));have Vk:ah (λ_=>False) _ w9:=ah.of_below pR)));refine hK.out _ _ ?_;clear hK K
  try refine bF ?_;refine cO ?_;refine cO ?_;refine cO ?_
  refine iC λK hK=>?_;go_wp2_with (fail);refine hK.out _ _ ?_;clear hK K
  try refine bF ?_;refine cO ?_
  refine bP ?_
  rotate_left 1
  rotate_right 3
  all_goals (go_wp2;go_meet)
  all_goals
   first
    | exact ⟨_,rfl,rfl,af.new _ _ _,B9.out.alloc B9.out.size _⟩
    | exact ⟨_,rfl,rfl,((P5.out.set 0 _).set 1 _).set 2 _,B9.out.trans (ah.below (X:=λb=>b=_) (((ah.refl _ _).set1 _ _).set1 _ _ |>.set1 _ _) B9.out.size (λk hk e=>by omega))⟩
 obtain ⟨P8,rfl,rfl,QR,hbW⟩:=hcut;have P8b:=aa QR;have Cu:=aa (NW.out.later hbW);have BK:=aa (AW.out.below hbW AW.out.lt);have P10:=aa (PW.out.below hbW PW.out.lt);obtain ⟨p0,p1,p2⟩:=cells3 P10.out;have zp:=P10.out.lt;obtain ⟨r0,r1,r2⟩:=cells3 P8b.out;have zr:=P8b.out.lt;clear QR hbW f0 f1 f2 zf b0 b1 b2 zb;go_wp2;exact HQ.out x2 _ _ _ _ _ _ _ _ _ _ _ _ _ _ _ _ _ _ _ _ _ _ _ _ _ _ _ _ _ _ _ _ _ _ _ _ _ _ _ _ _ _ _ _ _ _ _ _ _ _ _ _ _ _ _ _ _ _ _ _ _ _ _ _ _ _ _ _ _ _ _ _ _ _ _ _ _ _ _ _ _ _ _ _ _ _ _ _ _ _ _ _ _ _ _ _ _ _ _ _ _ _ _ _ _ _ _ _ _ _ _ _ _ _ _ _ _ _ _ _ _ _ _ _ _ _ _ _ _ _ _ _ _ _ _ _ _ _ _ _ _ _ _ _ _ _ _ _ _ _ _ _ _ _ _ _ _ _ _ _ _ _ _ _ _ _ _ _ _ _ _ _ _ _ _ _ _ _ _ _ _ _ _ _ _ _ _ _ _ _ _ _ _ _ _ _ _ _ _ _ _ _ _ _ _ _ _ _ _ _ _ _ _ _ _ _ _ _ _ _ _ _ _ _ _ _ _ _ _ _ _ _ _ _ _ _ _ _ _ _ _ _ _ _ _ _ _ _ _ ((Cu.out.own (λb e => .inl e) D7.out.ll).more (by omega)) HI2.out BK.out
end
end Go.Proofs.YtolhmibejhldkaaGreatDoor
