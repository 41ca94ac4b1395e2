/- Joined texts; conditions within. -/
import Derived.Test.YtolhmibejhldkaaGreatDoorPkNodeKb
set_option linter.unusedVariables false
set_option linter.unusedSimpArgs false
set_option linter.unusedSectionVars false
set_option maxRecDepth 100000
set_option maxHeartbeats 16000000
namespace Go.Proofs.YtolhmibejhldkaaGreatDoor
open Go.RowKit Go.Proofs
attribute [local go_sem] neq_nilG eql_nilG
theorem QB (x:bH) (kind:Int):x.jV kind<=16:=by
 unfold bH.jV;split
 . omega
 . split
   . rcases ach kind (x.s.T.n:Int) with e|e|e <;> omega
   . split <;> omega
section
variable {w0 w7:World} {D M R B7 B8 A EB:Nat} {x:bH} {L:Nat->Prop} {m mc:Int} {E:Nat->Addr} {q h:Nat} {kd ky vN vv:Int} {H:Int->Nat} {Q:Exit->Act->World->Prop} {a:Act} {ct0 ct1 ct2 ct3 ct4 ct5 ct6 ct8 Qc Qb Qa P7 P6 aeV aeU aeS aeR aeQ aeP aeO aeN aeM aeL aeK aeJ aeH aeG aeF aeE aeD aeC aeB aeA aez aey aew aev aeu aet PZ PY PV PS PQ PO PN PM PK PI PH PG PD Pz Py Px Pw Pv Pt Ps Pq Pp Po Pn Pm Pk Pj Ph Pg Pf Pe Pd Pb O9 O8 O7 O6 O5 O4 O3 O1 O0 OZ OY OX OW OV OU OT OQ OO OM OL OJ OI OH Gp Gn Gm Gl Gj Gi Gh Gg Gf Gd Gc Gb Ga F9 F8 F7 F6 FZ FY FX FW FQ aas aar aaq aap aao aan aam aal aak aaj aai aah aag aaf aae aad aac aab aaa Z9 Z7 Z6 Z4 Z0 ZY ZX ZW ZV ZU ZT ZR ZQ ZP ZO ZN ZM ZL ZK ZJ ZI ZH ZG ZF ZE ZC ZB ZA Zz Zy Zx Zw Zv Zu Zt Zr Zq Zp Zo Zn Zm Zl Zk Zj Zi Zh Zg Zf Ze Zd Zc Zb Za Y3 Y2 Y1 Y0 YZ YY YX YW YV YU YS YR YQ YP YO YN YM YK YJ YI YH YG YF YE YD YC Yz Yy Yx Yw Yv Yu Yt Yr Yq Yp Yo Yn Ym Yl Yk Yj Yi Yh Yg Yf Ye Yd Yc Yb Ya X0 XZ XY XX XV XU XT XR XQ XP XO XN XM XK XJ XI XH XG XF XD XB Xz Xy Xx Xw Xv Xu Xr Xq Xp Xo Xn Xm Xl Xk Xj Xi Xh Xg Xf Xe Xd Xc Xb Xa W9 WZ WY WX WW WV WU WT WS WQ WO WM WL WJ WG WC WB WA Wz Wy Wx Ww Wv Wu Wt Ws Wq Wp Wo Wn Wm Wl Wj Wi Wh We Wd V7 V6 V5 VZ VY VX VW VV VU VT VR VQ VP VO VN VL FP FM FK FJ FH FD FC:Value}
variable (F:aff w0 w7 D M R B7 B8 A EB x L m mc E q h kd ky vN vv H) (ha:a=⟨#[ct0,ct1,ct2,ct3,ct4,ct5,ct6,.pointer (some ⟨B7,0,none⟩),ct8,.pointer (some ⟨R,0,none⟩),Qc,.pointer (some ⟨B8,0,none⟩),Qb,.pointer (some ⟨A,0,none⟩),Qa,.pointer (some ⟨EB,0,none⟩),P7,P6,aeV,aeU,aeS,aeR,aeQ,aeP,aeO,aeN,aeM,aeL,aeK,aeJ,aeH,aeG,aeF,aeE,aeD,aeC,aeB,aeA,aez,aey,aew,aev,aeu,aet,PZ,PY,PV,PS,PQ,PO,PN,PM,PK,PI,PH,PG,PD,Pz,Py,Px,Pw,Pv,Pt,Ps,Pq,Pp,Po,Pn,Pm,Pk,Pj,Ph,Pg,Pf,Pe,Pd,Pb,O9,O8,O7,O6,O5,O4,O3,O1,O0,OZ,OY,OX,OW,OV,OU,OT,OQ,OO,OM,OL,OJ,OI,OH,Gp,Gn,Gm,Gl,Gj,Gi,Gh,Gg,Gf,Gd,Gc,Gb,Ga,F9,F8,F7,F6,FZ,FY,FX,FW,FQ,.int .i64 kd,aas,aar,aaq,aap,aao,aan,aam,aal,aak,aaj,aai,aah,aag,aaf,aae,aad,aac,aab,aaa,Z9,Z7,Z6,Z4,Z0,ZY,ZX,ZW,ZV,ZU,ZT,ZR,ZQ,ZP,ZO,ZN,ZM,ZL,ZK,ZJ,ZI,ZH,ZG,ZF,ZE,ZC,ZB,ZA,Zz,Zy,Zx,Zw,Zv,Zu,Zt,Zr,Zq,Zp,Zo,Zn,Zm,Zl,Zk,Zj,Zi,Zh,Zg,Zf,Ze,Zd,Zc,Zb,Za,Y3,Y2,Y1,Y0,YZ,YY,YX,YW,YV,YU,YS,YR,YQ,YP,YO,YN,YM,YK,YJ,YI,YH,YG,YF,YE,YD,YC,Yz,Yy,Yx,Yw,Yv,Yu,Yt,Yr,Yq,Yp,Yo,Yn,Ym,Yl,Yk,Yj,Yi,Yh,Yg,Yf,Ye,Yd,Yc,Yb,Ya,X0,XZ,XY,XX,XV,XU,XT,XR,XQ,XP,XO,XN,XM,XK,XJ,XI,XH,XG,XF,XD,XB,Xz,Xy,Xx,Xw,Xv,Xu,Xr,Xq,Xp,Xo,Xn,Xm,Xl,Xk,Xj,Xi,Xh,Xg,Xf,Xe,Xd,Xc,Xb,Xa,W9,WZ,WY,WX,WW,WV,WU,WT,WS,WQ,WO,WM,WL,WJ,WG,WC,WB,WA,Wz,Wy,Wx,Ww,Wv,Wu,Wt,Ws,Wq,Wp,Wo,Wn,Wm,Wl,Wj,Wi,Wh,We,Wd,V7,V6,V5,VZ,VY,VX,VW,VV,VU,VT,VR,VQ,VP,VO,VN,VL,FP,FM,FK,FJ,FH,FD,FC],[]⟩)
variable (hQ:∀ (x':bH) (ut6 Jg Jf Je Jd Jc Jb Ja I9 I7 I6 I5 I4 I1 IZ IY IW IV IU IQ IP IM IL IJ II IG IE Av Au Ar Aq Ap Ao Am Al Ak Aj Ai Ah Ag Af Ae Ad Ac Ab Aa zZ zY zW zU zS zQ zO zL zK zJ zH zC zy zx zq zi y9 y8 y5 yZ yY yX yV yU yT yS yR yQ yP yO yN yM yL yK yJ yI yH yG yF yE yD yC yB yA yz yx yw yu yt yo yn ym yl yj yh yg yf yc x9 x8 xZ xY xX xW xV xU xS xR xQ xP xO xN xM xL xK xJ xI xH xG xE xD xC xB xA xz xy xx xw xu xq xk xh xg xe xc wZ wY wX wW wV wU wT wS wR wQ wP wO wN wM wK wJ wH wG wF wD wC wB wz wy wu wm wh vZ vY vX vW vV vU vT vS vR vQ vO vM vL vK vJ vI vH vG vF vD vC vz vw vo vk vg uZ uY uX uW uV uU uT uS uR uQ uP uO uN uM uL uK uJ uI uH uG uF uD uC uB uA uz uy uw uu uq uo um uk uj ui ug uf tZ tY tX tV tQ tO tN tL tK tJ tH tF tC tu sZ sW sU:Value) (wx:World),cz wx D M R B7 B8 x' x' L (m+200000) E w0->nY x' H (mc+1)->af wx A 44 #[.int .i64 kd,.int .i64 ky,.int .i64 vN]->Q .normal ⟨#[ct0,ct1,ct2,ct3,ct4,ct5,ut6,.pointer (some ⟨B7,0,none⟩),ct8,.pointer (some ⟨R,0,none⟩),Qc,.pointer (some ⟨B8,0,none⟩),Qb,.pointer (some ⟨A,0,none⟩),Qa,.pointer (some ⟨EB,0,none⟩),P7,P6,Jg,Jf,Je,Jd,Jc,Jb,Ja,I9,I7,I6,I5,I4,I1,IZ,IY,IW,IV,IU,IQ,IP,IM,IL,IJ,II,IG,IE,PZ,PY,PV,PS,PQ,PO,PN,PM,PK,PI,PH,PG,PD,Pz,Py,Px,Pw,Pv,Pt,Ps,Pq,Pp,Po,Pn,Pm,Pk,Pj,Ph,Pg,Pf,Pe,Pd,Pb,O9,O8,O7,O6,O5,O4,O3,O1,O0,OZ,OY,OX,OW,OV,OU,OT,OQ,OO,OM,OL,OJ,OI,OH,Gp,Gn,Gm,Gl,Gj,Gi,Gh,Gg,Gf,Gd,Gc,Gb,Ga,F9,F8,F7,F6,FZ,FY,FX,FW,FQ,.int .i64 kd,Av,Au,Ar,Aq,Ap,Ao,Am,Al,Ak,Aj,Ai,Ah,Ag,Af,Ae,Ad,Ac,Ab,Aa,zZ,zY,zW,zU,zS,zQ,zO,zL,zK,zJ,zH,zC,zy,zx,zq,zi,y9,y8,y5,yZ,yY,yX,yV,yU,yT,yS,yR,yQ,yP,yO,yN,yM,yL,yK,yJ,yI,yH,yG,yF,yE,yD,yC,yB,yA,yz,yx,yw,yu,yt,yo,yn,ym,yl,yj,yh,yg,yf,yc,x9,x8,xZ,xY,xX,xW,xV,xU,xS,xR,xQ,xP,xO,xN,xM,xL,xK,xJ,xI,xH,xG,xE,xD,xC,xB,xA,xz,xy,xx,xw,xu,xq,xk,xh,xg,xe,xc,wZ,wY,wX,wW,wV,wU,wT,wS,wR,wQ,wP,wO,wN,wM,wK,wJ,wH,wG,wF,wD,wC,wB,wz,wy,wu,wm,wh,vZ,vY,vX,vW,vV,vU,vT,vS,vR,vQ,vO,vM,vL,vK,vJ,vI,vH,vG,vF,vD,vC,vz,vw,vo,vk,vg,uZ,uY,uX,uW,uV,uU,uT,uS,uR,uQ,uP,uO,uN,uM,uL,uK,uJ,uI,uH,uG,uF,uD,uC,uB,uA,uz,uy,uw,uu,uq,uo,um,uk,uj,ui,ug,uf,tZ,tY,tX,tV,tQ,tO,tN,tL,tK,tJ,tH,tF,tC,tu,sZ,sW,sU,FP,FM,FK,FJ,FH,FD,FC],[]⟩ wx)
variable (oH:Hid (∀ (c:List PanicEntry) (a:Act) (d:Option Tmp) (v:Value) (w:World),Q (.panic c) (a.put d v) w->Q (.panic c) a w))
variable (hR:∀ (Jg Jf Je Jd Jc Jb Ja I9 I7 I6 I5 I4 I1 IZ IY IW IV IU IQ IP IM IL IJ II IG IE Av Au Ar Aq Ap Ao Am Al Ak Aj Ai Ah Ag Af Ae Ad Ac Ab Aa zZ zY zW zU zS zQ zO zL zK zJ zH zC zy zx zq zi y9 y8 y5 yZ yY yX yV yU yT yS yR yQ yP yO yN yM yL yK yJ yI yH yG yF yE yD yC yB yA yz yx yw yu yt yo yn ym yl yj yh yg yf yc x9 x8 xZ xY xX xW xV xU xS xR xQ xP xO xN xM xL xK xJ xI xH xG xE xD xC xB xA xz xy xx xw xu xq xk xh xg xe xc wZ wY wX wW wV wU wT wS wR wQ wP wO wN wM wK wJ wH wG wF wD wC wB wz wy wu wm wh vZ vY vX vW vV vU vT vS vR vQ vO vM vL vK vJ vI vH vG vF vD vC vz vw vo vk vg uZ uY uX uW uV uU uT uS uR uQ uP uO uN uM uL uK uJ uI uH uG uF uD uC uB uA uz uy uw uu uq uo um uk uj ui ug uf tZ tY tX tV tQ tO tN tL tK tJ tH tF tC tu sZ sW sU:Value) (wx:World),Below w0.heap.size w0 wx->Q .ret ⟨#[ct0,ct1,ct2,ct3,ct4,ct5,.bool true,.pointer (some ⟨B7,0,none⟩),ct8,.pointer (some ⟨R,0,none⟩),Qc,.pointer (some ⟨B8,0,none⟩),Qb,.pointer (some ⟨A,0,none⟩),Qa,.pointer (some ⟨EB,0,none⟩),P7,P6,Jg,Jf,Je,Jd,Jc,Jb,Ja,I9,I7,I6,I5,I4,I1,IZ,IY,IW,IV,IU,IQ,IP,IM,IL,IJ,II,IG,IE,PZ,PY,PV,PS,PQ,PO,PN,PM,PK,PI,PH,PG,PD,Pz,Py,Px,Pw,Pv,Pt,Ps,Pq,Pp,Po,Pn,Pm,Pk,Pj,Ph,Pg,Pf,Pe,Pd,Pb,O9,O8,O7,O6,O5,O4,O3,O1,O0,OZ,OY,OX,OW,OV,OU,OT,OQ,OO,OM,OL,OJ,OI,OH,Gp,Gn,Gm,Gl,Gj,Gi,Gh,Gg,Gf,Gd,Gc,Gb,Ga,F9,F8,F7,F6,FZ,FY,FX,FW,FQ,.int .i64 kd,Av,Au,Ar,Aq,Ap,Ao,Am,Al,Ak,Aj,Ai,Ah,Ag,Af,Ae,Ad,Ac,Ab,Aa,zZ,zY,zW,zU,zS,zQ,zO,zL,zK,zJ,zH,zC,zy,zx,zq,zi,y9,y8,y5,yZ,yY,yX,yV,yU,yT,yS,yR,yQ,yP,yO,yN,yM,yL,yK,yJ,yI,yH,yG,yF,yE,yD,yC,yB,yA,yz,yx,yw,yu,yt,yo,yn,ym,yl,yj,yh,yg,yf,yc,x9,x8,xZ,xY,xX,xW,xV,xU,xS,xR,xQ,xP,xO,xN,xM,xL,xK,xJ,xI,xH,xG,xE,xD,xC,xB,xA,xz,xy,xx,xw,xu,xq,xk,xh,xg,xe,xc,wZ,wY,wX,wW,wV,wU,wT,wS,wR,wQ,wP,wO,wN,wM,wK,wJ,wH,wG,wF,wD,wC,wB,wz,wy,wu,wm,wh,vZ,vY,vX,vW,vV,vU,vT,vS,vR,vQ,vO,vM,vL,vK,vJ,vI,vH,vG,vF,vD,vC,vz,vw,vo,vk,vg,uZ,uY,uX,uW,uV,uU,uT,uS,uR,uQ,uP,uO,uN,uM,uL,uK,uJ,uI,uH,uG,uF,uD,uC,uB,uA,uz,uy,uw,uu,uq,uo,um,uk,uj,ui,ug,uf,tZ,tY,tX,tV,tQ,tO,tN,tL,tK,tJ,tH,tF,tC,tu,sZ,sW,sU,FP,FM,FK,FJ,FH,FD,FC],[]⟩ wx)
include F ha hQ oH hR
theorem aiz (hkd:kd=0):Code.wp Tryz.prog rC Q a w7:=by
 subst ha;subst hkd
 conv=>arg 2;whnf
 have D7:=aa F.d;have A7:=aa F.a;have E7:=aa F.e;have HKK:=aa F.kk;have HI:=aa F.i;have Rf:=aa F.hx;have Dj:=F.gx;have TF:=aa F.hb;have HE:=aa F.he;have hv0:=F.vv;have hm8:=F.m;have hmc:=F.mc;have HQ:=aa hQ;have HR:=aa hR;have hd5:=D7.out.pd.1;clear hQ hR F;have PU:=aa (λ(w':World) (h':cz w' D M R B7 B8 x x L m E w0)=>h'.put (q:Int) vv h Dj true 1 0 0);have MP:=aa (λ(w':World) (xn:bH) (h':cz w' D M R B7 B8 xn x L m E w0)=>h'.af6 (by omega) (q:Int) vv h true Dj);have hpn:x.s.bN (q:Int) h true<=2:=by unfold DuS.bN ae.bN;split;omega;split;omega;split <;> omega
 have HI2:=aa (show nY { x with s:=x.s.put (q:Int) vv h true} H (mc+1) from by
  have:=HI.out.put (q:Int) vv (by rw [Rf.out];exact Dj) true
  rw [Rf.out] at this;exact this)
 obtain ⟨x2,hx2⟩:∃x2:bH,x2 = { x with s:=x.s.put (q:Int) vv h true}:=⟨_,rfl⟩
 rw [<-hx2] at PU MP HI2;generalize x.s.bN (q:Int) h true=pn at *
 generalize x.s.bB (q:Int) h true=pb at *
 have NU:=aa (λ(w':World) (h':dR w' E)=>kG E pn (by omega) w' h');obtain ⟨a0,a1,Q9⟩:=cells3 A7.out;have za:=A7.out.lt;obtain ⟨e0,e1,e2⟩:=cells3 E7.out;have ze:=E7.out.lt;have m5:=D7.out.gG.1.cell 0;have Qv:=D7.out.gG.1.lt;have m8:=D7.out.gG.2.cell 0;have TJ:=D7.out.gG.2.lt;clear hx2;go_upto_region 34 with (fail)
 refine ag (λ_=>False) #[⟨0,0,2^166,128,1⟩,⟨0,0,2^167,2048,1⟩,⟨2,2,2^168,2^167,2⟩,⟨0,0,2^169,2^15,1⟩,⟨0,0,2^170,8192,0⟩,⟨16,16,2^171,2^170,1⟩,⟨32,48,2^172,2^171,0⟩,⟨77,127,2^173,7202280068766689580907758855625842720864435571785728,3⟩,⟨128,255,2^165,2^173,0⟩,⟨256,511,2^174,2^165,0⟩,⟨256,511,2^175,2^165,0⟩,⟨1023,1023,2^18,2^174,0⟩,⟨4095,4095,2^19,2^175,0⟩] 43 [(0,1),(1,1),(3,1),(4,0),(5,1),(6,0),(2,2),(7,3),(8,0),(9,0),(10,0),(11,0),(12,0)] (by kernel_rfl) (by decide +kernel) (by kernel_rfl) (by kernel_rfl) (by decide +kernel) (by decide +kernel) (λc a d v w h=>oH.out c a d v w h) ?_;refine bW Tryz.underlying25 ?_
 try refine aC ?_
 refine bW Tryz.underlying33 ?_
 try refine aC ?_
 refine jR [_,_,_] Tryz.underlying46 ?_
 try refine aC ?_;refine aj ?_
 refine bW Tryz.underlying3 ?_
 try refine aC ?_;refine aj ?_
 refine iK λK hK=>?_;go_wp2_with ((go_at_call 11;(with_reducible refine (fT _ _).mono ?_);rintro e w8 ⟨rfl,gM⟩;(try dsimp only);have D8:=aa (D7.out.drew.later gM);have A8:=aa (A7.out.drew.below gM A7.out.drew.lt);have E8:=aa (E7.out.drew.below gM E7.out.drew.lt)));refine iX hK (h:=?_);clear hK K
 try refine aC ?_
 refine fA λK hK=>?_;go_wp2_with ((go_at_call 12;((with_reducible refine (PU.out _ D8.out).mono ?_);rintro e w9 ⟨rfl,ED,dH⟩;(try dsimp only);have N9:=aa ED;have A9:=aa (A8.out.aA dH (λe=>e.2 HKK.out.1));have E9:=aa (E8.out.aA dH (λe=>e.2 HKK.out.2));have a9:=A9.out.cell 0;have za9:=A9.out.lt;have e9:=cells3 E9.out;have e90:=e9.1;have e91:=e9.2.1;have e92:=e9.2.2;have ze9:=E9.out.lt;clear e9 ED dH a0 a1 Q9 za e0 e1 e2 ze m5 Qv m8 TJ)));refine hK.out _ _ ?_;clear hK K
 try refine aC ?_;refine aj ?_;refine aj ?_;refine aj ?_;refine aj ?_;refine aj ?_
 refine aD ?_
 go_wp2_with (first
  | (go_at_call 21;(with_reducible refine (MP.out _ _ N9.out).mono ?_);rintro e Ub ⟨rfl,LD,JK⟩;(try dsimp only);have Cu:=aa LD;have BK:=aa (A9.out.aA JK (λe=>e.2 HKK.out.1));clear LD JK)
  | (go_at_call 20;(with_reducible refine (NU.out _ (HE.out.below Cu.out.j3)).mono ?_);rintro e w11 ⟨rfl,GX⟩;(try dsimp only);have N11:=aa (Cu.out.later GX);have A11:=aa (BK.out.below GX BK.out.lt)))
 exact HQ.out x2 _ _ _ _ _ _ _ _ _ _ _ _ _ _ _ _ _ _ _ _ _ _ _ _ _ _ _ _ _ _ _ _ _ _ _ _ _ _ _ _ _ _ _ _ _ _ _ _ _ _ _ _ _ _ _ _ _ _ _ _ _ _ _ _ _ _ _ _ _ _ _ _ _ _ _ _ _ _ _ _ _ _ _ _ _ _ _ _ _ _ _ _ _ _ _ _ _ _ _ _ _ _ _ _ _ _ _ _ _ _ _ _ _ _ _ _ _ _ _ _ _ _ _ _ _ _ _ _ _ _ _ _ _ _ _ _ _ _ _ _ _ _ _ _ _ _ _ _ _ _ _ _ _ _ _ _ _ _ _ _ _ _ _ _ _ _ _ _ _ _ _ _ _ _ _ _ _ _ _ _ _ _ _ _ _ _ _ _ _ _ _ _ _ _ _ _ _ _ _ _ _ _ _ _ _ _ _ _ _ _ _ _ _ _ _ _ _ _ _ _ _ _ _ _ _ _ _ _ _ _ _ _ _ _ _ _ _ _ _ _ _ _ _ _ _ _ _ _ _ (N11.out.more (by omega)) HI2.out A11.out
theorem aiy (hkd:kd=1):Code.wp Tryz.prog rC Q a w7:=by
 subst ha;subst hkd
 conv=>arg 2;whnf
 have D7:=aa F.d;have A7:=aa F.a;have E7:=aa F.e;have HKK:=aa F.kk;have HI:=aa F.i;have Rf:=aa F.hx;have Dj:=F.gx;have TF:=aa F.hb;have HE:=aa F.he;have hv0:=F.vv;have hm8:=F.m;have hmc:=F.mc;have HQ:=aa hQ;have HR:=aa hR;have hd5:=D7.out.pd.1;clear hQ hR F;have PU:=aa (λ(w':World) (h':cz w' D M R B7 B8 x x L m E w0)=>h'.put (q:Int) vv h Dj false 1 0 0);have MP:=aa (λ(w':World) (xn:bH) (h':cz w' D M R B7 B8 xn x L m E w0)=>h'.af6 (by omega) (q:Int) vv h false Dj);have hpn:x.s.bN (q:Int) h false<=2:=by unfold DuS.bN ae.bN;split;omega;split;omega;split <;> omega
 have HI2:=aa (show nY { x with s:=x.s.put (q:Int) vv h false} H (mc+1) from by
  have:=HI.out.put (q:Int) vv (by rw [Rf.out];exact Dj) false
  rw [Rf.out] at this;exact this)
 obtain ⟨x2,hx2⟩:∃x2:bH,x2 = { x with s:=x.s.put (q:Int) vv h false}:=⟨_,rfl⟩
 rw [<-hx2] at PU MP HI2;generalize x.s.bN (q:Int) h false=pn at *
 generalize x.s.bB (q:Int) h false=pb at *
 have NU:=aa (λ(w':World) (h':dR w' E)=>kG E pn (by omega) w' h');obtain ⟨a0,a1,Q9⟩:=cells3 A7.out;have za:=A7.out.lt;obtain ⟨e0,e1,e2⟩:=cells3 E7.out;have ze:=E7.out.lt;have m5:=D7.out.gG.1.cell 0;have Qv:=D7.out.gG.1.lt;have m8:=D7.out.gG.2.cell 0;have TJ:=D7.out.gG.2.lt;clear hx2;go_upto_region 34 with (fail)
 refine ag (λ_=>False) #[⟨0,0,2^166,128,1⟩,⟨0,0,2^167,2048,1⟩,⟨2,2,2^168,2^167,2⟩,⟨0,0,2^169,2^15,1⟩,⟨0,0,2^170,8192,0⟩,⟨16,16,2^171,2^170,1⟩,⟨32,48,2^172,2^171,0⟩,⟨77,127,2^173,7202280068766689580907758855625842720864435571785728,3⟩,⟨128,255,2^165,2^173,0⟩,⟨256,511,2^174,2^165,0⟩,⟨256,511,2^175,2^165,0⟩,⟨1023,1023,2^18,2^174,0⟩,⟨4095,4095,2^19,2^175,0⟩] 43 [(0,1),(1,1),(3,1),(4,0),(5,1),(6,0),(2,2),(7,3),(8,0),(9,0),(10,0),(11,0),(12,0)] (by kernel_rfl) (by decide +kernel) (by kernel_rfl) (by kernel_rfl) (by decide +kernel) (by decide +kernel) (λc a d v w h=>oH.out c a d v w h) ?_;refine bW Tryz.underlying25 ?_
 try refine aC ?_
 refine bW Tryz.underlying33 ?_
 try refine aC ?_
 refine jR [_,_,_] Tryz.underlying46 ?_
 try refine aC ?_;refine aj ?_
 refine bW Tryz.underlying3 ?_
 try refine aC ?_;refine aj ?_
 refine iK λK hK=>?_;go_wp2_with ((go_at_call 11;(with_reducible refine (fT _ _).mono ?_);rintro e w8 ⟨rfl,gM⟩;(try dsimp only);have D8:=aa (D7.out.drew.later gM);have A8:=aa (A7.out.drew.below gM A7.out.drew.lt);have E8:=aa (E7.out.drew.below gM E7.out.drew.lt)));refine iX hK (h:=?_);clear hK K
 try refine aC ?_
 refine fA λK hK=>?_;go_wp2_with ((go_at_call 12;((with_reducible refine (PU.out _ D8.out).mono ?_);rintro e w9 ⟨rfl,ED,dH⟩;(try dsimp only);have N9:=aa ED;have A9:=aa (A8.out.aA dH (λe=>e.2 HKK.out.1));have E9:=aa (E8.out.aA dH (λe=>e.2 HKK.out.2));have a9:=A9.out.cell 0;have za9:=A9.out.lt;have e9:=cells3 E9.out;have e90:=e9.1;have e91:=e9.2.1;have e92:=e9.2.2;have ze9:=E9.out.lt;clear e9 ED dH a0 a1 Q9 za e0 e1 e2 ze m5 Qv m8 TJ)));refine hK.out _ _ ?_;clear hK K
 try refine aC ?_;refine aj ?_;refine aj ?_;refine aj ?_;refine aj ?_;refine aj ?_
 refine aD ?_
 go_wp2_with (first
  | (go_at_call 21;(with_reducible refine (MP.out _ _ N9.out).mono ?_);rintro e Ub ⟨rfl,LD,JK⟩;(try dsimp only);have Cu:=aa LD;have BK:=aa (A9.out.aA JK (λe=>e.2 HKK.out.1));clear LD JK)
  | (go_at_call 20;(with_reducible refine (NU.out _ (HE.out.below Cu.out.j3)).mono ?_);rintro e w11 ⟨rfl,GX⟩;(try dsimp only);have N11:=aa (Cu.out.later GX);have A11:=aa (BK.out.below GX BK.out.lt)))
 exact HQ.out x2 _ _ _ _ _ _ _ _ _ _ _ _ _ _ _ _ _ _ _ _ _ _ _ _ _ _ _ _ _ _ _ _ _ _ _ _ _ _ _ _ _ _ _ _ _ _ _ _ _ _ _ _ _ _ _ _ _ _ _ _ _ _ _ _ _ _ _ _ _ _ _ _ _ _ _ _ _ _ _ _ _ _ _ _ _ _ _ _ _ _ _ _ _ _ _ _ _ _ _ _ _ _ _ _ _ _ _ _ _ _ _ _ _ _ _ _ _ _ _ _ _ _ _ _ _ _ _ _ _ _ _ _ _ _ _ _ _ _ _ _ _ _ _ _ _ _ _ _ _ _ _ _ _ _ _ _ _ _ _ _ _ _ _ _ _ _ _ _ _ _ _ _ _ _ _ _ _ _ _ _ _ _ _ _ _ _ _ _ _ _ _ _ _ _ _ _ _ _ _ _ _ _ _ _ _ _ _ _ _ _ _ _ _ _ _ _ _ _ _ _ _ _ _ _ _ _ _ _ _ _ _ _ _ _ _ _ _ _ _ _ _ _ _ _ _ _ _ _ _ (N11.out.more (by omega)) HI2.out A11.out
theorem aix (hkd:kd=2):Code.wp Tryz.prog rC Q a w7:=by
 subst ha;subst hkd
 conv=>arg 2;whnf
 have D7:=aa F.d;have A7:=aa F.a;have E7:=aa F.e;have HKK:=aa F.kk;have HI:=aa F.i;have Rf:=aa F.hx;have Dj:=F.gx;have TF:=aa F.hb;have HE:=aa F.he;have hv0:=F.vv;have hm8:=F.m;have hmc:=F.mc;have HQ:=aa hQ;have HR:=aa hR;have hd5:=D7.out.pd.1;clear hQ hR F;have DE:=aa (λ(L9:Nat->Prop) (w':World) (h':cz w' D M R B7 B8 x x L9 m E w0)=>h'.del (q:Int) h Dj 1 0 0);have MD:=aa (λ(w':World) (xn:bH) (L9:Nat->Prop) (h':cz w' D M R B7 B8 xn x L9 m E w0)=>h'.aiD (by omega) (q:Int) h Dj)
 have HI2:=aa (show nY { x with s:=x.s.del (q:Int) h} H (mc+1) from by
  have:=(HI.out.del (q:Int)).more (m':=mc+1) (by omega)
  rw [Rf.out] at this;exact this)
 obtain ⟨x2,hx2⟩:∃x2:bH,x2 = { x with s:=x.s.del (q:Int) h}:=⟨_,rfl⟩
 rw [<-hx2] at HI2;simp only [<-hx2] at DE MD;generalize x.s.has (q:Int) h=bb at *
 generalize x.s.bA (q:Int) h=en at *
 obtain ⟨en0,en1,en2⟩:=en;simp only at DE MD;clear hx2;obtain ⟨a0,a1,Q9⟩:=cells3 A7.out;have za:=A7.out.lt;obtain ⟨e0,e1,e2⟩:=cells3 E7.out;have ze:=E7.out.lt;have m5:=D7.out.gG.1.cell 0;have Qv:=D7.out.gG.1.lt;have m8:=D7.out.gG.2.cell 0;have TJ:=D7.out.gG.2.lt;have hX5:¬KC L w0.heap.size B7:=λe=>e.2 D7.out.ll.1;have hX8:¬KC L w0.heap.size B8:=λe=>e.2 D7.out.ll.2;have hXE:¬KC L w0.heap.size EB:=λe=>e.2 HKK.out.2;have hXA:¬KC L w0.heap.size A:=λe=>e.2 HKK.out.1;go_upto_region 39 with (fail)
 go_cut [22,23] from 197 to 206 (λvP vB wx => ∃P9,vP = .pointer (some ⟨P9,0,none⟩)/\vB = .bool bb/\af wx P9 46 #[.int .u64 en0,.int .u64 en1,.int .u64 en2]/\cz wx D M R B7 B8 x2 x (KL L P9) m E w0/\af wx A 44 #[.int .i64 2,.int .i64 ky,.int .i64 vN]/\af wx EB 46 #[.int .u64 (q:Int),.int .u64 vv,.int .u64 (h:Int)]/\w7.heap.size<=P9)
 case first =>
  refine cZ (KC L w0.heap.size) #[⟨0,0,2^197,128,1⟩,⟨0,0,2^198,2048,1⟩,⟨2,2,2^199,2^198,2⟩,⟨0,0,2^200,2^15,0⟩,⟨8,8,2^201,2^200,1⟩,⟨0,0,2^202,2^15,0⟩,⟨32,32,2^203,2^202,1⟩,⟨85,127,2^204,17073716720251771677633347231124852651798406808942173875077120,3⟩,⟨128,255,2^196,2^204,0⟩,⟨256,511,2^205,2^196,0⟩,⟨256,511,2^206,2^196,0⟩,⟨0,0,2^22,0,2⟩,⟨3071,3071,0,(2^22+2^205),3⟩,⟨8191,8191,2^23,2^206,0⟩] 83 (.step 0 1 (.step 1 1 (.step 3 0 (.step 4 1 (.step 5 0 (.step 6 1 (.fork (.alt 2 (.fork (.alt 7 (.step 8 0 (.step 9 0 (.step 10 0 (.step 11 2 (.step 12 3 (.step 13 0 bu.done)))))) (.alt 11 (.step 7 3 (.step 8 0 (.step 9 0 (.step 10 0 (.step 12 3 (.step 13 0 bu.done)))))) bu.none))) (.alt 11 (.step 2 2 (.step 7 3 (.step 8 0 (.step 9 0 (.step 10 0 (.step 12 3 (.step 13 0 bu.done))))))) bu.none))))))))) (by kernel_rfl) (by decide +kernel) (by kernel_rfl) (by kernel_rfl) (by kernel_rfl) (by decide +kernel) (λc a d v w h=>oH.out c a d v w h) ?_;refine qV Tryz.underlying25 ?_
  try refine bF ?_
  refine qV Tryz.underlying33 ?_
  try refine bF ?_;refine cO ?_
  refine qV Tryz.underlying38 ?_
  try refine bF ?_;refine cO ?_
  refine qV Tryz.underlying38 ?_
  try refine bF ?_
  refine BH (λK hK=>?_) λK hK=>?_
  (go_wp2_with ((go_at_call 11;(with_reducible refine (fT _ _).mono ?_);(rintro e w8 ⟨rfl,gM⟩;(try dsimp only);(((have D4:Hid (cz w8 D M R B7 B8 x x L m E w0):=aa (D7.out.drew.later gM);have A4:=aa (A7.out.drew.below gM A7.out.drew.lt);have E4:=aa (E7.out.drew.below gM E7.out.drew.lt);have z4:w7.heap.size<=w8.heap.size:=gM.size))))));refine eQ hK (h:=?_);clear hK K)
  try refine bF ?_
  refine BH (λK hK=>?_) λK hK=>?_
  (go_wp2_with ((go_at_call 10;((with_reducible refine (DE.out _ _ (by exact D4.out)).mono ?_);rintro e w9 ⟨rfl,sS,dH⟩;(try dsimp only);(((have D5:Hid (cz w9 D M R B7 B8 x2 x L m E w0):=aa sS;have A5:=aa (A4.out.aA dH (λe=>e.2 HKK.out.1));have E5:=aa (E4.out.aA dH (λe=>e.2 HKK.out.2));have z5:w7.heap.size<=w9.heap.size:=qH z4 dH.size))))));refine eQ hK (h:=?_);clear hK K)
  try refine bF ?_;refine cO ?_;refine cO ?_;refine cO ?_
  refine qU λK hK=>?_;go_wp2_with (fail);refine eQ hK (h:=?_);clear hK K
  try refine bF ?_
  refine iC λK hK=>?_;go_wp2_with (fail);refine hK.out _ _ ?_;clear hK K
  try refine bF ?_;refine cO ?_
  refine bP ?_
  rotate_left 1
  (go_wp2_with (fail);refine eQ hK (h:=?_);clear hK K)
  try refine bF ?_
  refine iC λK hK=>?_;go_wp2_with ((go_at_call 10;((with_reducible refine (DE.out _ _ (by exact (cz.kI D4.out _))).mono ?_);rintro e w9 ⟨rfl,sS,dH⟩;(try dsimp only);(((have D5:Hid (cz w9 D M R B7 B8 x2 x (KL L w8.heap.size) m E w0):=aa sS;have A5:=aa ((A4.out.alloc _).aA dH (λe=>e.2 (.inl HKK.out.1)));have E5:=aa ((E4.out.alloc _).aA dH (λe=>e.2 (.inl HKK.out.2)));have hcX:ah (KC L w0.heap.size) _ w9:=dH.mono (λb _ e=>⟨e.1,λe2=>e.2 (Or.inl e2)⟩);have P5:Hid (af w9 w8.heap.size 46 #[.int .u64 0,.int .u64 0,.int .u64 0]):=aa ((af.new w8 _ _).aA dH (λe=>e.2 (Or.inr rfl)));have q5:=cells3 P5.out;have p50:=q5.1;have p51:=q5.2.1;have p52:=q5.2.2;clear q5;have pf5:=λj=>P5.out.frozen j;have zP5:=P5.out.lt;have HPz:=aa D4.out.fresh;have HPA:=aa (And.intro (Nat.ne_of_gt A4.out.lt) (Nat.ne_of_gt E4.out.lt));have z5:=z4))))));refine hK.out _ _ ?_;clear hK K
  try refine bF ?_;refine cO ?_;refine cO ?_;refine cO ?_
  refine iC λK hK=>?_;go_wp2_with (fail);refine hK.out _ _ ?_;clear hK K
  try refine bF ?_;refine cO ?_
  refine bP ?_
  rotate_left 1
  rotate_right 2
  rotate_left 2
  (go_wp2_with (fail);refine eQ hK (h:=?_);clear hK K)
  try refine bF ?_
  refine qU λK hK=>?_;go_wp2_with ((go_at_call 11;(with_reducible refine (fT _ _).mono ?_);(rintro e w8 ⟨rfl,gM⟩;(try dsimp only);(((have D4:Hid (cz w8 D M R B7 B8 x x (KL L w7.heap.size) m E w0):=aa ((cz.kI D7.out.drew _).later gM);have A4:=aa ((A7.out.drew.alloc _).below gM (A7.out.drew.alloc _).lt);have E4:=aa ((E7.out.drew.alloc _).below gM (E7.out.drew.alloc _).lt);have P4:Hid (af w8 w7.heap.size 46 #[.int .u64 0,.int .u64 0,.int .u64 0]):=aa (af.below (af.new w7.drew _ _) gM (by simp));have z4:w7.heap.size<=w8.heap.size:=Nat.le_of_lt P4.out.lt))))));refine eQ hK (h:=?_);clear hK K
  try refine bF ?_
  refine iC λK hK=>?_;go_wp2_with ((go_at_call 10;((with_reducible refine (DE.out _ _ (by exact D4.out)).mono ?_);rintro e w9 ⟨rfl,sS,dH⟩;(try dsimp only);(((have D5:Hid (cz w9 D M R B7 B8 x2 x (KL L w7.heap.size) m E w0):=aa sS;have A5:=aa (A4.out.aA dH (λe=>e.2 (.inl HKK.out.1)));have E5:=aa (E4.out.aA dH (λe=>e.2 (.inl HKK.out.2)));have hcX:ah (KC L w0.heap.size) _ w9:=dH.mono (λb _ e=>⟨e.1,λe2=>e.2 (Or.inl e2)⟩);have P5:Hid (af w9 w7.heap.size 46 #[.int .u64 0,.int .u64 0,.int .u64 0]):=aa (P4.out.aA dH (λe=>e.2 (Or.inr rfl)));have q5:=cells3 P5.out;have p50:=q5.1;have p51:=q5.2.1;have p52:=q5.2.2;clear q5;have pf5:=λj=>P5.out.frozen j;have zP5:=P5.out.lt;have HPz:=aa D7.out.fresh;have HPA:=aa (And.intro (Nat.ne_of_gt A7.out.lt) (Nat.ne_of_gt E7.out.lt));have z5:=aL w7.heap.size))))));refine hK.out _ _ ?_;clear hK K
  try refine bF ?_;refine cO ?_;refine cO ?_;refine cO ?_
  refine iC λK hK=>?_;go_wp2_with (fail);refine hK.out _ _ ?_;clear hK K
  try refine bF ?_;refine cO ?_
  refine bP ?_
  rotate_left 1
  rotate_right 3
  all_goals (go_wp2;go_meet)
  all_goals
   first
    | exact ⟨_,rfl,rfl,af.new _ _ _,D5.out.kI _,A5.out.alloc _,E5.out.alloc _,z5⟩
    | exact ⟨_,rfl,rfl,((P5.out.set 0 _).set 1 _).set 2 _,cz.kept D5.out (((ah.refl _ _).set1 _ _).set1 _ _ |>.set1 _ _) (λb e=>by rw [e];exact ⟨.inr rfl,HPz.out⟩),A5.out.aA (((ah.refl (λb=>b=_) _).set1 _ _).set1 _ _ |>.set1 _ _) (λe=>HPA.out.1 e.symm),E5.out.aA (((ah.refl (λb=>b=_) _).set1 _ _).set1 _ _ |>.set1 _ _) (λe=>HPA.out.2 e.symm),z5⟩
 obtain ⟨P9,rfl,rfl,QR,sS,hA9,hE9,hPw⟩:=hcut;have N9:=aa sS;have Rc:=aa QR;have A9:=aa hA9;have E9:=aa hE9;obtain ⟨e90,e91,e92⟩:=cells3 E9.out;have ze9:=E9.out.lt;obtain ⟨a90,a91,a92⟩:=cells3 A9.out;have za9:=A9.out.lt;clear sS hA9 hE9 QR a0 a1 Q9 za e0 e1 e2 ze m5 Qv m8 TJ hX5 hX8 hXE hXA DE;go_upto_region 41 with (go_at_call 22;(with_reducible refine (MD.out _ _ _ N9.out).mono ?_);rintro e Ub ⟨rfl,LD,JK⟩;(try dsimp only);have Cu:=aa LD;have BK:=aa (A9.out.aA JK (λe=>e.2 (.inl HKK.out.1)));have P10:=aa (Rc.out.aA JK (λe=>e.2 (.inr rfl)));have p10:=cells3 P10.out;have amx:=p10.1;have amw:=p10.2.1;have amv:=p10.2.2;have al2:=P10.out.lt;clear p10 LD JK)
 go_wp2;exact HQ.out x2 _ _ _ _ _ _ _ _ _ _ _ _ _ _ _ _ _ _ _ _ _ _ _ _ _ _ _ _ _ _ _ _ _ _ _ _ _ _ _ _ _ _ _ _ _ _ _ _ _ _ _ _ _ _ _ _ _ _ _ _ _ _ _ _ _ _ _ _ _ _ _ _ _ _ _ _ _ _ _ _ _ _ _ _ _ _ _ _ _ _ _ _ _ _ _ _ _ _ _ _ _ _ _ _ _ _ _ _ _ _ _ _ _ _ _ _ _ _ _ _ _ _ _ _ _ _ _ _ _ _ _ _ _ _ _ _ _ _ _ _ _ _ _ _ _ _ _ _ _ _ _ _ _ _ _ _ _ _ _ _ _ _ _ _ _ _ _ _ _ _ _ _ _ _ _ _ _ _ _ _ _ _ _ _ _ _ _ _ _ _ _ _ _ _ _ _ _ _ _ _ _ _ _ _ _ _ _ _ _ _ _ _ _ _ _ _ _ _ _ _ _ _ _ _ _ _ _ _ _ _ _ _ _ _ _ _ _ _ _ _ _ _ _ _ _ _ _ _ _ (((Cu.out.later ((aM _ _).alloc (aL _) _)).own (λb e => .inl e) D7.out.ll).more (by omega)) HI2.out (BK.out.alloc _)
theorem aiu (hkd:kd=5):Code.wp Tryz.prog rC Q a w7:=by
 subst ha;subst hkd
 conv=>arg 2;whnf
 have D7:=aa F.d;have A7:=aa F.a;have E7:=aa F.e;have HKK:=aa F.kk;have HI:=aa F.i;have Rf:=aa F.hx;have Dj:=F.gx;have TF:=aa F.hb;have HE:=aa F.he;have hv0:=F.vv;have hm8:=F.m;have hmc:=F.mc;have HQ:=aa hQ;have HR:=aa hR;have hd5:=D7.out.pd.1;clear hQ hR F
 have ST:=aa (λ(w':World) (h':cz w' D M R B7 B8 x x L m E w0)=>(show Calls Tryz.prog 14 #[.pointer (some ⟨D,0,none⟩),.int .i64 (vN)] w' λe w''=>e = .returned (jF E (x.jV (vN)))/\cz w'' D M R B7 B8 (if x.jV (vN)=0 then x.Gy (vN) else x) x L m E w0/\ah (KC L w0.heap.size) w' w'' from by
  obtain ⟨x',rfl,hh⟩:=h'.start (vN)
  exact hh))
 have MS:=aa (λ(w':World) (xn:bH) (h':cz w' D M R B7 B8 xn x L m E w0)=>h'.mstart (vN) hd5)
 have HI2:=aa (show nY (if x.jV (vN)=0 then x.Gy (vN) else x) H (mc+1) from by
  by_cases hs:x.jV (vN)=0
  . rw [if_pos hs];obtain ⟨hz,hb,h3⟩:=Jk hs hd5;exact (HI.out.Gy (vN) hd5 hb h3).more (by omega)
  . rw [if_neg hs];exact HI.out.more (by omega))
 have hsn:=QB x (vN);obtain ⟨x2,hx2⟩:∃x2:bH,x2=if x.jV (vN)=0 then x.Gy (vN) else x:=⟨_,rfl⟩
 simp only [<-hx2] at ST MS HI2;clear hx2;generalize x.jV (vN)=sn at *
 have NU:=aa (λ(w':World) (h':dR w' E)=>kG E sn hsn w' h');clear hsn;obtain ⟨a0,a1,Q9⟩:=cells3 A7.out;have za:=A7.out.lt;obtain ⟨e0,e1,e2⟩:=cells3 E7.out;have ze:=E7.out.lt;have m5:=D7.out.gG.1.cell 0;have Qv:=D7.out.gG.1.lt;have m8:=D7.out.gG.2.cell 0;have TJ:=D7.out.gG.2.lt
 go_wp2_with (first
  | (go_at_call 14;((with_reducible refine (ST.out _ D7.out).mono ?_);rintro e w9 ⟨rfl,ED,dH⟩;(try dsimp only);have N9:=aa ED;have A9:=aa (A7.out.aA dH (λe=>e.2 HKK.out.1));clear ED dH))
  | (go_at_call 20;(with_reducible refine (NU.out _ (HE.out.below N9.out.j3)).mono ?_);rintro e Ub ⟨rfl,iY⟩;(try dsimp only);have Cu:=aa (N9.out.later iY);have BK:=aa (A9.out.below iY A9.out.lt);clear iY)
  | (go_at_call 28;((with_reducible refine (MS.out _ _ Cu.out).mono ?_);rintro e w11 ⟨rfl,Vg,Vl⟩;(try dsimp only);have N11:=aa Vg;have A11:=aa (BK.out.aA Vl (λe=>e.2 HKK.out.1));clear Vg Vl)))
 exact HQ.out x2 _ _ _ _ _ _ _ _ _ _ _ _ _ _ _ _ _ _ _ _ _ _ _ _ _ _ _ _ _ _ _ _ _ _ _ _ _ _ _ _ _ _ _ _ _ _ _ _ _ _ _ _ _ _ _ _ _ _ _ _ _ _ _ _ _ _ _ _ _ _ _ _ _ _ _ _ _ _ _ _ _ _ _ _ _ _ _ _ _ _ _ _ _ _ _ _ _ _ _ _ _ _ _ _ _ _ _ _ _ _ _ _ _ _ _ _ _ _ _ _ _ _ _ _ _ _ _ _ _ _ _ _ _ _ _ _ _ _ _ _ _ _ _ _ _ _ _ _ _ _ _ _ _ _ _ _ _ _ _ _ _ _ _ _ _ _ _ _ _ _ _ _ _ _ _ _ _ _ _ _ _ _ _ _ _ _ _ _ _ _ _ _ _ _ _ _ _ _ _ _ _ _ _ _ _ _ _ _ _ _ _ _ _ _ _ _ _ _ _ _ _ _ _ _ _ _ _ _ _ _ _ _ _ _ _ _ _ _ _ _ _ _ _ _ _ _ _ _ _ (N11.out.more (by omega)) HI2.out A11.out
theorem ait (hkd:kd=6):Code.wp Tryz.prog rC Q a w7:=by
 subst ha;subst hkd
 conv=>arg 2;whnf
 have D7:=aa F.d;have A7:=aa F.a;have E7:=aa F.e;have HKK:=aa F.kk;have HI:=aa F.i;have Rf:=aa F.hx;have Dj:=F.gx;have TF:=aa F.hb;have HE:=aa F.he;have hv0:=F.vv;have hm8:=F.m;have hmc:=F.mc;have HQ:=aa hQ;have HR:=aa hR;have hd5:=D7.out.pd.1;clear hQ hR F;have WN:=aa (D7.out.adK vN);obtain ⟨wk,hwk⟩:=dC (x.wants vN);rw [<-hwk] at WN;clear hwk
 have ST:=aa (λ(w':World) (h':cz w' D M R B7 B8 x x L m E w0)=>(show Calls Tryz.prog 14 #[.pointer (some ⟨D,0,none⟩),.int .i64 (wk)] w' λe w''=>e = .returned (jF E (x.jV (wk)))/\cz w'' D M R B7 B8 (if x.jV (wk)=0 then x.Gy (wk) else x) x L m E w0/\ah (KC L w0.heap.size) w' w'' from by
  obtain ⟨x',rfl,hh⟩:=h'.start (wk)
  exact hh))
 have MS:=aa (λ(w':World) (xn:bH) (h':cz w' D M R B7 B8 xn x L m E w0)=>h'.mstart (wk) hd5)
 have HI2:=aa (show nY (if x.jV (wk)=0 then x.Gy (wk) else x) H (mc+1) from by
  by_cases hs:x.jV (wk)=0
  . rw [if_pos hs];obtain ⟨hz,hb,h3⟩:=Jk hs hd5;exact (HI.out.Gy (wk) hd5 hb h3).more (by omega)
  . rw [if_neg hs];exact HI.out.more (by omega))
 have hsn:=QB x (wk);obtain ⟨x2,hx2⟩:∃x2:bH,x2=if x.jV (wk)=0 then x.Gy (wk) else x:=⟨_,rfl⟩
 simp only [<-hx2] at ST MS HI2;clear hx2;generalize x.jV (wk)=sn at *
 have NU:=aa (λ(w':World) (h':dR w' E)=>kG E sn hsn w' h');clear hsn;obtain ⟨a0,a1,Q9⟩:=cells3 A7.out;have za:=A7.out.lt;obtain ⟨e0,e1,e2⟩:=cells3 E7.out;have ze:=E7.out.lt;have m5:=D7.out.gG.1.cell 0;have Qv:=D7.out.gG.1.lt;have m8:=D7.out.gG.2.cell 0;have TJ:=D7.out.gG.2.lt
 go_wp2_with (first
  | (go_at_call 27;(with_reducible refine WN.out.mono ?_);rintro e w8 ⟨rfl,gM⟩;(try dsimp only);have D8:=aa (D7.out.later gM);have A8:=aa (A7.out.below gM A7.out.lt);have m58:=D8.out.gG.1.cell 0;have alQ:=D8.out.gG.1.lt;clear gM)
  | (go_at_call 14;((with_reducible refine (ST.out _ D8.out).mono ?_);rintro e w9 ⟨rfl,ED,dH⟩;(try dsimp only);have N9:=aa ED;have A9:=aa (A8.out.aA dH (λe=>e.2 HKK.out.1));clear ED dH))
  | (go_at_call 20;(with_reducible refine (NU.out _ (HE.out.below N9.out.j3)).mono ?_);rintro e Ub ⟨rfl,iY⟩;(try dsimp only);have Cu:=aa (N9.out.later iY);have BK:=aa (A9.out.below iY A9.out.lt);clear iY)
  | (go_at_call 28;((with_reducible refine (MS.out _ _ Cu.out).mono ?_);rintro e w11 ⟨rfl,Vg,Vl⟩;(try dsimp only);have N11:=aa Vg;have A11:=aa (BK.out.aA Vl (λe=>e.2 HKK.out.1));clear Vg Vl)))
 exact HQ.out x2 _ _ _ _ _ _ _ _ _ _ _ _ _ _ _ _ _ _ _ _ _ _ _ _ _ _ _ _ _ _ _ _ _ _ _ _ _ _ _ _ _ _ _ _ _ _ _ _ _ _ _ _ _ _ _ _ _ _ _ _ _ _ _ _ _ _ _ _ _ _ _ _ _ _ _ _ _ _ _ _ _ _ _ _ _ _ _ _ _ _ _ _ _ _ _ _ _ _ _ _ _ _ _ _ _ _ _ _ _ _ _ _ _ _ _ _ _ _ _ _ _ _ _ _ _ _ _ _ _ _ _ _ _ _ _ _ _ _ _ _ _ _ _ _ _ _ _ _ _ _ _ _ _ _ _ _ _ _ _ _ _ _ _ _ _ _ _ _ _ _ _ _ _ _ _ _ _ _ _ _ _ _ _ _ _ _ _ _ _ _ _ _ _ _ _ _ _ _ _ _ _ _ _ _ _ _ _ _ _ _ _ _ _ _ _ _ _ _ _ _ _ _ _ _ _ _ _ _ _ _ _ _ _ _ _ _ _ _ _ _ _ _ _ _ _ _ _ _ _ (N11.out.more (by omega)) HI2.out A11.out
theorem ais (hkd:kd=7):Code.wp Tryz.prog rC Q a w7:=by
 subst ha;subst hkd
 conv=>arg 2;whnf
 have D7:=aa F.d;have A7:=aa F.a;have E7:=aa F.e;have HKK:=aa F.kk;have HI:=aa F.i;have Rf:=aa F.hx;have Dj:=F.gx;have TF:=aa F.hb;have HE:=aa F.he;have hv0:=F.vv;have hm8:=F.m;have hmc:=F.mc;have HQ:=aa hQ;have HR:=aa hR;have hd5:=D7.out.pd.1;clear hQ hR F;obtain ⟨a0,a1,Q9⟩:=cells3 A7.out;have za:=A7.out.lt;obtain ⟨e0,e1,e2⟩:=cells3 E7.out;have ze:=E7.out.lt;have m5:=D7.out.gG.1.cell 0;have Qv:=D7.out.gG.1.lt;have m8:=D7.out.gG.2.cell 0;have TJ:=D7.out.gG.2.lt;by_cases hd:(x.bz && decide (x.s.left=0))=false
 . have EN:=aa (D7.out.Mh hd);have ME:=aa (λ(w':World) (h':cz w' D M R B7 B8 x x L m E w0)=>h'.adL hd);have NU:=aa (λ(w':World) (h':dR w' E)=>(show Calls Tryz.prog 20 #[aO E 5] w' λe w''=>e = .returned (.int .i64 5)/\Below w'.heap.size w' w'' from kG E 5 (by omega) w' h'));unfold aO at EN NU;clear hd
   go_wp2_with (first
    | (go_at_call 17;(with_reducible refine EN.out.mono ?_);rintro e w8 ⟨rfl,gM⟩;(try dsimp only);have N8:=aa (D7.out.later gM);have A8:=aa (A7.out.below gM A7.out.lt);clear gM)
    | (go_at_call 29;(with_reducible refine (ME.out _ N8.out).mono ?_);rintro e w9 ⟨rfl,pR⟩;(try dsimp only);have N9:=aa (N8.out.later pR);have A9:=aa (A8.out.below pR A8.out.lt);clear pR)
    | (go_at_call 20;(with_reducible refine (NU.out _ (HE.out.below N9.out.j3)).mono ?_);rintro e Ub ⟨rfl,iY⟩;(try dsimp only);have Cu:=aa (N9.out.later iY);have BK:=aa (A9.out.below iY A9.out.lt);have a10:=cells3 BK.out;have agU:=a10.2.2;have afI:=BK.out.lt;have acu:=aa iY;clear iY a10))
   exact HQ.out x _ _ _ _ _ _ _ _ _ _ _ _ _ _ _ _ _ _ _ _ _ _ _ _ _ _ _ _ _ _ _ _ _ _ _ _ _ _ _ _ _ _ _ _ _ _ _ _ _ _ _ _ _ _ _ _ _ _ _ _ _ _ _ _ _ _ _ _ _ _ _ _ _ _ _ _ _ _ _ _ _ _ _ _ _ _ _ _ _ _ _ _ _ _ _ _ _ _ _ _ _ _ _ _ _ _ _ _ _ _ _ _ _ _ _ _ _ _ _ _ _ _ _ _ _ _ _ _ _ _ _ _ _ _ _ _ _ _ _ _ _ _ _ _ _ _ _ _ _ _ _ _ _ _ _ _ _ _ _ _ _ _ _ _ _ _ _ _ _ _ _ _ _ _ _ _ _ _ _ _ _ _ _ _ _ _ _ _ _ _ _ _ _ _ _ _ _ _ _ _ _ _ _ _ _ _ _ _ _ _ _ _ _ _ _ _ _ _ _ _ _ _ _ _ _ _ _ _ _ _ _ _ _ _ _ _ _ _ _ _ _ _ _ _ _ _ _ _ _ (Cu.out.more (by omega)) (HI.out.more (by omega)) BK.out
 . simp only [Bool.not_eq_false,Bool.and_eq_true,decide_eq_true_eq] at hd;obtain ⟨hz,hn⟩:=hd;have NU:=aa (λ(w':World) (h':dR w' E)=>(show Calls Tryz.prog 20 #[.nilIface] w' λe w''=>e = .returned (.int .i64 0)/\Below w'.heap.size w' w'' from kG E 0 (by omega) w' h'));rcases HI.out.c.k12 with hk|hk
   . have EN:=aa (D7.out.p8 hz hn hk);have ME:=aa (λ(w':World) (xn:bH) (h':cz w' D M R B7 B8 xn x L m E w0)=>h'.abx hz hn hk);have HI2:=aa ((HI.out.fin 0 x.p x.d (by omega)).more (m':=mc+1) (by omega));generalize bH.idle x.p x.d (x.s.U 0)=x2 at *
     clear hz hn hk
     go_wp2_with (first
      | (go_at_call 17;(with_reducible refine EN.out.mono ?_);rintro e w8 ⟨rfl,JI,hc8⟩;(try dsimp only);have N8:=aa JI;have A8:=aa (A7.out.aA hc8 (λe=>e.2 HKK.out.1));clear JI hc8)
      | (go_at_call 29;(with_reducible refine (ME.out _ _ N8.out).mono ?_);rintro e w9 ⟨rfl,ED,dH⟩;(try dsimp only);have N9:=aa ED;have A9:=aa (A8.out.aA dH (λe=>e.2 HKK.out.1));clear ED dH)
      | (go_at_call 20;(with_reducible refine (NU.out _ (HE.out.below N9.out.j3)).mono ?_);rintro e Ub ⟨rfl,iY⟩;(try dsimp only);have Cu:=aa (N9.out.later iY);have BK:=aa (A9.out.below iY A9.out.lt);have a10:=cells3 BK.out;have agU:=a10.2.2;have afI:=BK.out.lt;have acu:=aa iY;clear iY a10))
     exact HQ.out x2 _ _ _ _ _ _ _ _ _ _ _ _ _ _ _ _ _ _ _ _ _ _ _ _ _ _ _ _ _ _ _ _ _ _ _ _ _ _ _ _ _ _ _ _ _ _ _ _ _ _ _ _ _ _ _ _ _ _ _ _ _ _ _ _ _ _ _ _ _ _ _ _ _ _ _ _ _ _ _ _ _ _ _ _ _ _ _ _ _ _ _ _ _ _ _ _ _ _ _ _ _ _ _ _ _ _ _ _ _ _ _ _ _ _ _ _ _ _ _ _ _ _ _ _ _ _ _ _ _ _ _ _ _ _ _ _ _ _ _ _ _ _ _ _ _ _ _ _ _ _ _ _ _ _ _ _ _ _ _ _ _ _ _ _ _ _ _ _ _ _ _ _ _ _ _ _ _ _ _ _ _ _ _ _ _ _ _ _ _ _ _ _ _ _ _ _ _ _ _ _ _ _ _ _ _ _ _ _ _ _ _ _ _ _ _ _ _ _ _ _ _ _ _ _ _ _ _ _ _ _ _ _ _ _ _ _ _ _ _ _ _ _ _ _ _ _ _ _ _ (Cu.out.more (by omega)) HI2.out BK.out
   . have hd4:=HI.out.t hz hk
     have abO:x.p<32:=by
      have h1:=D7.out.pd;have:2 ^ x.d<=2 ^ 5:=Nat.pow_le_pow_right (by decide) h1.1;omega
     have EN:=aa (D7.out.Fw hz hn hk hd4);have ME:=aa (λ(w':World) (xn:bH) (h':cz w' D M R B7 B8 xn x L m E w0)=>h'.abw hz hn hk abO hd4);have HI2:=aa ((HI.out.fin 0 (2*x.p) (x.d+1) (by omega)).more (m':=mc+1) (by omega));generalize bH.idle (2*x.p) (x.d+1) (x.s.U 0)=x2 at *
     generalize bH.idle (2*x.p+1) (x.d+1) (x.s.U 1)=x3 at *
     clear hz hn hk hd4 abO
     go_wp2_with (first
      | (go_at_call 17;(with_reducible refine EN.out.mono ?_);rintro e w8 ⟨N2,a2,rfl,JI,Lv,gM,MR,hc8⟩;(try dsimp only);have N8:=aa JI;have V8:=aa Lv;have VB8:=aa gM;have HR8:=aa MR;have A8:=aa (A7.out.aA hc8 (λe=>e.2 HKK.out.1));clear JI hc8 Lv gM MR)
      | (go_at_call 29;(with_reducible refine (ME.out _ _ N8.out).mono ?_);rintro e w9 ⟨R2,Z2,rfl,ED,hr9,hcr,dH⟩;(try dsimp only);have N9:=aa ED;have S9:=aa hr9;have V9:=aa (V8.out.aA hcr (λb e=>by rw [e];exact HR8.out) (λe=>VB8.out _ (.inl rfl) e) (λb hb e=>VB8.out b (.inr hb) e));have A9:=aa (A8.out.aA dH (λe=>e.2 HKK.out.1));clear ED dH hr9 hcr)
      | (go_at_call 20;(with_reducible refine (NU.out _ (HE.out.below N9.out.j3)).mono ?_);rintro e Ub ⟨rfl,iY⟩;(try dsimp only);have Cu:=aa (N9.out.later iY);have BK:=aa (A9.out.below iY A9.out.lt);have a10:=cells3 BK.out;have agU:=a10.2.2;have afI:=BK.out.lt;have acu:=aa iY;clear iY a10)
      | (go_at_call 30;(with_reducible refine (Ky (V9.out.later acu.out) (S9.out.later acu.out) vN).mono ?_);rintro e w11 ⟨rfl,GX⟩;(try dsimp only);have N11:=aa (Cu.out.later GX);have A11:=aa (BK.out.below GX BK.out.lt)))
     exact HQ.out x2 _ _ _ _ _ _ _ _ _ _ _ _ _ _ _ _ _ _ _ _ _ _ _ _ _ _ _ _ _ _ _ _ _ _ _ _ _ _ _ _ _ _ _ _ _ _ _ _ _ _ _ _ _ _ _ _ _ _ _ _ _ _ _ _ _ _ _ _ _ _ _ _ _ _ _ _ _ _ _ _ _ _ _ _ _ _ _ _ _ _ _ _ _ _ _ _ _ _ _ _ _ _ _ _ _ _ _ _ _ _ _ _ _ _ _ _ _ _ _ _ _ _ _ _ _ _ _ _ _ _ _ _ _ _ _ _ _ _ _ _ _ _ _ _ _ _ _ _ _ _ _ _ _ _ _ _ _ _ _ _ _ _ _ _ _ _ _ _ _ _ _ _ _ _ _ _ _ _ _ _ _ _ _ _ _ _ _ _ _ _ _ _ _ _ _ _ _ _ _ _ _ _ _ _ _ _ _ _ _ _ _ _ _ _ _ _ _ _ _ _ _ _ _ _ _ _ _ _ _ _ _ _ _ _ _ _ _ _ _ _ _ _ _ _ _ _ _ _ _ (N11.out.more (by omega)) HI2.out A11.out
theorem air (hkd:(kd == 0)=false/\(kd == 1)=false/\(kd == 2)=false/\(kd == 3)=false/\(kd == 4)=false/\(kd == 5)=false/\(kd == 6)=false/\(kd == 7)=false):Code.wp Tryz.prog rC Q a w7:=by
 subst ha;obtain ⟨q0k,q1k,q2k,q3k,q4k,q5k,q6k,q7k⟩:=hkd
 conv=>arg 2;whnf
 have D7:=aa F.d;have A7:=aa F.a;have E7:=aa F.e;have HKK:=aa F.kk;have HI:=aa F.i;have Rf:=aa F.hx;have Dj:=F.gx;have TF:=aa F.hb;have HE:=aa F.he;have hv0:=F.vv;have hm8:=F.m;have hmc:=F.mc;have HQ:=aa hQ;have HR:=aa hR;have hd5:=D7.out.pd.1;clear hQ hR F;go_wp2;go_loopg [39] 300 (λgk v39 wr => ∃ (k:Nat) (x':bH),k+gk=300/\v39 = .int .i64 (k:Int)/\cz wr D M R B7 B8 x' x' L (m+600*(k:Int)) E w0/\nY x' H mc/\af wr A 44 #[.int .i64 kd,.int .i64 ky,.int .i64 vN])
 case atStart=>exact ⟨0,x,by omega,rfl,by simpa using D7.out,HI.out,A7.out⟩
 case round =>
  obtain ⟨k,x',hk,rfl,hN,hI,hA⟩:=hrel;have NK:=aa hN;have IK:=aa hI;have AK:=aa hA;have HAB:=aa (show ¬A=wr.heap.size from Nat.ne_of_lt hA.lt);obtain ⟨a0,a1,Q9⟩:=cells3 hA;have za:=hA.lt;clear hN hI hA;by_cases k0:k=0
  . have k0B:((k:Int) == 0)=true:=by simp [k0]
    have hk3:k<300:=by omega
    have k0D:decide ((k:Int)=0)=true:=by simp [k0]
    clear k0;rcases x'.acU with hev|hbad
    . have CT:=aa (λ(w':World) (h':cz w' D M R B7 B8 x' x' (KL L wr.heap.size) (m+600*(k:Int)) E w0) (hI:af w' wr.heap.size 4 #[.bool false])=>Hw h' hI (.inr rfl) NK.out.fresh hev);have HI2:=aa (IK.out.bX TF.out hev);rcases Bool.eq_false_or_eq_true x'.bz with hz|hz
      . have HMS:=aa (λ(w':World) (h':cz w' D M R B7 B8 x'.bX x' (KL L wr.heap.size) (m+600*(k:Int)) E w0)=>h'.acB hz (by omega) (hev hz));simp only [hz,Bool.true_and] at CT;generalize decide (0<x'.s.left)=bb at *
        obtain ⟨x2,hx2⟩:=dC x'.bX;simp only [<-hx2] at CT HI2 HMS;clear hev hz hx2
        go_wp2_with (first
         | (go_at_call 31;((with_reducible refine (CT.out _ (NK.out.kI _) (af.new _ _ _)).mono ?_);rintro e w8 ⟨rfl,JI,Sy,hc8⟩;(try dsimp only);obtain ⟨Rb,c84,z84,hS⟩:=HMS.out _ JI;have ST:=aa hS;have I8:=aa Sy;have A8:=aa ((AK.out.alloc _).aA hc8 (λe=>by rcases e with e|e;exact e.2 (.inl HKK.out.1);exact HAB.out e));clear JI Sy hc8 hS))
         | (go_at_call 33;((with_reducible refine ST.out.mono ?_);rintro e w9 ⟨rfl,ED,dH⟩;(try dsimp only);have N9:=aa ED;have i9:=(I8.out.aA dH (λe=>e.2 (.inr rfl)));have i90:=i9.cell 0;have zi9:=i9.lt;have A9:=aa (A8.out.aA dH (λe=>e.2 (.inl HKK.out.1)));have a9:=cells3 A9.out;have a90:=a9.1;have za9:=A9.out.lt;clear ED dH i9 a9)))
        go_roundg (gk-1)
        case measure=>omega
        case rel=>exact ⟨k+1,x2,by omega,by go_num,(N9.out.own (λb e => .inl e) D7.out.ll).more (by omega),HI2.out,A9.out⟩
      . have hst:x'.bX=x':=by unfold bH.bX;rw [if_neg (by rw [hz];decide)]
        rw [hst] at CT HI2;have HMN:=aa (λ(w':World) (h':cz w' D M R B7 B8 x' x' (KL L wr.heap.size) (m+600*(k:Int)) E w0)=>h'.acC hz);simp only [hz,Bool.false_and] at CT;clear hev hz hst
        go_wp2_with (first
         | (go_at_call 31;((with_reducible refine (CT.out _ (NK.out.kI _) (af.new _ _ _)).mono ?_);rintro e w8 ⟨rfl,JI,Sy,hc8⟩;(try dsimp only);have N9:=aa JI;obtain ⟨c84,z84⟩:=HMN.out _ JI;have i90:=Sy.cell 0;have zi9:=Sy.lt;have A9:=aa ((AK.out.alloc _).aA hc8 (λe=>by rcases e with e|e;exact e.2 (.inl HKK.out.1);exact HAB.out e));have a9:=cells3 A9.out;have a90:=a9.1;have za9:=A9.out.lt;clear JI Sy hc8 a9)))
        go_roundg (gk-1)
        case measure=>omega
        case rel=>exact ⟨k+1,x',by omega,by go_num,(N9.out.own (λb e => .inl e) D7.out.ll).more (by omega),HI2.out,A9.out⟩
    . have CB:=aa (λ(w':World) (h':cz w' D M R B7 B8 x' x' L (m+600*(k:Int)) E w0)=>El (BI:=wr.heap.size) h' hbad (λw2 hb2=>(HE.out.ec.below hb2) 10 (by decide)));have SB:=aa (λ(w':World) (Z:Nat->Prop) (h':iw w' R x' (m+600*(k:Int)) Z)=>h'.Kn (by omega) hbad);have NU:=aa (λ(w':World) (h':dR w' E)=>(show Calls Tryz.prog 20 #[aO E 10] w' λe w''=>e = .returned (.int .i64 10)/\Below w'.heap.size w' w'' from kG E 10 (by omega) w' h'));unfold aO at CB NU;clear hbad
      go_wp2_with (first
       | (go_at_call 31;((with_reducible refine (CB.out _ (NK.out.later ((aM _ _).alloc (aL _) _))).mono ?_);rintro e w8 ⟨rfl,hc8,Z,MR,hz8⟩;(try dsimp only);obtain ⟨Rb,c84,z84,hS⟩:=SB.out _ _ MR;have ST:=aa hS;have HZ8:=aa hz8;have B8w:=aa ((NK.out.j3.alloc NK.out.j3.size _).trans (hc8.below (qH NK.out.j3.size (by simp)) (λb hb e=>by have:=e.1;omega)));clear hc8 MR hz8 hS))
       | (go_at_call 33;((with_reducible refine ST.out.mono ?_);rintro e w9 ⟨rfl,dH⟩;(try dsimp only);have B9:=aa (B8w.out.trans (dH.below B8w.out.size (λb hb e=>by have:=HZ8.out b e;omega)));clear dH))
       | (go_at_call 20;((with_reducible refine (NU.out _ (HE.out.below B9.out)).mono ?_);rintro e Ub ⟨rfl,iY⟩;(try dsimp only))))
      exact HR.out _ _ _ _ _ _ _ _ _ _ _ _ _ _ _ _ _ _ _ _ _ _ _ _ _ _ _ _ _ _ _ _ _ _ _ _ _ _ _ _ _ _ _ _ _ _ _ _ _ _ _ _ _ _ _ _ _ _ _ _ _ _ _ _ _ _ _ _ _ _ _ _ _ _ _ _ _ _ _ _ _ _ _ _ _ _ _ _ _ _ _ _ _ _ _ _ _ _ _ _ _ _ _ _ _ _ _ _ _ _ _ _ _ _ _ _ _ _ _ _ _ _ _ _ _ _ _ _ _ _ _ _ _ _ _ _ _ _ _ _ _ _ _ _ _ _ _ _ _ _ _ _ _ _ _ _ _ _ _ _ _ _ _ _ _ _ _ _ _ _ _ _ _ _ _ _ _ _ _ _ _ _ _ _ _ _ _ _ _ _ _ _ _ _ _ _ _ _ _ _ _ _ _ _ _ _ _ _ _ _ _ _ _ _ _ _ _ _ _ _ _ _ _ _ _ _ _ _ _ _ _ _ _ _ _ _ _ _ _ _ _ _ _ _ _ _ _ _ (B9.out.trans (iY.mono B9.out.size))
  . have k0I:¬ (k:Int)=0:=by omega
    have k0B:((k:Int) == 0)=false:=by simpa using k0I
    by_cases h8:kd=8
    . by_cases hlt:k<300
      . have kJ:(k:Int)<300:=by omega
        have h8B:(kd == 8)=true:=by simpa using h8
        clear h8;rcases x'.acU with hev|hbad
        . have CT:=aa (λ(w':World) (h':cz w' D M R B7 B8 x' x' (KL L wr.heap.size) (m+600*(k:Int)) E w0) (hI:af w' wr.heap.size 4 #[.bool false])=>Hw h' hI (.inr rfl) NK.out.fresh hev);have HI2:=aa (IK.out.bX TF.out hev);rcases Bool.eq_false_or_eq_true x'.bz with hz|hz
          . have HMS:=aa (λ(w':World) (h':cz w' D M R B7 B8 x'.bX x' (KL L wr.heap.size) (m+600*(k:Int)) E w0)=>h'.acB hz (by omega) (hev hz));simp only [hz,Bool.true_and] at CT;generalize decide (0<x'.s.left)=bb at *
            obtain ⟨x2,hx2⟩:=dC x'.bX;simp only [<-hx2] at CT HI2 HMS;clear hev hz hx2
            go_wp2_with (first
             | (go_at_call 31;((with_reducible refine (CT.out _ (NK.out.kI _) (af.new _ _ _)).mono ?_);rintro e w8 ⟨rfl,JI,Sy,hc8⟩;(try dsimp only);obtain ⟨Rb,c84,z84,hS⟩:=HMS.out _ JI;have ST:=aa hS;have I8:=aa Sy;have A8:=aa ((AK.out.alloc _).aA hc8 (λe=>by rcases e with e|e;exact e.2 (.inl HKK.out.1);exact HAB.out e));clear JI Sy hc8 hS))
             | (go_at_call 33;((with_reducible refine ST.out.mono ?_);rintro e w9 ⟨rfl,ED,dH⟩;(try dsimp only);have N9:=aa ED;have i9:=(I8.out.aA dH (λe=>e.2 (.inr rfl)));have i90:=i9.cell 0;have zi9:=i9.lt;have A9:=aa (A8.out.aA dH (λe=>e.2 (.inl HKK.out.1)));have a9:=cells3 A9.out;have a90:=a9.1;have za9:=A9.out.lt;clear ED dH i9 a9)))
            go_roundg (gk-1)
            case measure=>omega
            case rel=>exact ⟨k+1,x2,by omega,by go_num,(N9.out.own (λb e => .inl e) D7.out.ll).more (by omega),HI2.out,A9.out⟩
          . have hst:x'.bX=x':=by unfold bH.bX;rw [if_neg (by rw [hz];decide)]
            rw [hst] at CT HI2;have HMN:=aa (λ(w':World) (h':cz w' D M R B7 B8 x' x' (KL L wr.heap.size) (m+600*(k:Int)) E w0)=>h'.acC hz);simp only [hz,Bool.false_and] at CT;clear hev hz hst
            go_wp2_with (first
             | (go_at_call 31;((with_reducible refine (CT.out _ (NK.out.kI _) (af.new _ _ _)).mono ?_);rintro e w8 ⟨rfl,JI,Sy,hc8⟩;(try dsimp only);have N9:=aa JI;obtain ⟨c84,z84⟩:=HMN.out _ JI;have i90:=Sy.cell 0;have zi9:=Sy.lt;have A9:=aa ((AK.out.alloc _).aA hc8 (λe=>by rcases e with e|e;exact e.2 (.inl HKK.out.1);exact HAB.out e));have a9:=cells3 A9.out;have a90:=a9.1;have za9:=A9.out.lt;clear JI Sy hc8 a9)))
            go_roundg (gk-1)
            case measure=>omega
            case rel=>exact ⟨k+1,x',by omega,by go_num,(N9.out.own (λb e => .inl e) D7.out.ll).more (by omega),HI2.out,A9.out⟩
        . have CB:=aa (λ(w':World) (h':cz w' D M R B7 B8 x' x' L (m+600*(k:Int)) E w0)=>El (BI:=wr.heap.size) h' hbad (λw2 hb2=>(HE.out.ec.below hb2) 10 (by decide)));have SB:=aa (λ(w':World) (Z:Nat->Prop) (h':iw w' R x' (m+600*(k:Int)) Z)=>h'.Kn (by omega) hbad);have NU:=aa (λ(w':World) (h':dR w' E)=>(show Calls Tryz.prog 20 #[aO E 10] w' λe w''=>e = .returned (.int .i64 10)/\Below w'.heap.size w' w'' from kG E 10 (by omega) w' h'));unfold aO at CB NU;clear hbad
          go_wp2_with (first
           | (go_at_call 31;((with_reducible refine (CB.out _ (NK.out.later ((aM _ _).alloc (aL _) _))).mono ?_);rintro e w8 ⟨rfl,hc8,Z,MR,hz8⟩;(try dsimp only);obtain ⟨Rb,c84,z84,hS⟩:=SB.out _ _ MR;have ST:=aa hS;have HZ8:=aa hz8;have B8w:=aa ((NK.out.j3.alloc NK.out.j3.size _).trans (hc8.below (qH NK.out.j3.size (by simp)) (λb hb e=>by have:=e.1;omega)));clear hc8 MR hz8 hS))
           | (go_at_call 33;((with_reducible refine ST.out.mono ?_);rintro e w9 ⟨rfl,dH⟩;(try dsimp only);have B9:=aa (B8w.out.trans (dH.below B8w.out.size (λb hb e=>by have:=HZ8.out b e;omega)));clear dH))
           | (go_at_call 20;((with_reducible refine (NU.out _ (HE.out.below B9.out)).mono ?_);rintro e Ub ⟨rfl,iY⟩;(try dsimp only))))
          exact HR.out _ _ _ _ _ _ _ _ _ _ _ _ _ _ _ _ _ _ _ _ _ _ _ _ _ _ _ _ _ _ _ _ _ _ _ _ _ _ _ _ _ _ _ _ _ _ _ _ _ _ _ _ _ _ _ _ _ _ _ _ _ _ _ _ _ _ _ _ _ _ _ _ _ _ _ _ _ _ _ _ _ _ _ _ _ _ _ _ _ _ _ _ _ _ _ _ _ _ _ _ _ _ _ _ _ _ _ _ _ _ _ _ _ _ _ _ _ _ _ _ _ _ _ _ _ _ _ _ _ _ _ _ _ _ _ _ _ _ _ _ _ _ _ _ _ _ _ _ _ _ _ _ _ _ _ _ _ _ _ _ _ _ _ _ _ _ _ _ _ _ _ _ _ _ _ _ _ _ _ _ _ _ _ _ _ _ _ _ _ _ _ _ _ _ _ _ _ _ _ _ _ _ _ _ _ _ _ _ _ _ _ _ _ _ _ _ _ _ _ _ _ _ _ _ _ _ _ _ _ _ _ _ _ _ _ _ _ _ _ _ _ _ _ _ _ _ _ _ (B9.out.trans (iY.mono B9.out.size))
      . have hge:¬ (k:Int)<300:=by omega
        have h8B:(kd == 8)=true:=by simpa using h8
        clear h8;go_wp2;exact HQ.out x' _ _ _ _ _ _ _ _ _ _ _ _ _ _ _ _ _ _ _ _ _ _ _ _ _ _ _ _ _ _ _ _ _ _ _ _ _ _ _ _ _ _ _ _ _ _ _ _ _ _ _ _ _ _ _ _ _ _ _ _ _ _ _ _ _ _ _ _ _ _ _ _ _ _ _ _ _ _ _ _ _ _ _ _ _ _ _ _ _ _ _ _ _ _ _ _ _ _ _ _ _ _ _ _ _ _ _ _ _ _ _ _ _ _ _ _ _ _ _ _ _ _ _ _ _ _ _ _ _ _ _ _ _ _ _ _ _ _ _ _ _ _ _ _ _ _ _ _ _ _ _ _ _ _ _ _ _ _ _ _ _ _ _ _ _ _ _ _ _ _ _ _ _ _ _ _ _ _ _ _ _ _ _ _ _ _ _ _ _ _ _ _ _ _ _ _ _ _ _ _ _ _ _ _ _ _ _ _ _ _ _ _ _ _ _ _ _ _ _ _ _ _ _ _ _ _ _ _ _ _ _ _ _ _ _ _ _ _ _ _ _ _ _ _ _ _ _ _ _ (NK.out.more (by omega)) (IK.out.more (by omega)) AK.out
    . have h8B:(kd == 8)=false:=by simpa using h8
      go_wp2;exact HQ.out x' _ _ _ _ _ _ _ _ _ _ _ _ _ _ _ _ _ _ _ _ _ _ _ _ _ _ _ _ _ _ _ _ _ _ _ _ _ _ _ _ _ _ _ _ _ _ _ _ _ _ _ _ _ _ _ _ _ _ _ _ _ _ _ _ _ _ _ _ _ _ _ _ _ _ _ _ _ _ _ _ _ _ _ _ _ _ _ _ _ _ _ _ _ _ _ _ _ _ _ _ _ _ _ _ _ _ _ _ _ _ _ _ _ _ _ _ _ _ _ _ _ _ _ _ _ _ _ _ _ _ _ _ _ _ _ _ _ _ _ _ _ _ _ _ _ _ _ _ _ _ _ _ _ _ _ _ _ _ _ _ _ _ _ _ _ _ _ _ _ _ _ _ _ _ _ _ _ _ _ _ _ _ _ _ _ _ _ _ _ _ _ _ _ _ _ _ _ _ _ _ _ _ _ _ _ _ _ _ _ _ _ _ _ _ _ _ _ _ _ _ _ _ _ _ _ _ _ _ _ _ _ _ _ _ _ _ _ _ _ _ _ _ _ _ _ _ _ _ _ (NK.out.more (by omega)) (IK.out.more (by omega)) AK.out
theorem naK:Code.wp Tryz.prog rC Q a w7:=by
 by_cases q0k:kd=0
 . exact aiz F ha hQ oH hR q0k
 by_cases q1k:kd=1
 . exact aiy F ha hQ oH hR q1k
 by_cases q2k:kd=2
 . exact aix F ha hQ oH hR q2k
 by_cases q3k:kd=3
 . exact aiw F ha hQ oH hR q3k
 by_cases q4k:kd=4
 . exact aiv F ha hQ oH hR q4k
 by_cases q5k:kd=5
 . exact aiu F ha hQ oH hR q5k
 by_cases q6k:kd=6
 . exact ait F ha hQ oH hR q6k
 by_cases q7k:kd=7
 . exact ais F ha hQ oH hR q7k
 exact air F ha hQ oH hR ⟨by simpa using q0k,by simpa using q1k,by simpa using q2k,by simpa using q3k,by simpa using q4k,by simpa using q5k,by simpa using q6k,by simpa using q7k⟩
end
end Go.Proofs.YtolhmibejhldkaaGreatDoor
namespace Go.Proofs.YtolhmibejhldkaaGreatDoor
open Go.RowKit Go.Proofs
theorem cz.begin {w2 w3 w4 w5 w6 w0:World} {D R:Nat} {a:Nat->Nat} {x:bH} {E:Nat->Addr} (hv:ND w2 D a x E w0) (hw3:w3=w2.alloc (.cells #[.pointer (some ⟨D,0,none⟩)] 25)) (hr:iw w4 R x 0 (λb=>w3.heap.size<=b/\b<w4.heap.size)) (hb4:Below w3.heap.size w3 w4) (hb5:Below w4.heap.size w4 w5)
 (hw6:w6=(w5.alloc (.cells aG.zero.cells 37)).alloc (.cells #[.pointer (some ⟨w5.heap.size,0,none⟩)] 33)) :
 cz w6 D w5.heap.size R w2.heap.size (w5.heap.size+1) x x (λb=>b=w2.heap.size\/b=w5.heap.size+1) 0 E w0:=by
 have hz3:w3.heap.size=w2.heap.size+1:=by rw [hw3];simp
 have hz4:=hb4.size;have hz5:=hb5.size;have hz6:w6.heap.size=w5.heap.size+2:=by rw [hw6];simp
 have hz2:=hv.j3.size;have hb3:Below w2.heap.size w2 w3:=by rw [hw3];exact (aM _ _).alloc (aL _) _
 have hb6:Below w5.heap.size w5 w6:=by rw [hw6];exact ((aM _ _).alloc (aL _) _).alloc (by simp) _
 have agx:Below w3.heap.size w3 w6:=hb4.trans ((hb5.trans (hb6.mono hz5)).mono hz4);have hB7:af w3 w2.heap.size 25 #[.pointer (some ⟨D,0,none⟩)]:=by rw [hw3];exact af.new _ _ _
 refine ⟨a,aG.zero,_,hv.later (hb3.trans (agx.mono (by omega))),?_,rfl,hr.later (hb5.trans (hb6.mono hz5)),hB7.below agx hB7.lt,?_,λb e=>?_,⟨by omega,?_,λe=>?_⟩,λb e=>?_,λb e=>⟨?_,?_⟩,⟨.inl rfl,.inr rfl⟩⟩
 . rw [hw6];exact (af.new _ _ _).alloc _
 . rw [hw6];exact af.aF (by simp)
 . have h1:=(hv.bx e).1;exact ⟨by omega,by rintro (f|f) <;> omega,λf=>by have:=f.1;omega⟩
 . rintro (f|f) <;> omega
 . have:=e.2;omega
 . rcases e with e|e <;> omega
 . have:=e.1;omega
 . have h1:=e.1;have h2:=e.2;rintro (f|f) <;> omega
end Go.Proofs.YtolhmibejhldkaaGreatDoor
