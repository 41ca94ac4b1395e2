/- Joined texts; conditions within. -/
import Derived.Test.YtolhmibejhldkaaGreatDoorPkNodeKa
set_option linter.unusedVariables false
set_option linter.unusedSimpArgs false
set_option maxRecDepth 100000
set_option maxHeartbeats 16000000
namespace Go.Proofs.YtolhmibejhldkaaGreatDoor
open Go.RowKit Go.Proofs
attribute [local go_sem] neq_nilG eql_nilG
theorem K5 (depth:Int) (a1 a2:Option Addr) (c1 c2:Nat) (n1 n2:Nat) (E:Nat->Addr) (w0:World) (he:dR w0 E) (hT:iB w0) (hn:n1<1\/60<n1\/120<n2) :
 Calls Tryz.prog 4 #[.int .i64 depth,.slice a1 n1 c1,.slice a2 n2 c2] w0 λe w'=>e = .returned (.bool true)/\Below w0.heap.size w0 w':=by
 have AL:=aa (BB E w0 (he.ec.sub (by decide)) hT);clear he hT;by_cases g1:n1<1
 . have d1:decide ((n1:Int)<1)=true:=by rw [decide_eq_true_iff];omega
   have d1':(n1:Int)<1:=by omega
   clear hn;go_enter Tryz.func4,Tryz.ntmps4
   go_wp2_with (go_at_call 5;(with_reducible refine AL.out.mono ?_);rintro e w1 ⟨rfl,hb1⟩;have B1:=aa hb1)
   go_ret;exact ⟨rfl,B1.out⟩
 . have d1:decide ((n1:Int)<1)=false:=by rw [decide_eq_false_iff_not];omega
   have d1':¬ (n1:Int)<1:=by omega
   by_cases g2:60<n1
   . have d2:decide ((n1:Int) > 60)=true:=by rw [decide_eq_true_iff];omega
     have d2':(60:Int)<(n1:Int):=by omega
     clear hn;go_enter Tryz.func4,Tryz.ntmps4
     go_wp2_with (go_at_call 5;(with_reducible refine AL.out.mono ?_);rintro e w1 ⟨rfl,hb1⟩;have B1:=aa hb1)
     go_ret;exact ⟨rfl,B1.out⟩
   . have d2:decide ((n1:Int) > 60)=false:=by rw [decide_eq_false_iff_not];omega
     have d2':¬ (60:Int)<(n1:Int):=by omega
     have d3:decide ((n2:Int) > 120)=true:=by rw [decide_eq_true_iff];omega
     have d3':(120:Int)<(n2:Int):=by omega
     clear hn;go_enter Tryz.func4,Tryz.ntmps4
     go_wp2_with (go_at_call 5;(with_reducible refine AL.out.mono ?_);rintro e w1 ⟨rfl,hb1⟩;have B1:=aa hb1)
     go_ret;exact ⟨rfl,B1.out⟩
theorem KZ (depth:Int) (b1 o1 c1:Nat) (a2:Option Addr) (c2 n1 n2:Nat) (G1:Nat->Nat) (f2:Nat->Nat->Int) (E:Nat->Addr) (w0:World) (he:dR w0 E) (hT:iB w0) (k1:1<=n1/\n1<=60) (k2:n2<=120)
 (hG:∀i,i<n1->G1 i<18446744073709551616) (hc:∀w',Below w0.heap.size w0 w'->∀i,i<n1->w'.cell? ⟨b1,o1+i,none⟩=some (.int .u64 (G1 i:Int))) (aja:b1<w0.heap.size)
 (hA:n2≠0->∃b off,a2=some ⟨b,off,none⟩/\b<w0.heap.size/\∀w',Below w0.heap.size w0 w'->∀i,i<n2->∀j,j<3->w'.cell? ⟨b,off+(i*3+j),none⟩=some (.int .i64 (f2 i j))) :
 Calls Tryz.prog 4 #[.int .i64 depth,.slice (some ⟨b1,o1,none⟩) n1 c1,.slice a2 n2 c2] w0 λe w'=>e = .returned (.bool true)/\Below w0.heap.size w0 w':=by
 have AL:=aa (BB E w0 (he.ec.sub (by decide)) hT);have HE:=aa he;have d1:decide ((n1:Int)<1)=false:=by rw [decide_eq_false_iff_not];omega
 have d1':¬ (n1:Int)<1:=by omega
 have d2:decide ((n1:Int) > 60)=false:=by rw [decide_eq_false_iff_not];omega
 have d2':¬ (60:Int)<(n1:Int):=by omega
 have d3:decide ((n2:Int) > 120)=false:=by rw [decide_eq_false_iff_not];omega
 have d3':¬ (120:Int)<(n2:Int):=by omega
 by_cases hd:¬afd depth
 . have NW:=aa (λ(W:World) (hb:Below w0.heap.size w0 W)=>NH depth hd E W ((he.ec.below hb).sub (by decide)));have RW:=aa (λ(W:World)=>GL depth hd W);have NU:=aa (λ(w':World) (h':dR w' E)=>(show Calls Tryz.prog 20 #[aO E 1] w' λe w''=>e = .returned (.int .i64 1)/\Below w'.heap.size w' w'' from kG E 1 (by omega) w' h'));unfold aO at NW NU;clear he hT hc hA hd hG;go_enter Tryz.func4,Tryz.ntmps4
   go_wp2_with (first
    | (go_at_call 5;(with_reducible refine AL.out.mono ?_);rintro e w1 ⟨rfl,hb1⟩;have B1:=aa hb1)
    | (go_at_call 6;(with_reducible refine (NW.out _ B1.out).mono ?_);rintro e w2 ⟨rfl,hb2⟩;have B2:=aa (B1.out.trans (hb2.mono B1.out.size));have B3:=aa (show Below w0.heap.size w0 (w2.alloc (.cells #[.pointer none] 25)) from B2.out.alloc B2.out.size _);have N3:=aa (af.new w2 25 #[.pointer none]))
    | (go_at_call 19;(with_reducible refine (RW.out _).mono ?_);rintro e w4 ⟨rfl,hb4⟩;have B4:=aa (B3.out.trans (hb4.mono B3.out.size));have N4:=aa (N3.out.below hb4 N3.out.lt);clear hb4)
    | (go_at_call 20;(with_reducible refine (NU.out _ (HE.out.below B4.out)).mono ?_);rintro e w5 ⟨rfl,hb5⟩;have B5:=aa (B4.out.trans (hb5.mono B4.out.size));have n5:=(N4.out.below hb5 N4.out.lt).cell 0;have z5:=(N4.out.below hb5 N4.out.lt).lt;clear hb5))
   go_ret;exact ⟨rfl,B5.out⟩
 . obtain ⟨hd0,hd5⟩:=Classical.not_not.1 hd;obtain ⟨d,rfl⟩:=Int.eq_ofNat_of_zero_le hd0;have hdn:d<=5:=by omega
   have TF:=aa (show ∀q,Ih n1 (λi=>G1 i / 2 ^ d) q<18446744073709551616 from Vn k1.1 (λi hi=>Nat.lt_of_le_of_lt (Nat.div_le_self _ _) (hG i hi)));obtain ⟨H,hH⟩:∃H,H=Ih n1 (λi=>G1 i / 2 ^ d):=⟨_,rfl⟩
   have HH:=aa (show ∀x,x<n1->H (x:Int)=G1 x / 2 ^ d from λx hx=>by rw [hH];exact Vo hx);rw [<-hH] at TF;clear hH;have NW:=aa (λ(W:World) (hb:Below w0.heap.size w0 W)=>Ej (w:=W) (w0:=w0) 0 d hdn (Nat.pow_pos (by decide)) (he.ec.sub (by decide)) hT hb);have RW:=aa (λ(W:World)=>GK d hdn W);have NU:=aa (λ(w':World) (h':dR w' E)=>(show Calls Tryz.prog 20 #[.nilIface] w' λe w''=>e = .returned (.int .i64 0)/\Below w'.heap.size w' w'' from kG E 0 (by omega) w' h'));simp only [show ((0:Nat):Int)=0 from rfl] at NW;have HI0:=aa (nY.new (H:=H) d);obtain ⟨x0,hx0⟩:=dC (bH.idle 0 d (ae.new 1));rw [<-hx0] at HI0;simp only [<-hx0] at NW RW;have HG:=aa hG;have HC:=aa hc;have HA:=aa hA;clear hx0 he hT hG hc hA hd hd0;go_enter Tryz.func4,Tryz.ntmps4
   go_upto_region 12 with (first
    | (go_at_call 5;(with_reducible refine AL.out.mono ?_);rintro e w1 ⟨rfl,hb1⟩;have B1:=aa hb1)
    | (go_at_call 6;(with_reducible refine (NW.out _ B1.out).mono ?_);rintro e w2 ⟨D,a,rfl,hD,hv,hX,hb2⟩;have V2:=aa hv;have B2:=aa (B1.out.trans (hb2.mono B1.out.size));have B3:=aa (show Below w0.heap.size w0 (w2.alloc (.cells #[.pointer (some ⟨D,0,none⟩)] 25)) from B2.out.alloc B2.out.size _);have N3:=aa (af.new w2 25 #[.pointer (some ⟨D,0,none⟩)]);clear hv hX hb2 hD)
    | (go_at_call 19;(with_reducible refine (RW.out _).mono ?_);rintro e w4 ⟨R,rfl,hr4,hb4⟩;have R4:=aa hr4;have TU:=aa hb4;have B4:=aa (B3.out.trans (hb4.mono B3.out.size));have N4:=aa (N3.out.below hb4 N3.out.lt);clear hb4 hr4)
    | (go_at_call 20;(with_reducible refine (NU.out _ (HE.out.below B4.out)).mono ?_);rintro e w5 ⟨rfl,hb5⟩;have HB5:=aa hb5;have B5:=aa (B4.out.trans (hb5.mono B4.out.size));have n5:=(N4.out.below hb5 N4.out.lt).cell 0;have z5:=(N4.out.below hb5 N4.out.lt).lt;clear hb5))
   refine bG (λw6 hw6=>?_);have S6:=aa (cz.begin V2.out rfl R4.out TU.out HB5.out (w6:=w6) (by rw [hw6];simp only [aG.cells,aG.zero]));obtain ⟨M,hM⟩:=dC w5.heap.size;obtain ⟨B7,hB7⟩:=dC w2.heap.size;obtain ⟨B8,hB8⟩:=dC (M+1);simp only [<-hM,<-hB7] at S6 ⊢;simp only [<-hB8] at S6 ⊢;obtain ⟨L,hL⟩:∃L:Nat->Prop,L=λb=>b=B7\/b=B8:=⟨_,rfl⟩
   rw [<-hL] at S6;clear hw6 hM hB7 hB8 hL n5 z5 V2 R4 TU HB5 B2 B3 B4 B5 N3 N4;go_wp2;go_loopg [86] n2 (λgk v86 wr => ∃ (j:Nat) (x:bH),j+gk=n2/\v86 = .int .i64 (j:Int)/\cz wr D M R B7 B8 x x L (200000*(j:Int)) E w0/\nY x H (j:Int))
   case atStart=>exact ⟨0,x0,by omega,rfl,by simpa using S6.out,by simpa using HI0.out⟩
   case round =>
    clear S6 HI0;obtain ⟨j,x,hj,rfl,hN,hI⟩:=hrel;obtain ⟨ga,hga⟩:=dC gk;subst hga
    as_aux_lemma =>
     have NK:=aa hN;have IK:=aa hI;have BD:=aa hN.j3;clear hN hI;by_cases hlt:j<n2
     . have kJ:(j:Int)<(n2:Int):=by omega
       obtain ⟨ab,ao,rfl,haz,hac⟩:=HA.out (by omega);have t0:wr.cell? ⟨ab,ao+j*3,none⟩=some (.int .i64 (f2 j 0)):=by simpa using hac wr BD.out j hlt 0 (by decide)
       have t1:wr.cell? ⟨ab,ao+j*3+1,none⟩=some (.int .i64 (f2 j 1)):=by simpa [Nat.add_assoc] using hac wr BD.out j hlt 1 (by decide)
       have t2:wr.cell? ⟨ab,ao+j*3+2,none⟩=some (.int .i64 (f2 j 2)):=by simpa [Nat.add_assoc] using hac wr BD.out j hlt 2 (by decide)
       have ajb:ab<wr.heap.size:=bM haz BD.out.size;generalize f2 j 0=kd at t0;generalize f2 j 1=ky at t1;generalize f2 j 2=vN at t2;have hqk:=abF ky n1 k1.1
       have hkey:(IntKind.u64.wrap ky).tmod (n1:Int)=(U5 ky n1:Int):=by
        have hw:=Ke ky;unfold U5;rw [Int.tmod_eq_emod_of_nonneg hw.1];have h2:=Int.emod_nonneg (IntKind.u64.wrap ky) (show (n1:Int)≠0 by omega);omega
       have HK:=aa hkey;clear hkey;obtain ⟨q,hq⟩:=dC (U5 ky n1);rw [<-hq] at hqk HK;have hGq:=HG.out q hqk;have hHq:=HH.out q hqk;have gq:=HC.out wr BD.out q hqk;obtain ⟨g,hge⟩:=dC (G1 q);rw [<-hge] at hGq hHq gq;have ad5:g / 2 ^ d<18446744073709551616:=Nat.lt_of_le_of_lt (Nat.div_le_self _ _) hGq;obtain ⟨h,hh⟩:=dC (g / 2 ^ d);rw [<-hh] at hHq ad5;have aiQ:(g:Int) / 2 ^ d=(h:Int):=by rw [hh];norm_cast
       have HHq:=aa hHq;obtain ⟨vv,hvv⟩:∃vv,IntKind.u64.wrap vN=vv:=⟨_,rfl⟩
       have e0:IntKind.u64.wrap (n1:Int)=(n1:Int):=by rw [IntKind.wrap_u64];omega
       have e1:IntKind.i64.wrap (q:Int)=(q:Int):=by rw [IntKind.wrap_i64];omega
       have e2:IntKind.u64.wrap (q:Int)=(q:Int):=by rw [IntKind.wrap_u64];omega
       have hqI:(q:Int)<(n1:Int):=by omega
       have hkey:=HK.out;have zb:=bM aja BD.out.size;have HVV:=aa hvv;clear hac haz hq hge hHq HK hh hGq;go_upto_region 16 with (fail)
       refine bG (λw5 JG=>?_);obtain ⟨A,hAA⟩:=dC wr.heap.size;have N5:=aa (show cz w5 D M R B7 B8 x x (KL L A) (200000*(j:Int)) E w0 by rw [JG,hAA];exact NK.out.kI _);have A5:=aa (show af w5 A 44 #[.int .i64 kd,.int .i64 ky,.int .i64 vN] by rw [JG,hAA];exact af.new _ _ _);have B5:Below wr.heap.size wr w5:=by rw [JG];go_grown
       replace gq:=(B5.cell (p:=⟨b1,o1+q,none⟩) zb).trans gq;have zb5:b1<w5.heap.size:=bM zb B5.size;rw [<-hAA];obtain ⟨a50,a51,a52⟩:=cells3 A5.out;have za5:=A5.out.lt;clear JG hAA B5 zb t0 t1 t2 ajb hkey;have hcd:=ah.lL (λ_=>False) w5 (.cells #[.int .u64 0,.int .u64 0,.int .u64 0] 46);refine ag (λ_=>False) #[⟨0,0,2^98,2^14,0⟩,⟨1,1,2^99,2^98,0⟩,⟨0,0,2^100,8192,0⟩,⟨4,4,2^101,2^100,1⟩,⟨8,12,2^102,2^101,0⟩,⟨0,0,2^103,2,0⟩,⟨0,0,2^104,2^14,0⟩,⟨96,96,2^105,(2^103+2^104),0⟩,⟨128,224,2^106,2^105,1⟩,⟨0,0,2^107,1,0⟩,⟨768,992,2^108,(2^106+2^107),0⟩,⟨1042,2047,2^109,(2^99+2^102+2^108),0⟩,⟨0,0,2^15,0,2⟩,⟨8191,8191,0,(2^15+2^109),3⟩] 264 [(0,0),(1,0),(2,0),(3,1),(4,0),(5,0),(6,0),(7,0),(8,1),(9,0),(10,0),(11,0),(12,2),(13,3)] (by kernel_rfl) (by kernel_rfl) (by kernel_rfl) (by kernel_rfl) (by kernel_rfl) (by kernel_rfl) (λc a d v w h=>by cases d <;> exact h) ?_;refine aj ?_;refine aj ?_;refine aj ?_;refine bW Tryz.underlying3 ?_
       try refine aC ?_;refine aj ?_;refine aj ?_;refine aj ?_;refine aj ?_
       refine bW Tryz.underlying38 ?_
       try refine aC ?_;refine aj ?_;refine aj ?_;refine aj ?_
       refine iK λK hK=>?_;go_wp2_with (fail);refine iX hK (h:=?_);clear hK K
       try refine aC ?_
       refine fA λK hK=>?_;go_wp2_with (fail);refine hK.out _ _ ?_;clear hK K
       try refine aC ?_
       refine aD ?_;clear hcd;go_upto_region 17 with (fail)
       refine bG (λw7 hw7=>?_);obtain ⟨EB,hEB⟩:=dC w5.heap.size;have N7:=aa (show cz w7 D M R B7 B8 x x (KL (KL L A) EB) (200000*(j:Int)) E w0 by rw [hw7,hEB];exact cz.drew (cz.kI N5.out _));have A7:=aa (show af w7 A 44 #[.int .i64 kd,.int .i64 ky,.int .i64 vN] by rw [hw7];exact (A5.out.alloc _).drew);have E7:=aa (show af w7 EB 46 #[.int .u64 (q:Int),.int .u64 vv,.int .u64 (h:Int)] by rw [hw7,hEB];exact (af.new w5 _ _).drew);rw [<-hEB];have PX:=aa N7.out.Dq;have WI:=aa (λ(W:World)=>Rk h x.p x.d ad5 (by have:=N7.out.pd.1;omega) N7.out.pd.2 W);have m5:=N7.out.gG.1.cell 0;have Qv:=N7.out.gG.1.lt;obtain ⟨L',hL'⟩:∃L',L'=KL (KL L A) EB:=⟨_,rfl⟩
       rw [<-hL'] at N7;have HLL:=aa (show ∀b,L b->L' b from λb e=>by rw [hL'];exact .inl (.inl e));have HLK:=aa (show L' A/\L' EB from by rw [hL'];exact ⟨.inl (.inr rfl),.inr rfl⟩);clear hw7 hEB hL' N5 A5 a50 a51 a52 za5 gq zb5 aiQ hvv;by_cases htop:rR h x.d=x.p
       . rw [decide_eq_true htop] at WI;clear htop
         go_upto_block 2 with (first
          | (go_at_call 8;(with_reducible refine PX.out.mono ?_);rintro e w8 ⟨rfl,gM⟩;have N8:=aa (N7.out.later gM);have A8:=aa (A7.out.below gM A7.out.lt);have E8:=aa (E7.out.below gM E7.out.lt);have e8:=cells3 E8.out;have e80:=e8.1;have e81:=e8.2.1;have e82:=e8.2.2;have ze8:=E8.out.lt;have a8:=cells3 A8.out;have a80:=a8.1;have za8:=A8.out.lt;clear gM e8 a8)
          | (go_at_call 9;(with_reducible refine (WI.out _).mono ?_);rintro e w9 ⟨rfl,rfl⟩))
         have F:=aa (show aff w0 w8 D M R B7 B8 A EB x L' (200000*(j:Int)) (j:Int) E q h kd ky vN vv H from
          ⟨N8.out,A8.out,E8.out,HLK.out,IK.out,HHq.out,ad5,TF.out,HE.out,HVV.out,by omega,by omega⟩)
         clear e80 e81 e82 ze8 a80 za8 m5 Qv;refine naK F.out rfl ?_ (aa (λc a d v w h=>by cases d <;> exact h)) ?_
         . intro x' ut6 Jg Jf Je Jd Jc Jb Ja I9 I7 I6 I5 I4 I1 IZ IY IW IV IU IQ IP IM IL IJ II IG IE Av Au Ar Aq Ap Ao Am Al Ak Aj Ai Ah Ag Af Ae Ad Ac Ab Aa zZ zY zW zU zS zQ zO zL zK zJ zH zC zy zx zq zi y9 y8 y5 yZ yY yX yV yU yT yS yR yQ yP yO yN yM yL yK yJ yI yH yG yF yE yD yC yB yA yz yx yw yu yt yo yn ym yl yj yh yg yf yc x9 x8 xZ xY xX xW xV xU xS xR xQ xP xO xN xM xL xK xJ xI xH xG xE xD xC xB xA xz xy xx xw xu xq xk xh xg xe xc wZ wY wX wW wV wU wT wS wR wQ wP wO wN wM wK wJ wH wG wF wD wC wB wz wy wu wm wh vZ vY vX vW vV vU vT vS vR vQ vO vM vL vK vJ vI vH vG vF vD vC vz vw vo vk vg uZ uY uX uW uV uU uT uS uR uQ uP uO uN uM uL uK uJ uI uH uG uF uD uC uB uA uz uy uw uu uq uo um uk uj ui ug uf tZ tY tX tV tQ tO tN tL tK tJ tH tF tC tu sZ sW sU wc hN' hI' hA';have NC:=aa hN';have IC:=aa hI';have SM:=aa (hN'.same vN);obtain ⟨c0,c1',c2'⟩:=cells3 hA';have zc:=hA'.lt;have m9:=hN'.gG.1.cell 0;have zm9:=hN'.gG.1.lt;clear hN' hI' hA'
           go_wp2_with (go_at_call 30;(with_reducible refine SM.out.mono ?_);rintro e w11 ⟨rfl,GX⟩;have N11:=aa (NC.out.later GX))
           go_roundg (ga-1)
           case measure=>omega
           case rel=>exact ⟨j+1,x',by omega,by go_num,(N11.out.own HLL.out NK.out.ll).more (by omega),IC.out.more (by omega)⟩
         . intro Jg Jf Je Jd Jc Jb Ja I9 I7 I6 I5 I4 I1 IZ IY IW IV IU IQ IP IM IL IJ II IG IE Av Au Ar Aq Ap Ao Am Al Ak Aj Ai Ah Ag Af Ae Ad Ac Ab Aa zZ zY zW zU zS zQ zO zL zK zJ zH zC zy zx zq zi y9 y8 y5 yZ yY yX yV yU yT yS yR yQ yP yO yN yM yL yK yJ yI yH yG yF yE yD yC yB yA yz yx yw yu yt yo yn ym yl yj yh yg yf yc x9 x8 xZ xY xX xW xV xU xS xR xQ xP xO xN xM xL xK xJ xI xH xG xE xD xC xB xA xz xy xx xw xu xq xk xh xg xe xc wZ wY wX wW wV wU wT wS wR wQ wP wO wN wM wK wJ wH wG wF wD wC wB wz wy wu wm wh vZ vY vX vW vV vU vT vS vR vQ vO vM vL vK vJ vI vH vG vF vD vC vz vw vo vk vg uZ uY uX uW uV uU uT uS uR uQ uP uO uN uM uL uK uJ uI uH uG uF uD uC uB uA uz uy uw uu uq uo um uk uj ui ug uf tZ tY tX tV tQ tO tN tL tK tJ tH tF tC tu sZ sW sU wc hb;go_ret;exact ⟨rfl,hb⟩
       . rw [decide_eq_false htop] at WI;clear htop
         go_wp2_with (first
          | (go_at_call 8;(with_reducible refine PX.out.mono ?_);rintro e w8 ⟨rfl,gM⟩;have N8:=aa (N7.out.later gM);have E8:=aa (E7.out.below gM E7.out.lt);have e8:=cells3 E8.out;have e80:=e8.1;have e81:=e8.2.1;have e82:=e8.2.2;have ze8:=E8.out.lt;clear gM e8)
          | (go_at_call 9;(with_reducible refine (WI.out _).mono ?_);rintro e w9 ⟨rfl,rfl⟩))
         go_roundg (ga-1)
         case measure=>omega
         case rel=>exact ⟨j+1,x,by omega,by go_num,(N8.out.own HLL.out NK.out.ll).more (by omega),IK.out.more (by omega)⟩
     . go_wp2;go_ret;exact ⟨rfl,BD.out⟩
theorem nodeActs_any (depth:Int) (v1 v2:Value) (n1 n2:Nat) (f1 f2:Nat->Nat->Int) (E:Nat->Addr) (w0:World) (he:dR w0 E) (hT:iB w0) (h1:mE w0 v1 n1 1 .u64 f1) (h2:mE w0 v2 n2 3 .i64 f2) :
 Calls Tryz.prog 4 #[.int .i64 depth,v1,v2] w0 λe w'=>e = .returned (.bool true)/\Below w0.heap.size w0 w':=by
 obtain ⟨a2,c2,rfl,hx2⟩:=h2.cellAt (by decide);by_cases hn:n1<1\/60<n1\/120<n2
 . obtain ⟨a1,c1,rfl,-⟩:=h1.cellAt (by decide);exact K5 depth a1 a2 c1 c2 n1 n2 E w0 he hT hn
 . obtain ⟨b,off,cap,G,rfl,hz,hG,hc⟩:=Sw h1 (by omega);exact KZ depth b off cap a2 c2 n1 n2 G f2 E w0 he hT (by omega) (by omega) hG hc hz hx2
end Go.Proofs.YtolhmibejhldkaaGreatDoor
