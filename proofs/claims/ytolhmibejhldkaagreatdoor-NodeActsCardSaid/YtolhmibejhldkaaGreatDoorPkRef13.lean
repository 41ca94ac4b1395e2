/- Joined texts; conditions within. -/
import Derived.Test.YtolhmibejhldkaaGreatDoorPkDual3
set_option linter.unusedVariables false
set_option linter.unusedSimpArgs false
set_option maxRecDepth 100000
set_option maxHeartbeats 16000000
namespace Go.Proofs.YtolhmibejhldkaaGreatDoor
open Go.RowKit Go.Proofs
section
variable {w w':World} {X gt aH k:Nat} {p0:PB} {pt:Nat->PB} {d next:Nat} {T:ae} {U:Nat->ae} {L0:Int} {Lc:Nat->Int}
theorem RV.zlt (h:RV w X gt aH k p0 pt d next T U L0 Lc):∀b,ZD p0 pt k b->b<w.heap.size:=λb hb=>by
 rcases hb with hb | ⟨i,hi,hb⟩
 . have:=h.o.hz;omega
 . have:=(h.t i hi).hz;omega
theorem RV.inc (h:RV w X gt aH k p0 pt d next T U L0 Lc):RV (w.setCell ⟨X,3,none⟩ (.int .i64 ((next+1:Nat):Int))) X gt aH k p0 pt d (next+1) T U L0 Lc:=by
 have hC:ah (λb=>b=X) w (w.setCell ⟨X,3,none⟩ (.int .i64 ((next+1:Nat):Int))):=(ah.refl _ _).set1 _ _
 have hgX:gt≠X:=λe=>by
  have l0:=h.v.l 0 (by have:=h.v.hk;omega);obtain ⟨dI,-,pR⟩:=h.v.b;have c2:=pR.cell 0;have c3:=pR.cell 2;subst e;rw [c2] at l0;have q1:=h.s0 0 (by have:=h.v.hk;omega);have q2:=(h.t 0 (by have:=h.v.hk;omega)).id;have q3:=h.o.id;simp at l0
  all_goals omega
 refine ⟨⟨(by obtain ⟨q,e,b⟩:=h.v.b;exact ⟨q,e,b.set 3 _⟩),λi hi=>(hC.cell (p:=⟨gt,i,none⟩) h.v.lt hgX).trans (h.v.l i hi),bM h.v.lt hC.size,h.v.hk⟩,h.o.aA hC (λb a c e=>(h.x b (.inl ⟨a,c⟩)).1 e),λi hi=>(h.t i hi).aA hC (λb a c e=>(h.x b (.inr ⟨i,hi,a,c⟩)).1 e),h.s0,h.s1,h.x⟩
structure RSt (wr:World) (X gt aH k:Nat) (p0:PB) (pt:Nat->PB) (d next:Nat) (T':ae) (l:List ai) (s:(Nat->ae)×Nat) (L0:Int) (Lc:Nat->Int) (m:Int) (base:Nat) (vl:Value) (w:World):Prop where
 e:∃mG,RV wr X gt aH k p0 pt d next T' s.1 L0 mG/\BP mG k=BP Lc k+s.2/\∀i,i<k->0<=mG i/\mG i<=m
 r:wr.ownsRow base 46 3 vl l.length (cB l)
 c:ah (λb=>ZD p0 pt k b\/b=X) w wr
theorem Nq (h:RV w X gt aH k p0 pt d next T U L0 Lc) (hL:0<=L0/\L0<=100000000) (mL:Int) (hmL:0<=mL/\mL<=100000000) (hn:next<T.n) (jT:∀i,i<k->0<=Lc i/\Lc i<=mL) :
 Calls Tryz.prog 84 #[.pointer (some ⟨X,0,none⟩)] w λe w' => ∃b,e = .returned (.tuple #[.bool true,.bool b])/\(b=false->nH k d (aS (T.M next) (T.S next)) U)/\(b=true->¬nH k d (aS (T.M next) (T.S next)) U)/\
  (b=false->∃mG,RV w' X gt aH k p0 pt d (next+1) (T.dw next) (jN k d (aS (T.M next) (T.S next)) (U,0)).1 (L0+1) mG/\BP mG k=BP Lc k+((jN k d (aS (T.M next) (T.S next)) (U,0)).2:Nat)/\∀i,i<k->0<=mG i/\mG i<=mL+512)/\
  ah (λb=>ZD p0 pt k b\/b=X) w w':=by
 obtain ⟨c0,c1,c2,c3,zX,fX⟩:=eX h.v;obtain ⟨P,cap,d0⟩:=h.o.head;have zD:=h.o.lt;have hb:=h.o.good.bounds;have agl:next<64:=by omega
 have e0:((next:Int) == (T.n:Int))=false:=by simp;omega
 have HH:=aa (λe=>qM (e:=e) (h.o.good.good next hn));have hl8:=lK (T.M next) (T.S next);have hki:=h.v.hk;have TK:=aa (λ(w':World) (h:RV w' X gt aH k p0 pt d next T U L0 Lc)=>h.take (by omega) hn);have HV:=aa h;have hXX:¬ZD p0 pt k X:=λe=>(h.x X e).1 rfl;have HLC:=aa jT;have HZL:=aa h.zlt;obtain ⟨l,hll⟩:=dC (aS (T.M next) (T.S next));rw [<-hll] at TK hl8 HH ⊢;clear h jT hll;go_enter Tryz.func84,Tryz.ntmps84
 go_wp2;refine ag (λ_=>False) #[⟨0,0,1024,1,0⟩,⟨1,1,2048,1024,0⟩,⟨2,3,4096,2048,0⟩,⟨4,7,8192,4096,1⟩,⟨0,0,2^14,1,0⟩,⟨16,16,2^15,2^14,0⟩,⟨32,48,2^16,2^15,0⟩,⟨64,112,2^17,2^16,1⟩,⟨128,240,2^18,2^17,0⟩,⟨256,496,2^19,2^18,0⟩,⟨512,1008,2^20,2^19,1⟩,⟨1024,2032,2^21,2^20,0⟩,⟨2056,4095,2^22,(2^13+2^21),0⟩] 1160 [(0,0),(1,0),(2,0),(3,1),(4,0),(5,0),(6,0),(7,1),(8,0),(9,0),(10,1),(11,0),(12,0)] (by kernel_rfl) (by kernel_rfl) (by kernel_rfl) (by kernel_rfl) (by kernel_rfl) (by kernel_rfl) (λc a d v w h=>by cases d <;> exact h) ?_;refine aj ?_;refine aj ?_;refine aj ?_;refine bW Tryz.underlying3 ?_
 try refine aC ?_;refine aj ?_;refine aj ?_;refine aj ?_
 refine bW Tryz.underlying75 ?_
 try refine aC ?_;refine aj ?_;refine aj ?_
 refine bW Tryz.underlying128 ?_
 try refine aC ?_;refine aj ?_;refine aj ?_
 refine aD ?_;go_wp2;refine ag (ZD p0 pt k) #[⟨0,0,2^24,1,0⟩,⟨1,1,2^25,2^24,0⟩,⟨2,3,2^26,2^25,0⟩,⟨4,7,2^27,2^26,1⟩,⟨0,0,2^28,1,0⟩,⟨16,16,2^29,2^28,0⟩,⟨32,48,2^30,2^29,0⟩,⟨64,112,2^31,2^30,1⟩,⟨136,255,2^32,(2^27+2^31),3⟩,⟨256,511,2^23,2^32,0⟩,⟨512,1023,2^33,2^23,0⟩,⟨512,1023,2^34,2^23,0⟩,⟨2047,2047,16,2^33,0⟩,⟨8191,8191,32,2^34,0⟩] 136 [(0,0),(1,0),(2,0),(3,1),(4,0),(5,0),(6,0),(7,1),(8,3),(9,0),(10,0),(11,0),(12,0),(13,0)] (by kernel_rfl) (by kernel_rfl) (by kernel_rfl) (by kernel_rfl) (by kernel_rfl) (by kernel_rfl) (λc a d v w h=>by cases d <;> exact h) ?_;refine aj ?_;refine aj ?_;refine aj ?_;refine bW Tryz.underlying75 ?_
 try refine aC ?_;refine aj ?_;refine aj ?_;refine aj ?_
 refine bW Tryz.underlying3 ?_
 try refine aC ?_
 refine fA λK hK=>?_;go_wp2_with (go_at_call 132;(with_reducible refine (TK.out _ HV.out.drew.drew).mono ?_);rintro e w1 ⟨vl,rfl,hr1,hv1,hc1⟩;obtain ⟨av,G8,rfl⟩:=bZ hr1;have V1:=aa hv1;have R1:=aa hr1;have C1:=aa (show ah (λb=>ZD p0 pt k b\/b=X) w w1 from ((ah.refl _ w).drew.drew).trans (hc1.mono (λ_ _ e => .inl e)));obtain ⟨d0,d1,d2,d3,zX1,df⟩:=eX V1.out.v;clear hv1 hr1 hc1);refine hK.out _ _ ?_;clear hK K
 try refine aC ?_;refine aj ?_;refine aj ?_;refine aj ?_;refine aj ?_;refine aj ?_
 refine aD ?_;have e1:IntKind.i64.wrap ((next:Int)+1)=((next+1:Nat):Int):=by rw [IntKind.wrap_i64];omega
 go_wp2;refine bG (λwL og=>?_)
 have D0:=aa (show RSt wL X gt aH k p0 pt d (next+1) (T.dw next) l (jN k d (l.take 0) (U,0)) (L0+1) Lc (mL+64*((0:Nat):Int)) w.heap.size (.slice av l.length G8) w by
  rw [og];refine ⟨⟨Lc,V1.out.inc,by simp [jN],λi hi=>by have:=HLC.out i hi;omega⟩,?_,C1.out.trans (((ah.refl (λb=>b=X) _).set1 _ _).mono (λ_ _ e => .inr e))⟩
  exact fo (X:=λb=>b=X) R1.out ((ah.refl _ _).set1 _ _) (λb hb e=>by subst e;exact absurd (show w.heap.size<=b from hb) (by omega)))
 have C0:=aa (show ah (λb=>ZD p0 pt k b\/b=X) w wL from D0.out.c);replace og:=aa og;clear C0 V1 R1 C1 d0 d1 d2 d3 zX1 df c0 c1 c2 c3 fX TK HV
 go_loopw [44] (λv44 wr => ∃j:Nat,j<=l.length/\v44 = .int .i64 (j:Int)/\RSt wr X gt aH k p0 pt d (next+1) (T.dw next) l (jN k d (l.take j) (U,0)) (L0+1) Lc (mL+64*(j:Int)) w.heap.size (.slice av l.length G8) w/\
  (∀i (hi:i<l.length),i<j->((jN k d (l.take i) (U,0)).1 (fO k d l[i].hash.toNat)).bB l[i].key l[i].hash.toNat=true)) (λv44 _=>l.length-(intOf v44).toNat)
 case atStart=>exact ⟨0,o7 _,rfl,D0.out,λi _ hi=>by omega⟩
 case round =>
  clear D0;obtain ⟨j,hj,rfl,hS,hA⟩:=hrel;have KS:=aa hS;have rH:=aa hA;clear hS hA;by_cases hlt:j<l.length
  . have kJ:(j:Int)<(l.length:Int):=by omega
    have HT:=aa (mq (k:=k) (d:=d) hlt (U,0));obtain ⟨av',acY,e,-,hrow⟩:=kL KS.out.r;cases e
    obtain ⟨b,rfl,hbb,hbz,hcl⟩:=hrow (λe=>by rw [e] at hlt;exact absurd hlt (by simp));obtain ⟨g0,g1,g2⟩:=hcl j hlt;obtain ⟨GU,LH⟩:=HH.out l[j] (List.getElem_mem hlt);unfold TT at HT;obtain ⟨s,hs⟩:=dC (jN k d (l.take j) (U,0));have HSE:=aa hs;rw [<-hs] at HT KS;rw [GU] at g2;generalize hq1:l[j].hash.toNat=hs' at HT g2 LH;generalize hq2:l[j].key=ky at HT g0;replace hq1:=aa hq1;replace hq2:=aa hq2;generalize l[j].val=vv at *
    have hi:=gm (h:=hs') hki;obtain ⟨mG,hv,hsum,hbd⟩:=KS.out.e;have HVr:=aa hv;have TG:=aa (λ(w':World) (h:VM w' X p0.D gt aH k (λi=>(pt i).D) d (next+1))=>CJ X p0.D gt aH k (λi=>(pt i).D) d (next+1) hs' LH w' h);generalize hq3:fO k d hs'=i at *
    replace hq3:=aa hq3;have hbi:=hbd i hi;have hlk:=gK (hv.t i hi).good ky hs';have hnb:=(hv.t i hi).good.bounds;have PU:=aa (λ(w':World) (h:RV w' X gt aH k p0 pt d (next+1) (T.dw next) s.1 (L0+1) mG)=>h.put hi (by omega) ky vv hs' LH);have ajR:=aa hsum;have HBD:=aa hbd;have hwz:w.heap.size<=wr.heap.size:=KS.out.c.size;have mO:¬ZD p0 pt k wr.heap.size:=λe=>by have:=HZL.out _ e;omega
    have hXw:=hv.v.blt;clear hcl hrow GU hs hv hsum hbd;go_upto_region 8 with (fail)
    refine bG (λw5 JG=>?_);have jL:Below wr.heap.size wr w5:=by rw [JG];go_grown
    have S5:=aa (HVr.out.later jL);have R5:=aa (aB KS.out.r jL);have C5:=aa (KS.out.c.au jL);have P5:=aa (show af w5 wr.heap.size 46 #[.int .u64 ky,.int .u64 vv,.int .u64 (hs':Int)] by rw [JG];exact af.new _ _ _);obtain ⟨q0,q1,q2⟩:=cells3 P5.out;have zP:=P5.out.lt;have zX5:=S5.out.v.blt;replace JG:=aa JG;clear KS g0 g1 g2 hbz jL;by_cases hpb:(s.1 i).bB ky hs'=true
    . rw [hpb,Ed hpb] at PU;have HPB:=aa hpb;clear hpb;refine ag (ZD p0 pt k) #[⟨0,0,2^49,1,0⟩,⟨0,0,2^50,128,0⟩,⟨2,2,2^51,2^50,1⟩,⟨5,7,2^52,(2^49+2^51),2⟩,⟨0,0,2^53,128,1⟩,⟨24,31,2^54,(2^52+2^53),3⟩,⟨32,63,2^48,2^54,0⟩,⟨64,127,2^55,2^48,0⟩,⟨64,127,2^56,2^48,0⟩,⟨255,255,256,2^55,0⟩,⟨1023,1023,512,2^56,0⟩] 20 [(0,0),(1,0),(2,1),(4,1),(3,2),(5,3),(6,0),(7,0),(8,0),(9,0),(10,0)] (by kernel_rfl) (by kernel_rfl) (by kernel_rfl) (by kernel_rfl) (by kernel_rfl) (by kernel_rfl) (λc a d v w h=>by cases d <;> exact h) ?_;refine aj ?_;refine aj ?_;refine bW Tryz.underlying38 ?_
      try refine aC ?_
      refine jR [_,_,_] Tryz.underlying46 ?_
      try refine aC ?_
      refine iK λK hK=>?_;go_wp2_with ((go_at_call 133;(with_reducible refine (TG.out _ S5.out.drew.v).mono ?_);rintro e w6 ⟨rfl,hb6⟩;have S6:=aa (S5.out.drew.later hb6)));refine iX hK (h:=?_);clear hK K
      try refine aC ?_
      refine fA λK hK=>?_;go_wp2_with ((go_at_call 65;(with_reducible refine (PU.out _ S6.out).mono ?_);rintro e w8 ⟨rfl,Lv,hc8⟩;have V8:=aa Lv;have R8:=aa (fo (aB (show w5.drew.ownsRow _ _ _ _ _ _ from R5.out) hb6) hc8 (λb' hb' e=>by have:=HZL.out _ e;omega));have C8:=aa ((C5.out.drew.au hb6).trans (hc8.mono (λ_ _ e=>show ZD p0 pt k _\/_=X from .inl e)));clear Lv));refine hK.out _ _ ?_;clear hK K
      try refine aC ?_;refine aj ?_;refine aj ?_;refine aj ?_;refine aj ?_;refine aj ?_
      refine aD ?_;go_wp2
      go_roundw
      case rel =>
       refine ⟨j+1,by omega,by go_num,?_,λi' hi' hlt'=>?_⟩
       . rw [HT.out];refine ⟨⟨_,V8.out,?_,?_⟩,R8.out,C8.out⟩
         . rw [Km hi,ajR.out];simp only [Int.natCast_add];omega
         . intro q hq;by_cases e:q=i
           . subst e;rw [upd_same];have:=HBD.out q hq;omega
           . rw [ay _ _ e];have:=HBD.out q hq;omega
       . by_cases e:i'=j
         . subst e;rw [hq1.out,hq2.out,hq3.out,<-HSE.out];exact HPB.out
         . exact rH.out i' hi' (by omega)
      case measure=>simp [intOf];omega
    . replace hpb:(s.1 i).bB ky hs'=false:=by simpa using hpb
      rw [hpb] at PU;have HPB:=aa hpb;generalize (s.1 i).bN ky hs'=pn at *
      clear hpb;refine ag (ZD p0 pt k) #[⟨0,0,2^49,1,0⟩,⟨0,0,2^50,128,0⟩,⟨2,2,2^51,2^50,1⟩,⟨5,7,2^52,(2^49+2^51),2⟩,⟨0,0,2^53,128,1⟩,⟨24,31,2^54,(2^52+2^53),3⟩,⟨32,63,2^48,2^54,0⟩,⟨64,127,2^55,2^48,0⟩,⟨64,127,2^56,2^48,0⟩,⟨255,255,256,2^55,0⟩,⟨1023,1023,512,2^56,0⟩] 20 [(0,0),(1,0),(2,1),(4,1),(3,2),(5,3),(6,0),(7,0),(8,0),(9,0),(10,0)] (by kernel_rfl) (by kernel_rfl) (by kernel_rfl) (by kernel_rfl) (by kernel_rfl) (by kernel_rfl) (λc a d v w h=>by cases d <;> exact h) ?_;refine aj ?_;refine aj ?_;refine bW Tryz.underlying38 ?_
      try refine aC ?_
      refine jR [_,_,_] Tryz.underlying46 ?_
      try refine aC ?_
      refine iK λK hK=>?_;go_wp2_with ((go_at_call 133;(with_reducible refine (TG.out _ S5.out.drew.v).mono ?_);rintro e w6 ⟨rfl,hb6⟩;have S6:=aa (S5.out.drew.later hb6)));refine iX hK (h:=?_);clear hK K
      try refine aC ?_
      refine fA λK hK=>?_;go_wp2_with ((go_at_call 65;(with_reducible refine (PU.out _ S6.out).mono ?_);rintro e w8 ⟨rfl,Lv,hc8⟩;have C8:=aa ((C5.out.drew.au hb6).trans (hc8.mono (λ_ _ e=>show ZD p0 pt k _\/_=X from .inl e)));clear Lv));refine hK.out _ _ ?_;clear hK K
      try refine aC ?_;refine aj ?_;refine aj ?_;refine aj ?_;refine aj ?_;refine aj ?_
      refine aD ?_;go_wp2;go_ret2;exact ⟨true,rfl,λe=>(by cases e),λ_ h=>(by have:=h j hlt;rw [hq1.out,hq2.out,hq3.out,<-HSE.out,HPB.out] at this;cases this),λe=>(by cases e),C8.out⟩
  . obtain rfl:j=l.length:=by omega
    rw [List.take_length] at KS;go_wp2;go_ret2;obtain ⟨mG,hv,hsum,hbd⟩:=KS.out.e;exact ⟨false,rfl,λ_ i hi=>rH.out i hi hi,λe=>(by cases e),λ_=>⟨mG,hv,hsum,λi hi=>by have:=hbd i hi;omega⟩,KS.out.c⟩
end
structure DM (w:World) (Rb X gt aH:Nat) (p0:PB) (pt:Nat->PB) (s:DuS) (tk:Bool) (L0:Int) (Lc:Nat->Int):Prop where
 hd:af w Rb 138 #[.pointer (some ⟨X,0,none⟩),.int .i64 (s.bare:Int),.bool tk]
 r:RV w X gt aH s.k p0 pt s.d s.nx s.T s.U L0 Lc
 ne:Rb≠X/\Rb≠gt/\∀b,ZD p0 pt s.k b->b≠Rb
def kT (Rb X:Nat) (p0:PB) (pt:Nat->PB) (k:Nat) (b:Nat):Prop:=b=Rb\/b=X\/ZD p0 pt k b
section
variable {w w':World} {Rb X gt aH:Nat} {p0:PB} {pt:Nat->PB} {s:DuS} {tk:Bool} {L0:Int} {Lc:Nat->Int}
theorem DM.later (h:DM w Rb X gt aH p0 pt s tk L0 Lc) (hb:Below w.heap.size w w'):DM w' Rb X gt aH p0 pt s tk L0 Lc:=⟨h.hd.below hb h.hd.lt,h.r.later hb,h.ne⟩
theorem DM.aA {Y:Nat->Prop} (h:DM w Rb X gt aH p0 pt s tk L0 Lc) (hc:ah Y w w') (hY:∀b,kT Rb X p0 pt s.k b->¬Y b) (hg:¬Y gt):DM w' Rb X gt aH p0 pt s tk L0 Lc :=
 ⟨h.hd.aA hc (hY Rb (.inl rfl)),h.r.aA hc (λb e=>hY b (.inr (.inr e))) (hY X (.inr (.inl rfl))) hg,h.ne⟩
theorem DM.turn {T':ae} {U':Nat->ae} {nx':Nat} {L0':Int} {mG:Nat->Int} (h:DM w Rb X gt aH p0 pt s tk L0 Lc) (hr:RV w' X gt aH s.k p0 pt s.d nx' T' U' L0' mG) (hc:ah (λb=>ZD p0 pt s.k b\/b=X) w w'):DM w' Rb X gt aH p0 pt { s with T:=T',U:=U',nx:=nx'} tk L0' mG :=
 ⟨h.hd.aA hc (by rintro (e|e);exact h.ne.2.2 _ e rfl;exact h.ne.1 e),hr,h.ne⟩
theorem DM.left (h:DM w Rb X gt aH p0 pt s tk L0 Lc) (hok:dW s):Calls Tryz.prog 79 #[.pointer (some ⟨Rb,0,none⟩)] w λe w'=>e = .returned (.int .i64 ((s.left:Nat):Int))/\Below w.heap.size w w':=by
 have hn:=hok.t.bounds;have hx:=hok.hx;have hgb:=dZ hok.hr;have hb:=hok.hb;have hk2:s.k*s.gn<=2*64:=Nat.mul_le_mul (by rcases hok.hk with e|e <;> omega) hgb.2;obtain ⟨c0,c1,c2,c3,zX,fX⟩:=eX h.r.v;obtain ⟨P,cap,d0⟩:=h.r.o.head;have zD:=h.r.o.lt;have r0:=h.hd.cell 0;have r1:=h.hd.cell 1;have zR:=h.hd.lt;have e1:IntKind.i64.wrap ((s.bare:Int)+(s.T.n:Int))=(s.bare:Int)+(s.T.n:Int):=by rw [IntKind.wrap_i64];omega
 have e2:IntKind.i64.wrap ((s.bare:Int)+(s.T.n:Int)-(s.nx:Int))=((s.left:Nat):Int):=by unfold DuS.left;rw [IntKind.wrap_i64];omega
 clear h hok c2 fX;go_enter Tryz.func79,Tryz.ntmps79
 go_wp2;refine ag (λ_=>False) #[⟨0,0,8,1,0⟩,⟨1,1,16,8,0⟩,⟨2,3,32,16,0⟩,⟨4,7,64,32,1⟩,⟨0,0,128,1,0⟩,⟨16,16,256,128,0⟩,⟨32,48,512,256,0⟩,⟨64,112,1024,512,1⟩,⟨128,240,2048,1024,0⟩,⟨256,496,4096,2048,0⟩,⟨512,1008,8192,4096,1⟩,⟨1024,2032,2^14,8192,0⟩,⟨2048,4080,2^15,2^14,0⟩,⟨4096,8176,2^16,2^15,1⟩,⟨8192,16368,2^17,2^16,0⟩,⟨(2^3+2^14),32767,2^18,(2^6+2^17),0⟩,⟨0,0,2^19,1,0⟩,⟨2^16,2^16,2^20,2^19,0⟩,⟨2^17,(2^16+2^17),2^21,2^20,0⟩,⟨2^18,(2^16+2^17+2^18),2^22,2^21,1⟩,⟨2^19,983040,2^23,2^22,0⟩,⟨2^20,2031616,2^24,2^23,0⟩,⟨2^21,4128768,2^25,2^24,1⟩,⟨(2^15+2^22),8388607,2^26,(2^18+2^25),0⟩,⟨16777215,16777215,4,2^26,0⟩] 4727944 [(0,0),(1,0),(2,0),(3,1),(4,0),(5,0),(6,0),(7,1),(8,0),(9,0),(10,1),(11,0),(12,0),(13,1),(14,0),(15,0),(16,0),(17,0),(18,0),(19,1),(20,0),(21,0),(22,1),(23,0),(24,0)] (by kernel_rfl) (by kernel_rfl) (by kernel_rfl) (by kernel_rfl) (by kernel_rfl) (by kernel_rfl) (λc a d v w h=>by cases d <;> exact h) ?_;refine aj ?_;refine aj ?_;refine aj ?_;refine bW Tryz.underlying3 ?_
 try refine aC ?_;refine aj ?_;refine aj ?_;refine aj ?_
 refine bW Tryz.underlying136 ?_
 try refine aC ?_;refine aj ?_;refine aj ?_
 refine bW Tryz.underlying75 ?_
 try refine aC ?_;refine aj ?_;refine aj ?_
 refine bW Tryz.underlying128 ?_
 try refine aC ?_;refine aj ?_;refine aj ?_;refine aj ?_;refine aj ?_;refine aj ?_
 refine bW Tryz.underlying136 ?_
 try refine aC ?_;refine aj ?_;refine aj ?_
 refine bW Tryz.underlying3 ?_
 try refine aC ?_;refine aj ?_;refine aj ?_
 refine aD ?_;go_wp2;go_ret;exact ⟨rfl,(aM _ _).drew⟩
theorem DM.je (h:DM w Rb X gt aH p0 pt s tk L0 Lc) (hok:dW s) (hb:0<s.bare):Calls Tryz.prog 33 #[.pointer (some ⟨Rb,0,none⟩)] w λe w' =>
 e = .returned (.tuple #[.bool true,.bool false])/\DM w' Rb X gt aH p0 pt s.je tk L0 Lc/\ah (kT Rb X p0 pt s.k) w w':=by
 have hgb:=dZ hok.hr;have hbb:=hok.hb;have hk2:s.k*s.gn<=2*64:=Nat.mul_le_mul (by rcases hok.hk with e|e <;> omega) hgb.2;have r1:=h.hd.cell 1;have zR:=h.hd.lt;have rf:=λj=>h.hd.frozen j;have hbI:(0:Int)<(s.bare:Int):=by omega
 have e1:IntKind.i64.wrap ((s.bare:Int)-1)=((s.bare-1:Nat):Int):=by rw [IntKind.wrap_i64];omega
 have HH:=aa h;clear h hok;go_enter Tryz.func33,Tryz.ntmps33
 go_wp2;go_ret2;have hC:ah (λb=>b=Rb) w (w.setCell ⟨Rb,1,none⟩ (.int .i64 ((s.bare-1:Nat):Int))):=(ah.refl _ _).set1 _ _;exact ⟨rfl,⟨HH.out.hd.set 1 _,HH.out.r.aA hC (λb e e2=>HH.out.ne.2.2 b e e2) (λe=>HH.out.ne.1 e.symm) (λe=>HH.out.ne.2.1 e.symm),HH.out.ne⟩,hC.mono (λb _ e => .inl e)⟩
theorem DM.Ji (h:DM w Rb X gt aH p0 pt s tk L0 Lc) (hb:s.bare=0) (hn:s.nx=s.T.n):Calls Tryz.prog 33 #[.pointer (some ⟨Rb,0,none⟩)] w λe w' =>
 e = .returned (.tuple #[.bool false,.bool false])/\Below w.heap.size w w':=by
 have r0:=h.hd.cell 0;have r1:=h.hd.cell 1;rw [hb] at r1;have zR:=h.hd.lt;have ST:=aa (Un h.r hn);clear h;go_enter Tryz.func33,Tryz.ntmps33
 go_wp2_with (go_at_call 84;(with_reducible refine ST.out.mono ?_);rintro e w2 ⟨rfl,hb2⟩;have B2:=aa hb2)
 go_ret2;exact ⟨rfl,B2.out⟩
theorem DM.step (h:DM w Rb X gt aH p0 pt s tk L0 Lc) (hb:s.bare=0) (hL:0<=L0/\L0<=100000000) (mL:Int) (hmL:0<=mL/\mL<=100000000) (hn:s.nx<s.T.n) (jT:∀i,i<s.k->0<=Lc i/\Lc i<=mL):Calls Tryz.prog 33 #[.pointer (some ⟨Rb,0,none⟩)] w λe w' =>
 ∃b,e = .returned (.tuple #[.bool true,.bool b])/\(b=false->nH s.k s.d (aS (s.T.M s.nx) (s.T.S s.nx)) s.U)/\(b=true->¬nH s.k s.d (aS (s.T.M s.nx) (s.T.S s.nx)) s.U)/\
  (b=false->∃mG,DM w' Rb X gt aH p0 pt s.move tk (L0+1) mG/\BP mG s.k=BP Lc s.k+((jN s.k s.d (aS (s.T.M s.nx) (s.T.S s.nx)) (s.U,0)).2:Nat)/\∀i,i<s.k->0<=mG i/\mG i<=mL+512)/\
  ah (kT Rb X p0 pt s.k) w w':=by
 have r0:=h.hd.cell 0;have r1:=h.hd.cell 1;rw [hb] at r1;have zR:=h.hd.lt;have HH:=aa h;have ST:=aa (Nq h.r hL mL hmL hn jT);clear h;go_enter Tryz.func33,Tryz.ntmps33
 go_wp2_with (go_at_call 84;(with_reducible refine ST.out.mono ?_);rintro e w2 ⟨b,rfl,h1,h2,h3,h4⟩;have H1:=aa h1;have H2:=aa h2;have H3:=aa h3;have H4:=aa h4;clear h1 h2 h3 h4)
 go_ret2;refine ⟨b,rfl,H1.out,H2.out,λhf=>?_,H4.out.mono (λb _ e=>by rcases e with e|e;exact .inr (.inr e);exact .inr (.inl e))⟩;obtain ⟨mG,q1,q2,q3⟩:=H3.out hf;exact ⟨mG,HH.out.turn q1 H4.out,q2,q3⟩
end
section
variable {w w':World} {X gt aH k:Nat} {p0:PB} {pt:Nat->PB} {d next:Nat} {T T':ae} {U:Nat->ae} {L0 L':Int} {Lc:Nat->Int}
theorem RV.oz (h:RV w X gt aH k p0 pt d next T U L0 Lc) (hd:DX w' p0.mid p0.hi p0.D T' L') (hc:ah (λb=>p0.mid<=b/\b<p0.hi) w w'):RV w' X gt aH k p0 pt d next T' U L' Lc/\ah (ZD p0 pt k) w w' :=
 ⟨⟨h.v.aA hc (λe=>(h.x X (.inl e)).1 rfl) (λe=>(h.x gt (.inl e)).2 rfl),hd,λj hj=>(h.t j hj).aA hc (λb a c e=>by have:=h.s0 j hj;omega),h.s0,h.s1,h.x⟩,hc.mono (λb _ e => .inl e)⟩
theorem RV.om {i:Nat} (hi:i<k) (h:RV w X gt aH k p0 pt d next T U L0 Lc) (hd:DX w' (pt i).mid (pt i).hi (pt i).D T' L') (hc:ah (λb=>(pt i).mid<=b/\b<(pt i).hi) w w'):RV w' X gt aH k p0 pt d next T (upd U i T') L0 (upd Lc i L')/\ah (ZD p0 pt k) w w':=by
 refine ⟨⟨h.v.aA hc (λe=>(h.x X (.inr ⟨i,hi,e⟩)).1 rfl) (λe=>(h.x gt (.inr ⟨i,hi,e⟩)).2 rfl),h.o.aA hc (λb a c e=>by have:=h.s0 i hi;omega),λj hj=>?_,h.s0,h.s1,h.x⟩,hc.mono (λb _ e => .inr ⟨i,hi,e⟩)⟩;by_cases e:j=i
 . subst e;rw [upd_same,upd_same];exact hd
 . rw [ay _ _ e,ay _ _ e];refine (h.t j hj).aA hc (λb a c e2=>?_);rcases Nat.lt_or_gt_of_ne e with c2|c2
   . have:=h.s1 j i c2 hi;omega
   . have:=h.s1 i j c2 hj;omega
end
def DuS.atI (s:DuS) (key:Int) (h:Nat):Int:=if s.mF key h=true then 0 else if s.T.has key h=true then (if s.bare=0 then 1 else 0) else -1
section
variable {w w':World} {Rb X gt aH:Nat} {p0:PB} {pt:Nat->PB} {s:DuS} {tk:Bool} {L0:Int} {Lc:Nat->Int} {hs:Nat}
theorem DM.oz {T':ae} {L':Int} (h:DM w Rb X gt aH p0 pt s tk L0 Lc) (hd:DX w' p0.mid p0.hi p0.D T' L') (hc:ah (λb=>p0.mid<=b/\b<p0.hi) w w'):DM w' Rb X gt aH p0 pt (s.ny T') tk L' Lc/\ah (kT Rb X p0 pt s.k) w w':=by
 obtain ⟨h1,h2⟩:=h.r.oz hd hc;exact ⟨⟨h.hd.aA h2 (λe=>h.ne.2.2 _ e rfl),h1,h.ne⟩,h2.mono (λ_ _ e => .inr (.inr e))⟩
theorem DM.om {i:Nat} {T':ae} {L':Int} (hi:i<s.k) (h:DM w Rb X gt aH p0 pt s tk L0 Lc) (hd:DX w' (pt i).mid (pt i).hi (pt i).D T' L') (hc:ah (λb=>(pt i).mid<=b/\b<(pt i).hi) w w'):DM w' Rb X gt aH p0 pt (s.mH i T') tk L0 (upd Lc i L')/\ah (kT Rb X p0 pt s.k) w w':=by
 obtain ⟨h1,h2⟩:=h.r.om hi hd hc;exact ⟨⟨h.hd.aA h2 (λe=>h.ne.2.2 _ e rfl),h1,h.ne⟩,h2.mono (λ_ _ e => .inr (.inr e))⟩
theorem Ho (s:DuS) (i:Nat):s.mH i (s.U i)=s:=by unfold DuS.mH;rw [Aw]
theorem DM.acz (h:DM w Rb X gt aH p0 pt s tk L0 Lc) (hb:0<s.bare) (hs:Int):Calls Tryz.prog 119 #[.pointer (some ⟨Rb,0,none⟩),.int .u64 hs] w λe w' =>
 ∃g,e = .returned (.slice (some ⟨g,0,none⟩) 1 1)/\w.heap.size<=g/\af w' g 75 #[.pointer (some ⟨p0.D,0,none⟩)]/\Below w.heap.size w w':=by
 have r0:=h.hd.cell 0;have r1:=h.hd.cell 1;have zR:=h.hd.lt;obtain ⟨c0,c1,c2,c3,zX,fX⟩:=eX h.r.v;have hbI:(0:Int)<(s.bare:Int):=by omega
 clear h c2;go_enter Tryz.func119,Tryz.ntmps119
 go_wp2;go_ret;exact ⟨_,rfl,aL _,af.new _ _ _,(aM _ _).alloc (aL _) _⟩
theorem DM.QD (h:DM w Rb X gt aH p0 pt s tk L0 Lc) (hb:s.bare=0) (hs:Nat) (hh:hs<18446744073709551616):Calls Tryz.prog 119 #[.pointer (some ⟨Rb,0,none⟩),.int .u64 (hs:Int)] w λe w' =>
 ∃g,e = .returned (.slice (some ⟨g,0,none⟩) 2 2)/\w.heap.size<=g/\af w' g 75 #[.pointer (some ⟨(pt (s.y hs)).D,0,none⟩),.pointer (some ⟨p0.D,0,none⟩)]/\Below w.heap.size w w':=by
 have r0:=h.hd.cell 0;have r1:=h.hd.cell 1;rw [hb] at r1;have zR:=h.hd.lt;obtain ⟨c0,c1,c2,c3,zX,fX⟩:=eX h.r.v;have TG:=aa (λ(w':World) (h':VM w' X p0.D gt aH s.k (λi=>(pt i).D) s.d s.nx)=>CJ X p0.D gt aH s.k (λi=>(pt i).D) s.d s.nx hs hh w' h');rw [show fO s.k s.d hs=s.y hs from rfl] at TG;have HV:=aa h.r.v;generalize (pt (s.y hs)).D=td at *
 clear h c2;go_enter Tryz.func119,Tryz.ntmps119
 go_wp2;refine ag (λ_=>False) #[⟨0,0,2^18,1,0⟩,⟨1,1,2^19,2^18,0⟩,⟨2,3,2^20,2^19,0⟩,⟨4,7,2^21,2^20,1⟩,⟨0,0,2^22,2,0⟩,⟨24,31,2^23,(2^21+2^22),2⟩,⟨0,0,2^24,1,0⟩,⟨64,64,2^25,2^24,0⟩,⟨128,192,2^26,2^25,0⟩,⟨256,448,2^27,2^26,1⟩,⟨512,960,2^28,2^27,0⟩,⟨1024,1984,2^29,2^28,0⟩,⟨2048,4032,2^30,2^29,1⟩,⟨4128,8191,2^31,(2^23+2^30),3⟩,⟨16383,16383,16,2^31,0⟩] 4616 [(0,0),(1,0),(2,0),(3,1),(4,0),(6,0),(7,0),(8,0),(9,1),(10,0),(11,0),(12,1),(5,2),(13,3),(14,0)] (by kernel_rfl) (by kernel_rfl) (by kernel_rfl) (by kernel_rfl) (by kernel_rfl) (by kernel_rfl) (λc a d v w h=>by cases d <;> exact h) ?_;refine aj ?_;refine aj ?_;refine aj ?_;refine bW Tryz.underlying136 ?_
 try refine aC ?_;refine aj ?_;refine aj ?_;refine aj ?_;refine aj ?_
 refine bW Tryz.underlying136 ?_
 try refine aC ?_;refine aj ?_;refine aj ?_
 refine bW Tryz.underlying75 ?_
 try refine aC ?_
 refine iK λK hK=>?_;go_wp2_with ((go_at_call 133;(with_reducible refine (TG.out _ (HV.out.later (aM _ _).drew)).mono ?_);rintro e w2 ⟨rfl,hb2⟩;have B2:=aa (Below.bS hb2);have hz2:=B2.out.size));refine iX hK (h:=?_);clear hK K
 try refine aC ?_
 refine fA λK hK=>?_;go_wp2_with (fail);refine hK.out _ _ ?_;clear hK K
 try refine aC ?_;refine aj ?_
 refine aD ?_;go_wp2;go_ret;exact ⟨_,rfl,hz2,af.new _ _ _,B2.out.alloc hz2 _⟩
theorem DM.lt (h:DM w Rb X gt aH p0 pt s tk L0 Lc):∀b,kT Rb X p0 pt s.k b->b<w.heap.size:=λb e=>by
 rcases e with e|e|e
 . rw [e];exact h.hd.lt
 . rw [e];exact h.r.v.blt
 . exact h.r.zlt b e
theorem DM.JQ (h:DM w Rb X gt aH p0 pt s tk L0 Lc) (hL:0<=L0/\L0<=1000000000) (key:Int) (hs:Nat) (hh:hs<18446744073709551616) :
 Calls Tryz.prog 64 #[.pointer (some ⟨p0.D,0,none⟩),.int .u64 key,.int .u64 (hs:Int)] w λe w' =>
  e = .returned (.tuple #[.agg #[.int .u64 (s.T.bA key hs).key,.int .u64 (s.T.bA key hs).val,.int .u64 (s.T.bA key hs).hash],.bool (s.T.has key hs)])/\DM w' Rb X gt aH p0 pt s tk (L0+s.T.looks key hs) Lc/\ah (kT Rb X p0 pt s.k) w w':=by
 refine (h.r.o.find hL key hs hh).mono ?_;rintro e w' ⟨rfl,h1,h2⟩
 have hid:=h.r.o.id;obtain ⟨h3,h4⟩:=h.oz h1 (h2.mono (λb _ e=>by omega));exact ⟨rfl,h3,h4⟩
theorem DM.Vu {i:Nat} (hi:i<s.k) (h:DM w Rb X gt aH p0 pt s tk L0 Lc) (hL:0<=Lc i/\Lc i<=1000000000) (key:Int) (hs:Nat) (hh:hs<18446744073709551616) :
 Calls Tryz.prog 64 #[.pointer (some ⟨(pt i).D,0,none⟩),.int .u64 key,.int .u64 (hs:Int)] w λe w' =>
  e = .returned (.tuple #[.agg #[.int .u64 ((s.U i).bA key hs).key,.int .u64 ((s.U i).bA key hs).val,.int .u64 ((s.U i).bA key hs).hash],.bool ((s.U i).has key hs)])/\DM w' Rb X gt aH p0 pt s tk L0 (upd Lc i (Lc i+(s.U i).looks key hs))/\ah (kT Rb X p0 pt s.k) w w':=by
 refine ((h.r.t i hi).find hL key hs hh).mono ?_;rintro e w' ⟨rfl,h1,h2⟩
 have hid:=(h.r.t i hi).id;obtain ⟨h3,h4⟩:=h.om hi h1 (h2.mono (λb _ e=>by omega));rw [Ho] at h3;exact ⟨rfl,h3,h4⟩
theorem DM.agL (h:DM w Rb X gt aH p0 pt s tk L0 Lc) (hb:0<s.bare) (hL:0<=L0/\L0<=1000000000) (key:Int) (hs:Nat) (hh:hs<18446744073709551616) :
 Calls Tryz.prog 117 #[.pointer (some ⟨Rb,0,none⟩),.int .u64 key,.int .u64 (hs:Int)] w λe w' =>
  e = .returned (.tuple #[.agg #[.int .u64 (s.T.bA key hs).key,.int .u64 (s.T.bA key hs).val,.int .u64 (s.T.bA key hs).hash],.int .i64 (if s.T.has key hs=true then 0 else -1)])/\DM w' Rb X gt aH p0 pt s tk (L0+s.T.looks key hs) Lc/\ah (kT Rb X p0 pt s.k) w w':=by
 have HH:=aa h;have RW:=aa (λ(w':World) (h':DM w' Rb X gt aH p0 pt s tk L0 Lc)=>h'.acz hb (hs:Int));have FO:=aa (λ(w':World) (h':DM w' Rb X gt aH p0 pt s tk L0 Lc)=>h'.JQ hL key hs hh);have IA:=aa h.lt;have hno:s.T.has key hs=false->s.T.bA key hs=ai.zero:=λe=>bU.eu e;have HNO:=aa hno;obtain ⟨en,hen⟩:=dC (s.T.bA key hs);rw [<-hen] at FO HNO ⊢;replace hen:=aa hen;obtain ⟨k0,k1,k2⟩:=en;dsimp only at FO ⊢;obtain ⟨B6,Oc⟩:=dC w.heap.size;have Ob:w.heap.size<=B6:=Nat.le_of_eq Oc.symm;have mO:∀b,B6<=b->¬kT Rb X p0 pt s.k b:=λb hb e=>by have:=IA.out b e;omega
 cases hq:s.T.has key hs with
 | true =>
  rw [hq] at FO;clear h hno hq;simp only [if_true];go_enter Tryz.func117,Tryz.ntmps117
  go_wp2_with (go_at_call 119;(with_reducible refine (RW.out _ (HH.out.later (by go_grown))).mono ?_);rintro e w1 ⟨g,rfl,hg,hgb,hb1⟩;have D1:=aa ((HH.out.later ((aM w.heap.size w).alloc (aL _) (.cells #[.int .u64 0,.int .u64 0,.int .u64 0] 46))).later hb1);have R1:=aa ((af.new w 46 #[.int .u64 0,.int .u64 0,.int .u64 0]).below hb1 (by simp));have G1:=aa hgb;have hg':w.heap.size<=g:=qH ((aM w.heap.size w).alloc (aL _) (.cells #[.int .u64 0,.int .u64 0,.int .u64 0] 46)).size hg;have HB1:=aa hb1;have z1:=hb1.size)
  go_loopw [16] (λv16 wr=>v16 = .int .i64 0/\wr=w1) (λ_ _=>0)
  case atStart=>exact ⟨rfl,rfl⟩
  case round =>
   obtain ⟨rfl,rfl⟩:=hrel;have g0:=G1.out.cell 0;have zg:=G1.out.lt
   go_wp2_with (go_at_call 64;(with_reducible refine (FO.out _ D1.out).mono ?_);rintro e w2 ⟨rfl,hd2,hc2⟩;have D2:=aa hd2;have C2:=aa hc2;have R2:=aa (R1.out.aA hc2 (mO _ (by omega)));have r2:=cells3 R2.out;have r20:=r2.1;have r21:=r2.2.1;have r22:=r2.2.2;have zr2:=R2.out.lt;have rf2:=λj=>R2.out.frozen j;clear r2 hd2 hc2)
   go_wp2;refine aJ (λWf hWf=>?_);have hR':=(((R2.out.set 0 (.int .u64 k0)).set 1 (.int .u64 k1)).set 2 (.int .u64 k2))
   have hR:af Wf w.heap.size 46 #[.int .u64 k0,.int .u64 k1,.int .u64 k2]:=by rw [hWf];exact hR'.below ((aM _ _).alloc (aL _) _) hR'.lt
   obtain ⟨r0,r1,r2⟩:=cells3 hR;have fI:ah (λb=>b=w.heap.size) w2 Wf:=by rw [hWf];exact ((((ah.refl _ _).set1 _ _).set1 _ _).set1 _ _).alloc _
   clear hWf;refine bodyPost_ret (v := .tuple #[.agg #[.int .u64 k0,.int .u64 k1,.int .u64 k2],.int .i64 0]) (by simp [results,Tryz.results117,go_sem,r0,r1,r2]) rfl ⟨rfl,?_,?_⟩
   . exact D2.out.aA fI (λb e e2=>mO b (by omega) e) (λe=>by have:=HH.out.r.v.lt;omega)
   . exact (((((ah.refl _ w).alloc _).au HB1.out).trans C2.out)).trans' fI (λb hb e=>by omega)
 | false =>
  rw [hq] at FO;have hz:=HNO.out hq
  injection hz with e0 e1 e2
  subst e0;subst e1;subst e2;clear h hno hq HNO;simp only [Bool.false_eq_true,if_false];go_enter Tryz.func117,Tryz.ntmps117
  go_wp2_with (go_at_call 119;(with_reducible refine (RW.out _ (HH.out.later (by go_grown))).mono ?_);rintro e w1 ⟨g,rfl,hg,hgb,hb1⟩;have D1:=aa ((HH.out.later ((aM w.heap.size w).alloc (aL _) (.cells #[.int .u64 0,.int .u64 0,.int .u64 0] 46))).later hb1);have R1:=aa ((af.new w 46 #[.int .u64 0,.int .u64 0,.int .u64 0]).below hb1 (by simp));have G1:=aa hgb;have hg':w.heap.size<=g:=qH ((aM w.heap.size w).alloc (aL _) (.cells #[.int .u64 0,.int .u64 0,.int .u64 0] 46)).size hg;have HB1:=aa hb1;have z1:=hb1.size)
  go_loopw [16] (λv16 wr=>(v16 = .int .i64 0/\wr=w1)\/(v16 = .int .i64 1/\∃w2,Hid (DM w2 Rb X gt aH p0 pt s tk (L0+(s.T.looks key hs:Nat)) Lc)/\Hid (ah (kT Rb X p0 pt s.k) w1 w2)/\Hid (af w2 w.heap.size 46 #[.int .u64 0,.int .u64 0,.int .u64 0])/\wr=w2.alloc (.cells #[.int .u64 0,.int .u64 0,.int .u64 0] 46))) (λv16 _=>match v16 with | .int _ z=>(1-z).toNat|_=>0)
  case atStart=>exact .inl ⟨rfl,rfl⟩
  case round =>
   rcases hrel with ⟨rfl,rfl⟩ | ⟨rfl,w2,D2,C2,R2,rfl⟩
   . have g0:=G1.out.cell 0;have zg:=G1.out.lt
     go_wp2_with (go_at_call 64;(with_reducible refine (FO.out _ D1.out).mono ?_);rintro e w2 ⟨rfl,hd2,hc2⟩;have D2:=aa hd2;have C2:=aa hc2;have R2:=aa (R1.out.aA hc2 (mO _ (by omega)));clear hd2 hc2)
     exact ⟨.inr ⟨rfl,w2,D2,C2,R2,rfl⟩,by decide⟩
   . have r2:=cells3 R2.out;have r20:=r2.1;have r21:=r2.2.1;have r22:=r2.2.2;have zr2:=R2.out.lt;have rf2:=λj=>R2.out.frozen j;clear r2;go_wp2;refine aJ (λWf hWf=>?_);have hR':=(((R2.out.set 0 (.int .u64 0)).set 1 (.int .u64 0)).set 2 (.int .u64 0))
     have hR:af Wf w.heap.size 46 #[.int .u64 0,.int .u64 0,.int .u64 0]:=by rw [hWf];exact hR'.below ((aM _ _).alloc (aL _) _) hR'.lt
     obtain ⟨r0,r1,r2⟩:=cells3 hR;have fI:ah (λb=>b=w.heap.size) w2 Wf:=by rw [hWf];exact ((((ah.refl _ _).set1 _ _).set1 _ _).set1 _ _).alloc _
     clear hWf;refine bodyPost_ret (v := .tuple #[.agg #[.int .u64 0,.int .u64 0,.int .u64 0],.int .i64 (-1)]) (by simp [results,Tryz.results117,go_sem,r0,r1,r2]) rfl ⟨rfl,?_,?_⟩
     . exact D2.out.aA fI (λb e e2=>mO b (by omega) e) (λe=>by have:=HH.out.r.v.lt;omega)
     . exact (((((ah.refl _ w).alloc _).au HB1.out).trans C2.out)).trans' fI (λb hb e=>by omega)
theorem DM.aek (h:DM w Rb X gt aH p0 pt s tk L0 Lc) (hb:s.bare=0) (hy:s.y hs<s.k) (jT:0<=Lc (s.y hs)/\Lc (s.y hs)<=1000000000) (key:Int) (hh:hs<18446744073709551616) (hu:(s.U (s.y hs)).has key hs=true) :
 Calls Tryz.prog 117 #[.pointer (some ⟨Rb,0,none⟩),.int .u64 key,.int .u64 (hs:Int)] w λe w' =>
  e = .returned (.tuple #[.agg #[.int .u64 ((s.U (s.y hs)).bA key hs).key,.int .u64 ((s.U (s.y hs)).bA key hs).val,.int .u64 ((s.U (s.y hs)).bA key hs).hash],.int .i64 0])/\DM w' Rb X gt aH p0 pt s tk L0 (upd Lc (s.y hs) (Lc (s.y hs)+(s.U (s.y hs)).looks key hs))/\ah (kT Rb X p0 pt s.k) w w':=by
 have HH:=aa h;have RW:=aa (λ(w':World) (h':DM w' Rb X gt aH p0 pt s tk L0 Lc)=>h'.QD hb hs hh);have FT:=aa (λ(w':World) (h':DM w' Rb X gt aH p0 pt s tk L0 Lc)=>h'.Vu hy jT key hs hh);have IA:=aa h.lt;obtain ⟨B6,Oc⟩:=dC w.heap.size;have Ob:w.heap.size<=B6:=Nat.le_of_eq Oc.symm;have mO:∀b,B6<=b->¬kT Rb X p0 pt s.k b:=λb hb e=>by have:=IA.out b e;omega
 obtain ⟨en,hen⟩:=dC ((s.U (s.y hs)).bA key hs);rw [<-hen] at FT ⊢;replace hen:=aa hen;obtain ⟨k0,k1,k2⟩:=en;dsimp only at FT ⊢;rw [hu] at FT;generalize (pt (s.y hs)).D=td at *
 clear h hu;go_enter Tryz.func117,Tryz.ntmps117
 go_wp2_with (go_at_call 119;(with_reducible refine (RW.out _ (HH.out.later (by go_grown))).mono ?_);rintro e w1 ⟨g,rfl,hg,hgb,hb1⟩;have D1:=aa ((HH.out.later ((aM w.heap.size w).alloc (aL _) (.cells #[.int .u64 0,.int .u64 0,.int .u64 0] 46))).later hb1);have R1:=aa ((af.new w 46 #[.int .u64 0,.int .u64 0,.int .u64 0]).below hb1 (by simp));have G1:=aa hgb;have hg':w.heap.size<=g:=qH ((aM w.heap.size w).alloc (aL _) (.cells #[.int .u64 0,.int .u64 0,.int .u64 0] 46)).size hg;have HB1:=aa hb1;have z1:=hb1.size)
 go_loopw [16] (λv16 wr=>v16 = .int .i64 0/\wr=w1) (λ_ _=>0)
 case atStart=>exact ⟨rfl,rfl⟩
 case round =>
  obtain ⟨rfl,rfl⟩:=hrel;have g0:=G1.out.cell 0;have g1:=G1.out.cell 1;have zg:=G1.out.lt
  go_wp2_with (go_at_call 64;(with_reducible refine (FT.out _ D1.out).mono ?_);rintro e w2 ⟨rfl,hd2,hc2⟩;have D2:=aa hd2;have C2:=aa hc2;have R2:=aa (R1.out.aA hc2 (mO _ (by omega)));have r2:=cells3 R2.out;have r20:=r2.1;have r21:=r2.2.1;have r22:=r2.2.2;have zr2:=R2.out.lt;have rf2:=λj=>R2.out.frozen j;clear r2 hd2 hc2)
  go_wp2;refine aJ (λWf hWf=>?_);have hR':=(((R2.out.set 0 (.int .u64 k0)).set 1 (.int .u64 k1)).set 2 (.int .u64 k2))
  have hR:af Wf w.heap.size 46 #[.int .u64 k0,.int .u64 k1,.int .u64 k2]:=by rw [hWf];exact hR'.below ((aM _ _).alloc (aL _) _) hR'.lt
  obtain ⟨r0,r1,r2⟩:=cells3 hR;have fI:ah (λb=>b=w.heap.size) w2 Wf:=by rw [hWf];exact ((((ah.refl _ _).set1 _ _).set1 _ _).set1 _ _).alloc _
  clear hWf;refine bodyPost_ret (v := .tuple #[.agg #[.int .u64 k0,.int .u64 k1,.int .u64 k2],.int .i64 0]) (by simp [results,Tryz.results117,go_sem,r0,r1,r2]) rfl ⟨rfl,?_,?_⟩
  . exact D2.out.aA fI (λb e e2=>mO b (by omega) e) (λe=>by have:=HH.out.r.v.lt;omega)
  . exact (((((ah.refl _ w).alloc _).au HB1.out).trans C2.out)).trans' fI (λb hb e=>by omega)
theorem DM.aej (h:DM w Rb X gt aH p0 pt s tk L0 Lc) (hb:s.bare=0) (hy:s.y hs<s.k) (hL:0<=L0/\L0<=1000000000) (jT:0<=Lc (s.y hs)/\Lc (s.y hs)<=1000000000) (key:Int) (hh:hs<18446744073709551616) (hu:(s.U (s.y hs)).has key hs=false) (ht:s.T.has key hs=true) :
 Calls Tryz.prog 117 #[.pointer (some ⟨Rb,0,none⟩),.int .u64 key,.int .u64 (hs:Int)] w λe w' =>
  e = .returned (.tuple #[.agg #[.int .u64 (s.T.bA key hs).key,.int .u64 (s.T.bA key hs).val,.int .u64 (s.T.bA key hs).hash],.int .i64 1])/\DM w' Rb X gt aH p0 pt s tk (L0+s.T.looks key hs) (upd Lc (s.y hs) (Lc (s.y hs)+(s.U (s.y hs)).looks key hs))/\ah (kT Rb X p0 pt s.k) w w':=by
 have FO:=aa (λ(w':World) (h':DM w' Rb X gt aH p0 pt s tk L0 (upd Lc (s.y hs) (Lc (s.y hs)+(s.U (s.y hs)).looks key hs)))=>h'.JQ hL key hs hh);have HH:=aa h;have RW:=aa (λ(w':World) (h':DM w' Rb X gt aH p0 pt s tk L0 Lc)=>h'.QD hb hs hh);have FT:=aa (λ(w':World) (h':DM w' Rb X gt aH p0 pt s tk L0 Lc)=>h'.Vu hy jT key hs hh);have IA:=aa h.lt;obtain ⟨B6,Oc⟩:=dC w.heap.size;have Ob:w.heap.size<=B6:=Nat.le_of_eq Oc.symm;have mO:∀b,B6<=b->¬kT Rb X p0 pt s.k b:=λb hb e=>by have:=IA.out b e;omega
 rw [bU.eu hu] at FT;dsimp only [ai.zero] at FT;obtain ⟨en,hen⟩:=dC (s.T.bA key hs);rw [<-hen] at FO ⊢;replace hen:=aa hen;obtain ⟨k0,k1,k2⟩:=en;dsimp only at FO ⊢;rw [hu] at FT;rw [ht] at FO;generalize (pt (s.y hs)).D=td at *
 generalize upd Lc (s.y hs) (Lc (s.y hs)+(s.U (s.y hs)).looks key hs)=Re at *
 clear h hu ht;go_enter Tryz.func117,Tryz.ntmps117
 go_wp2_with (go_at_call 119;(with_reducible refine (RW.out _ (HH.out.later (by go_grown))).mono ?_);rintro e w1 ⟨g,rfl,hg,hgb,hb1⟩;have D1:=aa ((HH.out.later ((aM w.heap.size w).alloc (aL _) (.cells #[.int .u64 0,.int .u64 0,.int .u64 0] 46))).later hb1);have R1:=aa ((af.new w 46 #[.int .u64 0,.int .u64 0,.int .u64 0]).below hb1 (by simp));have G1:=aa hgb;have hg':w.heap.size<=g:=qH ((aM w.heap.size w).alloc (aL _) (.cells #[.int .u64 0,.int .u64 0,.int .u64 0] 46)).size hg;have HB1:=aa hb1;have z1:=hb1.size)
 go_loopw [16] (λv16 wr=>(v16 = .int .i64 0/\wr=w1)\/(v16 = .int .i64 1/\∃w2,Hid (DM w2 Rb X gt aH p0 pt s tk L0 Re)/\Hid (ah (kT Rb X p0 pt s.k) w1 w2)/\Hid (af w2 w.heap.size 46 #[.int .u64 0,.int .u64 0,.int .u64 0])/\wr=w2.alloc (.cells #[.int .u64 0,.int .u64 0,.int .u64 0] 46))) (λv16 _=>match v16 with | .int _ z=>(1-z).toNat|_=>0)
 case atStart=>exact .inl ⟨rfl,rfl⟩
 case round =>
  rcases hrel with ⟨rfl,rfl⟩ | ⟨rfl,w2,D2,C2,R2,rfl⟩
  . skip
    have g0:=G1.out.cell 0;have g1:=G1.out.cell 1;have zg:=G1.out.lt
    go_wp2_with (go_at_call 64;(with_reducible refine (FT.out _ D1.out).mono ?_);rintro e w2 ⟨rfl,hd2,hc2⟩;have D2:=aa hd2;have C2:=aa hc2;have R2:=aa (R1.out.aA hc2 (mO _ (by omega)));clear hd2 hc2)
    exact ⟨.inr ⟨rfl,w2,D2,C2,R2,rfl⟩,by decide⟩
  . skip
    have GA:=(G1.out.aA C2.out (mO _ (by omega))).below ((aM _ _).alloc (aL _) (.cells #[.int .u64 0,.int .u64 0,.int .u64 0] 46)) (by have:=C2.out.size;have:=G1.out.lt;omega);have g0:=GA.cell 0;have g1:=GA.cell 1;have zg:=GA.lt;have z2:=C2.out.size;have DA:=aa (D2.out.later ((aM w2.heap.size w2).alloc (aL _) (.cells #[.int .u64 0,.int .u64 0,.int .u64 0] 46)));have RA:=aa (R2.out.below ((aM w2.heap.size w2).alloc (aL _) (.cells #[.int .u64 0,.int .u64 0,.int .u64 0] 46)) R2.out.lt);have CA:=aa (C2.out.alloc (.cells #[.int .u64 0,.int .u64 0,.int .u64 0] 46))
    go_wp2_with (go_at_call 64;(with_reducible refine (FO.out _ DA.out).mono ?_);rintro e w3 ⟨rfl,hd2,hc2⟩;have D3:=aa hd2;have C3:=aa (CA.out.trans hc2);have R3:=aa (RA.out.aA hc2 (mO _ (by omega)));have r2:=cells3 R3.out;have r20:=r2.1;have r21:=r2.2.1;have r22:=r2.2.2;have zr2:=R3.out.lt;have rf2:=λj=>R3.out.frozen j;clear r2 hd2 hc2)
    go_wp2;refine aJ (λWf hWf=>?_);have hR':=(((R3.out.set 0 (.int .u64 k0)).set 1 (.int .u64 k1)).set 2 (.int .u64 k2))
    have hR:af Wf w.heap.size 46 #[.int .u64 k0,.int .u64 k1,.int .u64 k2]:=by rw [hWf];exact hR'.below ((aM _ _).alloc (aL _) _) hR'.lt
    obtain ⟨r0,r1,r2⟩:=cells3 hR;have fI:ah (λb=>b=w.heap.size) w3 Wf:=by rw [hWf];exact ((((ah.refl _ _).set1 _ _).set1 _ _).set1 _ _).alloc _
    clear hWf;refine bodyPost_ret (v := .tuple #[.agg #[.int .u64 k0,.int .u64 k1,.int .u64 k2],.int .i64 1]) (by simp [results,Tryz.results117,go_sem,r0,r1,r2]) rfl ⟨rfl,?_,?_⟩
    . exact D3.out.aA fI (λb e e2=>mO b (by omega) e) (λe=>by have:=HH.out.r.v.lt;omega)
    . exact (((((ah.refl _ w).alloc _).au HB1.out).trans C3.out)).trans' fI (λb hb e=>by omega)
theorem DM.aei (h:DM w Rb X gt aH p0 pt s tk L0 Lc) (hb:s.bare=0) (hy:s.y hs<s.k) (hL:0<=L0/\L0<=1000000000) (jT:0<=Lc (s.y hs)/\Lc (s.y hs)<=1000000000) (key:Int) (hh:hs<18446744073709551616) (hu:(s.U (s.y hs)).has key hs=false) (ht:s.T.has key hs=false) :
 Calls Tryz.prog 117 #[.pointer (some ⟨Rb,0,none⟩),.int .u64 key,.int .u64 (hs:Int)] w λe w' =>
  e = .returned (.tuple #[.agg #[.int .u64 0,.int .u64 0,.int .u64 0],.int .i64 (-1)])/\DM w' Rb X gt aH p0 pt s tk (L0+s.T.looks key hs) (upd Lc (s.y hs) (Lc (s.y hs)+(s.U (s.y hs)).looks key hs))/\ah (kT Rb X p0 pt s.k) w w':=by
 have FO:=aa (λ(w':World) (h':DM w' Rb X gt aH p0 pt s tk L0 (upd Lc (s.y hs) (Lc (s.y hs)+(s.U (s.y hs)).looks key hs)))=>h'.JQ hL key hs hh);have HH:=aa h;have RW:=aa (λ(w':World) (h':DM w' Rb X gt aH p0 pt s tk L0 Lc)=>h'.QD hb hs hh);have FT:=aa (λ(w':World) (h':DM w' Rb X gt aH p0 pt s tk L0 Lc)=>h'.Vu hy jT key hs hh);have IA:=aa h.lt;obtain ⟨B6,Oc⟩:=dC w.heap.size;have Ob:w.heap.size<=B6:=Nat.le_of_eq Oc.symm;have mO:∀b,B6<=b->¬kT Rb X p0 pt s.k b:=λb hb e=>by have:=IA.out b e;omega
 rw [bU.eu hu] at FT;dsimp only [ai.zero] at FT;rw [bU.eu ht] at FO;dsimp only [ai.zero] at FO;rw [hu] at FT;rw [ht] at FO;generalize (pt (s.y hs)).D=td at *
 generalize upd Lc (s.y hs) (Lc (s.y hs)+(s.U (s.y hs)).looks key hs)=Re at *
 clear h hu ht;go_enter Tryz.func117,Tryz.ntmps117
 go_wp2_with (go_at_call 119;(with_reducible refine (RW.out _ (HH.out.later (by go_grown))).mono ?_);rintro e w1 ⟨g,rfl,hg,hgb,hb1⟩;have D1:=aa ((HH.out.later ((aM w.heap.size w).alloc (aL _) (.cells #[.int .u64 0,.int .u64 0,.int .u64 0] 46))).later hb1);have R1:=aa ((af.new w 46 #[.int .u64 0,.int .u64 0,.int .u64 0]).below hb1 (by simp));have G1:=aa hgb;have hg':w.heap.size<=g:=qH ((aM w.heap.size w).alloc (aL _) (.cells #[.int .u64 0,.int .u64 0,.int .u64 0] 46)).size hg;have HB1:=aa hb1;have z1:=hb1.size)
 go_loopw [16] (λv16 wr=>(v16 = .int .i64 0/\wr=w1)\/(v16 = .int .i64 1/\∃w2,Hid (DM w2 Rb X gt aH p0 pt s tk L0 Re)/\Hid (ah (kT Rb X p0 pt s.k) w1 w2)/\Hid (af w2 w.heap.size 46 #[.int .u64 0,.int .u64 0,.int .u64 0])/\wr=w2.alloc (.cells #[.int .u64 0,.int .u64 0,.int .u64 0] 46))\/(v16 = .int .i64 2/\∃w2,Hid (DM w2 Rb X gt aH p0 pt s tk (L0+s.T.looks key hs) Re)/\Hid (ah (kT Rb X p0 pt s.k) w1 w2)/\Hid (af w2 w.heap.size 46 #[.int .u64 0,.int .u64 0,.int .u64 0])/\wr=w2.alloc (.cells #[.int .u64 0,.int .u64 0,.int .u64 0] 46))) (λv16 _=>match v16 with | .int _ z=>(2-z).toNat|_=>0)
 case atStart=>exact .inl ⟨rfl,rfl⟩
 case round =>
  rcases hrel with ⟨rfl,rfl⟩ | ⟨rfl,w2,D2,C2,R2,rfl⟩ | ⟨rfl,w2,D2,C2,R2,rfl⟩
  . skip
    have g0:=G1.out.cell 0;have g1:=G1.out.cell 1;have zg:=G1.out.lt
    go_wp2_with (go_at_call 64;(with_reducible refine (FT.out _ D1.out).mono ?_);rintro e w2 ⟨rfl,hd2,hc2⟩;have D2:=aa hd2;have C2:=aa hc2;have R2:=aa (R1.out.aA hc2 (mO _ (by omega)));clear hd2 hc2)
    exact ⟨.inr (.inl ⟨rfl,w2,D2,C2,R2,rfl⟩),by decide⟩
  . skip
    have GA:=(G1.out.aA C2.out (mO _ (by omega))).below ((aM _ _).alloc (aL _) (.cells #[.int .u64 0,.int .u64 0,.int .u64 0] 46)) (by have:=C2.out.size;have:=G1.out.lt;omega);have g0:=GA.cell 0;have g1:=GA.cell 1;have zg:=GA.lt;have z2:=C2.out.size;have DA:=aa (D2.out.later ((aM w2.heap.size w2).alloc (aL _) (.cells #[.int .u64 0,.int .u64 0,.int .u64 0] 46)));have RA:=aa (R2.out.below ((aM w2.heap.size w2).alloc (aL _) (.cells #[.int .u64 0,.int .u64 0,.int .u64 0] 46)) R2.out.lt);have CA:=aa (C2.out.alloc (.cells #[.int .u64 0,.int .u64 0,.int .u64 0] 46))
    go_wp2_with (go_at_call 64;(with_reducible refine (FO.out _ DA.out).mono ?_);rintro e w3 ⟨rfl,hd2,hc2⟩;have D3:=aa hd2;have C3:=aa (CA.out.trans hc2);have R3:=aa (RA.out.aA hc2 (mO _ (by omega)));clear hd2 hc2)
    exact ⟨.inr (.inr ⟨rfl,w3,D3,C3,R3,rfl⟩),by decide⟩
  . have r2:=cells3 R2.out;have r20:=r2.1;have r21:=r2.2.1;have r22:=r2.2.2;have zr2:=R2.out.lt;have rf2:=λj=>R2.out.frozen j;clear r2;go_wp2;refine aJ (λWf hWf=>?_);have hR':=(((R2.out.set 0 (.int .u64 0)).set 1 (.int .u64 0)).set 2 (.int .u64 0))
    have hR:af Wf w.heap.size 46 #[.int .u64 0,.int .u64 0,.int .u64 0]:=by rw [hWf];exact hR'.below ((aM _ _).alloc (aL _) _) hR'.lt
    obtain ⟨r0,r1,r2⟩:=cells3 hR;have fI:ah (λb=>b=w.heap.size) w2 Wf:=by rw [hWf];exact ((((ah.refl _ _).set1 _ _).set1 _ _).set1 _ _).alloc _
    clear hWf;refine bodyPost_ret (v := .tuple #[.agg #[.int .u64 0,.int .u64 0,.int .u64 0],.int .i64 (-1)]) (by simp [results,Tryz.results117,go_sem,r0,r1,r2]) rfl ⟨rfl,?_,?_⟩
    . exact D2.out.aA fI (λb e e2=>mO b (by omega) e) (λe=>by have:=HH.out.r.v.lt;omega)
    . exact (((((ah.refl _ w).alloc _).au HB1.out).trans C2.out)).trans' fI (λb hb e=>by omega)
theorem DM.find (h:DM w Rb X gt aH p0 pt s tk L0 Lc) (hk:s.y hs<s.k) (hL:0<=L0/\L0<=1000000000) (jT:0<=Lc (s.y hs)/\Lc (s.y hs)<=1000000000) (key:Int) (hh:hs<18446744073709551616) :
 Calls Tryz.prog 117 #[.pointer (some ⟨Rb,0,none⟩),.int .u64 key,.int .u64 (hs:Int)] w λe w' =>
  e = .returned (.tuple #[.agg #[.int .u64 (s.bA key hs).key,.int .u64 (s.bA key hs).val,.int .u64 (s.bA key hs).hash],.int .i64 (s.atI key hs)])/\DM w' Rb X gt aH p0 pt s tk (L0+s.jZ key hs) (upd Lc (s.y hs) (Lc (s.y hs)+s.jY key hs))/\ah (kT Rb X p0 pt s.k) w w':=by
 unfold DuS.bA DuS.atI DuS.jZ DuS.jY;by_cases hb:s.bare=0
 . cases hu:(s.U (s.y hs)).has key hs with
   | true =>
    have hi:s.mF key hs=true:=by unfold DuS.mF;rw [decide_eq_true hb,hu];rfl
    rw [if_pos hi,if_pos hi,if_pos hi,if_pos hb];simpa using h.aek hb hk jT key hh hu
   | false =>
    have hi:¬s.mF key hs=true:=by unfold DuS.mF;rw [hu];simp
    rw [if_neg hi,if_neg hi,if_neg hi,if_pos hb];cases ht:s.T.has key hs with
    | true =>
     rw [if_pos rfl,if_pos hb];exact h.aej hb hk hL jT key hh hu ht
    | false =>
     rw [if_neg (by simp),bU.eu ht,if_pos hb];exact h.aei hb hk hL jT key hh hu ht
 . have hi:¬s.mF key hs=true:=by unfold DuS.mF;rw [decide_eq_false hb];simp
   rw [if_neg hi,if_neg hi,if_neg hi,if_neg hb];have:=h.agL (by omega) hL key hs hh;simpa [hb,Aw] using this
end
theorem adT:(Tryz.prog.info? 3).map (λi=>(i.zero,i.size,i.bytes))=some (some (.int .i64 0),1,8):=by kernel_rfl
def lkv (L0:Int) (Lc:Nat->Int):Nat->Int
 | 0=>L0
 | i+1=>Lc i
def lkl (L0:Int) (Lc:Nat->Int) (n:Nat):List Value:=(List.range n).map (λi=>Value.int .i64 (lkv L0 Lc i))
theorem UZ (L0:Int) (Lc:Nat->Int) (i:Nat):lkl L0 Lc (i+1) ++ [.int .i64 (Lc i)]=lkl L0 Lc (i+1+1):=by
 unfold lkl;rw [List.range_succ (n:=i+1),List.map_append];rfl
theorem KU {w:World} {g:Nat} {e:TypeId} {x:Value} (h:af w g e #[x]):w.ownsRow g e 1 (.slice (some ⟨g,0,none⟩) 1 1) 1 [x] :=
 ⟨by simp,.inr ⟨g,1,#[x],rfl,aL _,h,by simp,by decide,rfl,by simp⟩⟩
theorem aav {w:World} {g:Nat} {T:TypeId} {x:Value} (h:af w g T #[x]):∀j u,[x][j]?=some u->w.cell? ((⟨g,0,none⟩:Addr).add j)=some u:=by
 intro j u hj
 match j,hj with
 | 0,hj=>simp only [List.getElem?_cons_zero,Option.some.injEq] at hj;subst hj;rw [Qp];exact h.cell 0
 | j+1,hj=>simp at hj
theorem Jw {w:World} {base g cap n:Nat} {e:TypeId} {xs:List Value} (h:w.ownsRow base e 1 (.slice (some ⟨g,0,none⟩) n cap) n xs) (i:Nat) (hi:i<n):w.cell? ⟨g,i,none⟩=xs[i]?:=by
 rcases h.2 with ⟨h',-⟩ | ⟨g',cap',cur,hv,hb,hg,h1,h2,h3,h4⟩
 . cases h'
 . cases hv
   rw [<-h4,(show af w g e cur from hg).cell i,List.getElem?_take_of_lt (by omega),Array.getElem?_toList]
section
variable {w w':World} {Rb X gt aH:Nat} {p0:PB} {pt:Nat->PB} {s:DuS} {tk:Bool} {L0:Int} {Lc:Nat->Int} {hs:Nat}
theorem DM.looks (h:DM w Rb X gt aH p0 pt s tk L0 Lc):Calls Tryz.prog 118 #[.pointer (some ⟨Rb,0,none⟩)] w λe w' =>
 ∃g cap,e = .returned (.slice (some ⟨g,0,none⟩) (s.k+1) cap)/\w'.ownsRow w.heap.size 3 1 (.slice (some ⟨g,0,none⟩) (s.k+1) cap) (s.k+1) (lkl L0 Lc (s.k+1))/\Below w.heap.size w w':=by
 obtain ⟨i0,hi,hz0,hz1,hz2⟩:=info_parts adT;have hk2:s.k<=2:=by rcases h.r.v.hk with e|e <;> omega
 have HH:=aa h;have r0:=h.hd.cell 0;obtain ⟨c0,c1,c2,c3,zX,fX⟩:=eX h.r.v;have d1:=h.r.o.cells.1;have zD:=h.r.o.lt;have zR:=h.hd.lt;clear h c2;go_enter Tryz.func118,Tryz.ntmps118
 go_wp2
 go_loopw [3,25] (λv3 v25 wr => ∃i:Nat,i<=s.k/\v25 = .int .i64 (i:Int)/\wr.ownsRow w.heap.size 3 1 v3 (i+1) (lkl L0 Lc (i+1))/\Below w.heap.size w wr) (λ_ v25 _=>s.k-(intOf v25).toNat)
 case atStart=>exact ⟨0,o7 _,rfl,KU (af.new _ _ _),(aM _ _).alloc (aL _) _⟩
 case round =>
  obtain ⟨i,hi',rfl,hrow,hB⟩:=hrel;have Ha:=aa hrow;have HB:=aa hB;have QM:=hB.size;by_cases hlt:i<s.k
  . have HA:=aa (HH.out.later hB);have l0:=HA.out.r.v.l i hlt;have zG:=HA.out.r.v.lt;have e1:=(HA.out.r.t i hlt).cells.1;have zT:=(HA.out.r.t i hlt).lt;clear hrow hB
    go_wp2_with (at_builtin;(refine iW rfl _ _ 171 rfl w.heap.size 3 i0 (.int .i64 0) 1 8 Tryz.underlying171 hi hz0 hz1 hz2 rfl (by decide) _ _ _ rfl (aB Ha.out ((aM _ _).alloc (aL _) _)) ⟨wr.heap.size,0,none⟩ 1 1 [.int .i64 (Lc i)] rfl rfl (aav (af.new _ _ _)) (by simp [Value.oneCell']) (by unfold maxLen;omega) (by omega) (by simp;omega) (by decide) ?_;intro v5 w5 hown5 aP ic;have R5:=aa hown5;have B5:=aa ((HB.out.alloc QM (.cells #[.int .i64 (Lc i)] 3)).grown aP (by simp;omega) (λk e=>(Ha.out.lt k e).1));clear hown5 aP ic))
    exact ⟨⟨i+1,by omega,by simp,by rw [<-UZ];exact R5.out,B5.out⟩,by simp [intOf];omega⟩
  . obtain rfl:i=s.k:=by omega
    clear hrow hB;go_wp2;go_ret;obtain ⟨g,cap,rfl⟩:=ownsRow_succ Ha.out;exact ⟨g,cap,rfl,Ha.out,HB.out⟩
theorem DM.aeY {mG:Nat->Int} (h:DM w Rb X gt aH p0 pt s tk L0 Lc) (e:∀i,i<s.k->Lc i=mG i):DM w Rb X gt aH p0 pt s tk L0 mG :=
 ⟨h.hd,⟨h.r.v,h.r.o,λj hj=>by rw [<-e j hj];exact h.r.t j hj,h.r.s0,h.r.s1,h.r.x⟩,h.ne⟩
theorem DM.abB (h:DM w Rb X gt aH p0 pt s tk L0 Lc) (L2:Int):DM (w.setCell ⟨p0.D,1,none⟩ (.int .i64 L2)) Rb X gt aH p0 pt s tk L2 Lc/\ah (kT Rb X p0 pt s.k) w (w.setCell ⟨p0.D,1,none⟩ (.int .i64 L2)):=by
 have hid:=h.r.o.id;exact h.oz (h.r.o.looks L2) (((ah.refl (λb=>b=p0.D) w).set1 1 (.int .i64 L2)).mono (λb _ e=>by rw [e];exact hid))
theorem DM.af9 {i:Nat} (hi:i<s.k) (h:DM w Rb X gt aH p0 pt s tk L0 Lc) (L2:Int):DM (w.setCell ⟨(pt i).D,1,none⟩ (.int .i64 L2)) Rb X gt aH p0 pt s tk L0 (upd Lc i L2)/\ah (kT Rb X p0 pt s.k) w (w.setCell ⟨(pt i).D,1,none⟩ (.int .i64 L2)):=by
 have hid:=(h.r.t i hi).id;obtain ⟨h1,h2⟩:=h.om hi ((h.r.t i hi).looks L2) (((ah.refl (λb=>b=(pt i).D) w).set1 1 (.int .i64 L2)).mono (λb _ e=>by rw [e];exact hid));rw [Ho] at h1;exact ⟨h1,h2⟩
theorem DM.again {L0':Int} {mG:Nat->Int} {g cap base:Nat} (h:DM w Rb X gt aH p0 pt s tk L0' mG) (hrow:w.ownsRow base 3 1 (.slice (some ⟨g,0,none⟩) (s.k+1) cap) (s.k+1) (lkl L0 Lc (s.k+1))) (hg:¬kT Rb X p0 pt s.k g):Calls Tryz.prog 120 #[.pointer (some ⟨Rb,0,none⟩),.slice (some ⟨g,0,none⟩) (s.k+1) cap] w λe w' =>
 e = .returned (.tuple #[])/\DM w' Rb X gt aH p0 pt s tk L0 Lc/\ah (kT Rb X p0 pt s.k) w w':=by
 have hk2:s.k<=2:=by rcases h.r.v.hk with e|e <;> omega
 have hgz:g<w.heap.size:=(hrow.lt g rfl).2
 have gc:∀i,i<s.k+1->w.cell? ⟨g,i,none⟩=some (.int .i64 (lkv L0 Lc i)):=λi hi=>by
  rw [Jw hrow i hi];unfold lkl;simp [hi]
 have HH:=aa h;have g0:=gc 0 (by omega);rw [show lkv L0 Lc 0=L0 from rfl] at g0;have GC:=aa gc;obtain ⟨hd,hc⟩:=h.abB L0;have HD:=aa hd;have HC:=aa hc;have r0:=h.hd.cell 0;obtain ⟨c0,c1,c2,c3,zX,fX⟩:=eX h.r.v;have zD:=h.r.o.lt;have rD:=h.r.o.cells.2;have d1:=h.r.o.cells.1;have r0':=hd.hd.cell 0;obtain ⟨c0',c1',-,-,-,-⟩:=eX hd.r.v;have zR:=h.hd.lt;clear h c2 hrow gc hd hc fX c3;go_enter Tryz.func120,Tryz.ntmps120
 go_wp2;refine ag (λ_=>False) #[⟨0,0,64,1,0⟩,⟨1,1,128,64,0⟩,⟨2,3,256,128,0⟩,⟨4,7,512,256,1⟩,⟨8,15,1024,512,0⟩,⟨16,31,2048,1024,0⟩,⟨32,63,4096,2048,1⟩,⟨0,0,8192,2,0⟩,⟨128,128,2^14,8192,0⟩,⟨256,384,2^15,2^14,1⟩,⟨1023,1023,2^16,4096,0⟩,⟨2047,2047,2^17,2^16,0⟩,⟨3071,4095,0,(2^15+2^17),3⟩] 584 [(0,0),(1,0),(2,0),(3,1),(4,0),(5,0),(6,1),(7,0),(8,0),(9,1),(10,0),(11,0),(12,3)] (by kernel_rfl) (by kernel_rfl) (by kernel_rfl) (by kernel_rfl) (by kernel_rfl) (by kernel_rfl) (λc a d v w h=>by cases d <;> exact h) ?_;refine aj ?_;refine aj ?_;refine aj ?_;refine bW Tryz.underlying136 ?_
 try refine aC ?_;refine aj ?_;refine aj ?_
 refine bW Tryz.underlying75 ?_
 try refine aC ?_;refine aj ?_;refine aj ?_
 refine bW Tryz.underlying3 ?_
 try refine aC ?_;refine aj ?_;refine aj ?_
 refine fA λK hK=>?_;go_wp2_with (fail);refine hK.out _ _ ?_;clear hK K
 try refine aC ?_
 refine aD ?_;go_wp2
 go_loopw [26] (λv26 wr => ∃ (i:Nat) (Ly:Nat->Int),i<=s.k/\v26 = .int .i64 (i:Int)/\DM wr Rb X gt aH p0 pt s tk L0 Ly/\ah (kT Rb X p0 pt s.k) w wr/\∀j,j<i->Ly j=Lc j) (λv26 _=>s.k-(intOf v26).toNat)
 case atStart=>exact ⟨0,mG,o7 _,rfl,HD.out.later (aM _ _).drew,HC.out.au (aM _ _).drew,λj hj=>by omega⟩
 case round =>
  obtain ⟨i,Ly,hi',rfl,hd,hc,hy⟩:=hrel;have HDr:=aa hd;have HCr:=aa hc;have HY:=aa hy;by_cases hlt:i<s.k
  . have l0:=hd.r.v.l i hlt;have zG:=hd.r.v.lt;have e1:=(hd.r.t i hlt).cells.2;have e0:=(hd.r.t i hlt).cells.1;have zT:=(hd.r.t i hlt).lt;have gi:=(hc.cell (p:=⟨g,i+1,none⟩) hgz hg).trans (GC.out (i+1) (by omega));rw [show lkv L0 Lc (i+1)=Lc i from rfl] at gi;have gz:=bM hgz hc.size;have hI:((i:Int)+1)<((s.k+1:Nat):Int):=by omega
    clear hd hc hy;go_wp2;obtain ⟨h1,h2⟩:=HDr.out.af9 hlt (Lc i)
    exact ⟨⟨i+1,upd Ly i (Lc i),by omega,by simp,h1,HCr.out.trans h2,λj hj=>by
     by_cases e:j=i
     . subst e;rw [upd_same]
     . rw [ay _ _ e];exact HY.out j (by omega)⟩,by simp [intOf];omega⟩
  . obtain rfl:i=s.k:=by omega
    clear hd hc hy;go_wp2
    go_end0
    exact ⟨rfl,HDr.out.aeY HY.out,HCr.out⟩
end
def Ra (s:DuS) (p0:PB) (pt:Nat->PB) (hs idx td:Nat):Prop:=(idx=0/\td=if s.bare=0 then (pt (s.y hs)).D else p0.D)\/(idx=1/\s.bare=0/\td=p0.D)
section
variable {w w':World} {Rb X gt aH:Nat} {p0:PB} {pt:Nat->PB} {s:DuS} {tk:Bool} {L0:Int} {Lc:Nat->Int} {hs:Nat}
theorem DM.rowAt {idx td:Nat} (hr:Ra s p0 pt hs idx td) (h:DM w Rb X gt aH p0 pt s tk L0 Lc) (hh:hs<18446744073709551616):Calls Tryz.prog 119 #[.pointer (some ⟨Rb,0,none⟩),.int .u64 (hs:Int)] w λe w' =>
 ∃g n,e = .returned (.slice (some ⟨g,0,none⟩) n n)/\(idx:Int)<(n:Int)/\w.heap.size<=g/\g<w'.heap.size/\w'.cell? ⟨g,idx,none⟩=some (.pointer (some ⟨td,0,none⟩))/\Below w.heap.size w w':=by
 by_cases hb:s.bare=0
 . refine (h.QD hb hs hh).mono ?_;rintro e w' ⟨g,rfl,h1,h2,h3⟩
   rcases hr with ⟨rfl,rfl⟩ | ⟨rfl,-,rfl⟩
   . rw [if_pos hb];exact ⟨g,2,rfl,by omega,h1,h2.lt,h2.cell 0,h3⟩
   . exact ⟨g,2,rfl,by omega,h1,h2.lt,h2.cell 1,h3⟩
 . refine (h.acz (by omega) hs).mono ?_;rintro e w' ⟨g,rfl,h1,h2,h3⟩
   rcases hr with ⟨rfl,rfl⟩ | ⟨rfl,e,rfl⟩
   . rw [if_neg hb];exact ⟨g,1,rfl,by omega,h1,h2.lt,h2.cell 0,h3⟩
   . exact absurd e hb
theorem Dv (s:DuS) (p0:PB) (pt:Nat->PB) (key:Int) (hs:Nat):(s.has key hs=false/\s.atI key hs = -1)\/(s.has key hs=true/\∃idx:Nat,s.atI key hs=(idx:Int)/\Ra s p0 pt hs idx (if s.mF key hs=true then (pt (s.y hs)).D else p0.D)):=by
 unfold DuS.atI DuS.has Ra;cases hi:s.mF key hs with
 | true =>
  have hb:=(dW.abI hi).1;exact .inr ⟨rfl,0,by simp,.inl ⟨rfl,by simp [hb]⟩⟩
 | false =>
  cases ht:s.T.has key hs with
  | false=>exact .inl ⟨rfl,by simp⟩
  | true =>
   by_cases hb:s.bare=0
   . exact .inr ⟨rfl,1,by simp [hb],.inr ⟨rfl,hb,by simp⟩⟩
   . exact .inr ⟨rfl,0,by simp [hb],.inl ⟨rfl,by simp [hb]⟩⟩
theorem DM.aeq (h:DM w Rb X gt aH p0 pt s tk L0 Lc) (hk:s.y hs<s.k) (hL:0<=L0/\L0<=1000000000) (jT:0<=Lc (s.y hs)/\Lc (s.y hs)<=1000000000) (key:Int) (hh:hs<18446744073709551616) :
 Calls Tryz.prog 67 #[.pointer (some ⟨if s.mF key hs=true then (pt (s.y hs)).D else p0.D,0,none⟩),.int .u64 key,.int .u64 (hs:Int)] w λe w' =>
  ∃v,e = .returned v/\∃L' mG,DM w' Rb X gt aH p0 pt (s.del key hs) tk L' mG/\ah (kT Rb X p0 pt s.k) w w':=by
 unfold DuS.del;split
 . refine ((h.r.t _ hk).del jT key hs hh).mono ?_;rintro e w' ⟨rfl,h1,h2⟩
   obtain ⟨h3,h4⟩:=h.om hk h1 h2;exact ⟨_,rfl,_,_,h3,h4⟩
 . refine (h.r.o.del hL key hs hh).mono ?_;rintro e w' ⟨rfl,h1,h2⟩
   obtain ⟨h3,h4⟩:=h.oz h1 h2;exact ⟨_,rfl,_,_,h3,h4⟩
theorem VG {s:DuS} {key:Int} {hs:Nat} (h:s.has key hs=false):s.del key hs=s:=by
 unfold DuS.has at h;rw [Bool.or_eq_false_iff] at h;unfold DuS.del ae.eB;rw [h.1,h.2];rfl
theorem Q4 (s:DuS) (key:Int) (hs:Nat):(s.del key hs).k=s.k:=by unfold DuS.del;split <;> rfl
theorem DM.del (h:DM w Rb X gt aH p0 pt s tk L0 Lc) (hk:s.y hs<s.k) (hL:0<=L0/\L0<=100000000) (jT:0<=Lc (s.y hs)/\Lc (s.y hs)<=100000000) (key:Int) (hh:hs<18446744073709551616) :
 Calls Tryz.prog 66 #[.pointer (some ⟨Rb,0,none⟩),.int .u64 key,.int .u64 (hs:Int)] w λe w' =>
  e = .returned (.tuple #[.agg #[.int .u64 (s.bA key hs).key,.int .u64 (s.bA key hs).val,.int .u64 (s.bA key hs).hash],.bool (s.has key hs)])/\DM w' Rb X gt aH p0 pt (s.del key hs) tk (L0+s.jZ key hs) (upd Lc (s.y hs) (Lc (s.y hs)+s.jY key hs))/\ah (kT Rb X p0 pt s.k) w w':=by
 have hb1:0<=L0+(s.jZ key hs:Nat)/\L0+(s.jZ key hs:Nat)<=1000000000:=by
  have:=gK h.r.o.good key hs;have:=h.r.o.good.bounds;unfold DuS.jZ;split <;> omega
 have hb2:0<=upd Lc (s.y hs) (Lc (s.y hs)+(s.jY key hs:Nat)) (s.y hs)/\upd Lc (s.y hs) (Lc (s.y hs)+(s.jY key hs:Nat)) (s.y hs)<=1000000000:=by
  rw [upd_same];have:=gK (h.r.t _ hk).good key hs;have:=(h.r.t _ hk).good.bounds;unfold DuS.jY;split <;> omega
 replace hL:0<=L0/\L0<=1000000000:=⟨hL.1,by omega⟩
 replace jT:0<=Lc (s.y hs)/\Lc (s.y hs)<=1000000000:=⟨jT.1,by omega⟩
 have HH:=aa h;have FI:=aa (λ(w':World) (h':DM w' Rb X gt aH p0 pt s tk L0 Lc)=>h'.find hk hL jT key hh);have IA:=aa h.lt;obtain ⟨B6,Oc⟩:=dC w.heap.size;have Ob:w.heap.size<=B6:=Nat.le_of_eq Oc.symm;have mO:∀b,B6<=b->¬kT Rb X p0 pt s.k b:=λb hb e=>by have:=IA.out b e;omega
 obtain ⟨en,hen⟩:=dC (s.bA key hs);rw [<-hen] at FI ⊢;clear hen;obtain ⟨k0,k1,k2⟩:=en;dsimp only at FI ⊢;rcases Dv s p0 pt key hs with ⟨hhas,hat⟩ | ⟨hhas,idx,hat,hrow⟩
 . rw [VG hhas,hhas];rw [hat] at FI;generalize L0+(s.jZ key hs:Nat)=L1 at *
   generalize upd Lc (s.y hs) (Lc (s.y hs)+(s.jY key hs:Nat))=Re at *
   have LK:=aa (λ(w':World) (h':DM w' Rb X gt aH p0 pt s tk L1 Re)=>h'.looks);clear h;go_enter Tryz.func66,Tryz.ntmps66
   go_wp2_with (first|(go_at_call 117;(with_reducible refine (FI.out _ (HH.out.later (by go_grown))).mono ?_);rintro e w1 ⟨rfl,hd1,hc1⟩;have D1:=aa hd1;have C1:=aa hc1;have R6:=aa ((af.new w 46 #[.int .u64 0,.int .u64 0,.int .u64 0]).aA hc1 (mO _ (by omega)));have z1:w.heap.size+1<=w1.heap.size:=(by simpa using hc1.size);clear hd1 hc1)|(go_at_call 118;((with_reducible refine (LK.out _ (D1.out.later (by go_grown))).mono ?_);rintro e w2 ⟨g,cap,rfl,hrow2,hb2⟩;have B1:Below w1.heap.size w1 (w1.alloc (.cells #[.int .u64 k0,.int .u64 k1,.int .u64 k2] 46)):=(aM _ _).alloc (aL _) _;have D2:=aa ((D1.out.later B1).later hb2);have C2:=aa ((C1.out.au B1).au hb2);have MB:=aa ((R6.out.below B1 R6.out.lt).below hb2 (by have:=R6.out.lt;have:=B1.size;omega));have R82:=aa ((af.new w1 46 #[.int .u64 k0,.int .u64 k1,.int .u64 k2]).below hb2 (by simp));have ROW:=aa hrow2;have hgB:B6<=g:=(by have:=(hrow2.lt g rfl).1;have:=B1.size;omega);have hgz:=(hrow2.lt g rfl).2;have hgx:=mO g hgB;clear hrow2 hb2 B1))|(go_at_call 120;(with_reducible refine (DM.again D2.out ROW.out hgx).mono ?_);rintro e w5 ⟨rfl,hd5,GD⟩;have D5:=aa hd5;have C5:=aa (C2.out.trans GD);have R65:=aa (MB.out.aA GD (mO _ (by omega)));have R85:=aa (R82.out.aA GD (mO _ (by omega)));have r6:=cells3 R65.out;have r60:=r6.1;have r61:=r6.2.1;have r62:=r6.2.2;have r8:=cells3 R85.out;have r80:=r8.1;have r81:=r8.2.1;have r82:=r8.2.2;have zr6:=R65.out.lt;have zr8:=R85.out.lt;have rf6:=λj=>R65.out.frozen j;clear r6 r8 hd5 GD))
   refine aJ (λWf hWf=>?_);have hR:af Wf w.heap.size 46 #[.int .u64 k0,.int .u64 k1,.int .u64 k2]:=by rw [hWf];exact (((R65.out.set 0 _).set 1 _).set 2 _)
   obtain ⟨r0,r1,r2⟩:=cells3 hR;have fI:ah (λb=>b=w.heap.size) w5 Wf:=by rw [hWf];exact ((((ah.refl _ _).set1 _ _).set1 _ _).set1 _ _)
   clear hWf;refine bodyPost_ret (v := .tuple #[.agg #[.int .u64 k0,.int .u64 k1,.int .u64 k2],.bool false]) (by simp [results,Tryz.results66,go_sem,r0,r1,r2]) rfl ⟨rfl,?_,?_⟩
   . exact D5.out.aA fI (λb e e2=>mO b (by omega) (by exact e)) (λe=>by have:=HH.out.r.v.lt;omega)
   . exact (((ah.refl _ w).alloc _).trans C5.out).trans' fI (λb hb e=>by omega)
 . rw [hhas];rw [hat] at FI;have DR:=aa (λ(w':World) (h':DM w' Rb X gt aH p0 pt s tk (L0+(s.jZ key hs:Nat)) (upd Lc (s.y hs) (Lc (s.y hs)+(s.jY key hs:Nat))))=>h'.aeq hk hb1 hb2 key hh);have RW:=aa (λ(w':World) (h':DM w' Rb X gt aH p0 pt s tk (L0+(s.jZ key hs:Nat)) (upd Lc (s.y hs) (Lc (s.y hs)+(s.jY key hs:Nat))))=>h'.rowAt hrow hh);have AG:=aa (λ(w':World) (L2:Int) (Lc2:Nat->Int) (g cap base:Nat) (h':DM w' Rb X gt aH p0 pt (s.del key hs) tk L2 Lc2)=>DM.again (L0:=L0+(s.jZ key hs:Nat)) (Lc:=upd Lc (s.y hs) (Lc (s.y hs)+(s.jY key hs:Nat))) (g:=g) (cap:=cap) (base:=base) h');rw [Q4] at AG;generalize L0+(s.jZ key hs:Nat)=L1 at *
   generalize upd Lc (s.y hs) (Lc (s.y hs)+(s.jY key hs:Nat))=Re at *
   generalize (if s.mF key hs=true then (pt (s.y hs)).D else p0.D)=td at *
   have hidx:¬ ((idx:Int)<0):=by omega
   have agp:(0:Int)<=(idx:Int):=by omega
   have LK:=aa (λ(w':World) (h':DM w' Rb X gt aH p0 pt s tk L1 Re)=>h'.looks);clear h hrow;go_enter Tryz.func66,Tryz.ntmps66
   go_wp2_with (first|(go_at_call 117;(with_reducible refine (FI.out _ (HH.out.later (by go_grown))).mono ?_);rintro e w1 ⟨rfl,hd1,hc1⟩;have D1:=aa hd1;have C1:=aa hc1;have R6:=aa ((af.new w 46 #[.int .u64 0,.int .u64 0,.int .u64 0]).aA hc1 (mO _ (by omega)));have z1:w.heap.size+1<=w1.heap.size:=(by simpa using hc1.size);clear hd1 hc1)|(go_at_call 118;((with_reducible refine (LK.out _ (D1.out.later (by go_grown))).mono ?_);rintro e w2 ⟨g,cap,rfl,hrow2,hb2⟩;have B1:Below w1.heap.size w1 (w1.alloc (.cells #[.int .u64 k0,.int .u64 k1,.int .u64 k2] 46)):=(aM _ _).alloc (aL _) _;have D2:=aa ((D1.out.later B1).later hb2);have C2:=aa ((C1.out.au B1).au hb2);have MB:=aa ((R6.out.below B1 R6.out.lt).below hb2 (by have:=R6.out.lt;have:=B1.size;omega));have R82:=aa ((af.new w1 46 #[.int .u64 k0,.int .u64 k1,.int .u64 k2]).below hb2 (by simp));have ROW:=aa hrow2;have hgB:B6<=g:=(by have:=(hrow2.lt g rfl).1;have:=B1.size;omega);have hgz:=(hrow2.lt g rfl).2;have hgx:=mO g hgB;clear hrow2 hb2 B1))|(go_at_call 119;((with_reducible refine (RW.out _ D2.out).mono ?_);rintro e w3 ⟨g3,n3,rfl,hn3,hg3,hz3,hc3,hb3⟩;have D3:=aa (D2.out.later hb3);have C3:=aa (C2.out.au hb3);have R63:=aa (MB.out.below hb3 MB.out.lt);have R83:=aa (R82.out.below hb3 R82.out.lt);have aaI:=aa (aB ROW.out hb3);clear hb3))|(go_at_call 67;((with_reducible refine (DR.out _ D3.out).mono ?_);rintro e w4 ⟨v4,rfl,L4,Lc4,hd4,hc4⟩;have D4:=aa hd4;have C4:=aa (C3.out.trans hc4);have R64:=aa (R63.out.aA hc4 (mO _ (by omega)));have R84:=aa (R83.out.aA hc4 (mO _ (by omega)));have aaH:=aa (gJ aaI.out hc4 (λb e=>by cases e;exact hgx));clear hd4 hc4))|(go_at_call 120;((with_reducible refine (AG.out _ L4 Lc4 g cap _ D4.out aaH.out hgx).mono ?_);rintro e w5 ⟨rfl,hd5,GD⟩;have D5:=aa hd5;have C5:=aa (C4.out.trans GD);have R65:=aa (R64.out.aA GD (mO _ (by omega)));have R85:=aa (R84.out.aA GD (mO _ (by omega)));have r6:=cells3 R65.out;have r60:=r6.1;have r61:=r6.2.1;have r62:=r6.2.2;have r8:=cells3 R85.out;have r80:=r8.1;have r81:=r8.2.1;have r82:=r8.2.2;have zr6:=R65.out.lt;have zr8:=R85.out.lt;have rf6:=λj=>R65.out.frozen j;clear r6 r8 hd5 GD)))
   refine aJ (λWf hWf=>?_);have hR:af Wf w.heap.size 46 #[.int .u64 k0,.int .u64 k1,.int .u64 k2]:=by rw [hWf];exact (((R65.out.set 0 _).set 1 _).set 2 _)
   obtain ⟨r0,r1,r2⟩:=cells3 hR;have fI:ah (λb=>b=w.heap.size) w5 Wf:=by rw [hWf];exact ((((ah.refl _ _).set1 _ _).set1 _ _).set1 _ _)
   clear hWf;refine bodyPost_ret (v := .tuple #[.agg #[.int .u64 k0,.int .u64 k1,.int .u64 k2],.bool true]) (by simp [results,Tryz.results66,go_sem,r0,r1,r2]) rfl ⟨rfl,?_,?_⟩
   . exact D5.out.aA fI (λb e e2=>mO b (by omega) (by ((rw [Q4] at e;exact e)))) (λe=>by have:=HH.out.r.v.lt;omega)
   . exact (((ah.refl _ w).alloc _).trans C5.out).trans' fI (λb hb e=>by omega)
end
section
variable {w w':World} {Rb X gt aH:Nat} {p0:PB} {pt:Nat->PB} {s:DuS} {tk:Bool} {L0:Int} {Lc:Nat->Int} {hs:Nat}
theorem Ee {T:ae} {key:Int} {hs:Nat} (h:T.has key hs=true):T.bN key hs=0:=by unfold ae.bN;rw [if_pos (.inl h)]
theorem DM.putRow (h:DM w Rb X gt aH p0 pt s tk L0 Lc) (hk:s.y hs<s.k) (hL:0<=L0/\L0<=1000000000) (jT:0<=Lc (s.y hs)/\Lc (s.y hs)<=1000000000) (key v:Int) (more:Bool) (hh:hs<18446744073709551616) (hhas:s.has key hs=true) :
 Calls Tryz.prog 65 #[.pointer (some ⟨if s.mF key hs=true then (pt (s.y hs)).D else p0.D,0,none⟩),.agg #[.int .u64 key,.int .u64 v,.int .u64 (hs:Int)]] w λe w' =>
  ∃b,e = .returned (.tuple #[.bool b,.int .i64 0])/\∃L' mG,DM w' Rb X gt aH p0 pt (s.put key v hs more) tk L' mG/\ah (kT Rb X p0 pt s.k) w w':=by
 unfold DuS.put;cases hi:s.mF key hs with
 | true =>
  rw [if_pos rfl,if_pos rfl];refine ((h.r.t _ hk).put jT key v hs hh).mono ?_;rintro e w' ⟨rfl,h1,h2⟩
  obtain ⟨h3,h4⟩:=h.om hk h1 h2;exact ⟨_,by rw [Ee (dW.abI hi).2];rfl,_,_,h3,h4⟩
 | false =>
  have ht:s.T.has key hs=true:=by unfold DuS.has at hhas;rw [hi] at hhas;simpa using hhas
  rw [if_neg (by simp),if_neg (by simp),if_pos ht];refine (h.r.o.put hL key v hs hh).mono ?_;rintro e w' ⟨rfl,h1,h2⟩
  obtain ⟨h3,h4⟩:=h.oz h1 h2;exact ⟨_,by rw [Ee ht];rfl,_,_,h3,h4⟩
theorem DM.adG (h:DM w Rb X gt aH p0 pt s tk L0 Lc) (hk:s.y hs<s.k) (hL:0<=L0/\L0<=1000000000) (jT:0<=Lc (s.y hs)/\Lc (s.y hs)<=1000000000) (key v:Int) (hh:hs<18446744073709551616) (hhas:s.has key hs=false) :
 Calls Tryz.prog 65 #[.pointer (some ⟨if s.bare=0 then (pt (s.y hs)).D else p0.D,0,none⟩),.agg #[.int .u64 key,.int .u64 v,.int .u64 (hs:Int)]] w λe w' =>
  e = .returned (.tuple #[.bool (s.bB key hs true),.int .i64 ((s.bN key hs true:Nat):Int)])/\∃L' mG,DM w' Rb X gt aH p0 pt (s.put key v hs true) tk L' mG/\ah (kT Rb X p0 pt s.k) w w':=by
 have h0:=hhas;unfold DuS.has at h0;rw [Bool.or_eq_false_iff] at h0;unfold DuS.put DuS.bB DuS.bN DuS.fst;rw [hhas,h0.1,h0.2];simp only [Bool.false_eq_true,if_false,Bool.not_false,Bool.true_and,Bool.true_eq_false];by_cases hb:s.bare=0
 . simp only [if_pos hb];refine ((h.r.t _ hk).put jT key v hs hh).mono ?_;rintro e w' ⟨rfl,h1,h2⟩
   obtain ⟨h3,h4⟩:=h.om hk h1 h2;exact ⟨rfl,_,_,h3,h4⟩
 . simp only [if_neg hb];refine (h.r.o.put hL key v hs hh).mono ?_;rintro e w' ⟨rfl,h1,h2⟩
   obtain ⟨h3,h4⟩:=h.oz h1 h2;exact ⟨rfl,_,_,h3,h4⟩
theorem Uu (s:DuS) (key v:Int) (hs:Nat) (more:Bool):(s.put key v hs more).k=s.k:=by
 unfold DuS.put;split
 . rfl
 . split
   . rfl
   . split
     . rfl
     . split <;> rfl
theorem DM.afZ (h:DM w Rb X gt aH p0 pt s tk L0 Lc) (hk:s.y hs<s.k) (hL:0<=L0/\L0<=100000000) (jT:0<=Lc (s.y hs)/\Lc (s.y hs)<=100000000) (key v:Int) (hh:hs<18446744073709551616) (hhas:s.has key hs=false) :
 Calls Tryz.prog 63 #[.pointer (some ⟨Rb,0,none⟩),.agg #[.int .u64 key,.int .u64 v,.int .u64 (hs:Int)],.bool false] w λe w' =>
  e = .returned (.tuple #[.bool false,.int .i64 2])/\DM w' Rb X gt aH p0 pt s tk (L0+s.jZ key hs) (upd Lc (s.y hs) (Lc (s.y hs)+s.jY key hs))/\ah (kT Rb X p0 pt s.k) w w':=by
 have hb1:0<=L0+(s.jZ key hs:Nat)/\L0+(s.jZ key hs:Nat)<=1000000000:=by
  have:=gK h.r.o.good key hs;have:=h.r.o.good.bounds;unfold DuS.jZ;split <;> omega
 have hb2:0<=upd Lc (s.y hs) (Lc (s.y hs)+(s.jY key hs:Nat)) (s.y hs)/\upd Lc (s.y hs) (Lc (s.y hs)+(s.jY key hs:Nat)) (s.y hs)<=1000000000:=by
  rw [upd_same];have:=gK (h.r.t _ hk).good key hs;have:=(h.r.t _ hk).good.bounds;unfold DuS.jY;split <;> omega
 replace hL:0<=L0/\L0<=1000000000:=⟨hL.1,by omega⟩
 replace jT:0<=Lc (s.y hs)/\Lc (s.y hs)<=1000000000:=⟨jT.1,by omega⟩
 have HH:=aa h;have FI:=aa (λ(w':World) (h':DM w' Rb X gt aH p0 pt s tk L0 Lc)=>h'.find hk hL jT key hh);have IA:=aa h.lt;obtain ⟨B6,Oc⟩:=dC w.heap.size;have Ob:w.heap.size<=B6:=Nat.le_of_eq Oc.symm;have mO:∀b,B6<=b->¬kT Rb X p0 pt s.k b:=λb hb e=>by have:=IA.out b e;omega
 obtain ⟨en,hen⟩:=dC (s.bA key hs);rw [<-hen] at FI;clear hen;obtain ⟨k0,k1,k2⟩:=en;dsimp only at FI
 have hat:s.atI key hs = -1:=by
  rcases Dv s p0 pt key hs with ⟨-,h'⟩ | ⟨h',-⟩
  . exact h'
  . rw [hhas] at h';cases h'
 rw [hat] at FI;generalize L0+(s.jZ key hs:Nat)=L1 at *
 generalize upd Lc (s.y hs) (Lc (s.y hs)+(s.jY key hs:Nat))=Re at *
 have LK:=aa (λ(w':World) (h':DM w' Rb X gt aH p0 pt s tk L1 Re)=>h'.looks);clear h;go_enter Tryz.func63,Tryz.ntmps63
 go_wp2_with (first|(go_at_call 117;((with_reducible refine (FI.out _ (HH.out.later (by go_grown))).mono ?_);rintro e w1 ⟨rfl,hd1,hc1⟩;have D1:=aa hd1;have C1:=aa hc1;have R6:=aa ((af.new w 46 #[.int .u64 key,.int .u64 v,.int .u64 (hs:Int)]).aA hc1 (mO _ (by omega)));have z1:w.heap.size+1<=w1.heap.size:=(by simpa using hc1.size);clear hd1 hc1))|(go_at_call 118;((with_reducible refine (LK.out _ (D1.out.later (by go_grown))).mono ?_);rintro e w2 ⟨g,cap,rfl,hrow2,hb2⟩;have B1:Below w1.heap.size w1 (w1.alloc (.cells #[.int .u64 k0,.int .u64 k1,.int .u64 k2] 46)):=(aM _ _).alloc (aL _) _;have D2:=aa ((D1.out.later B1).later hb2);have C2:=aa ((C1.out.au B1).au hb2);have MB:=aa ((R6.out.below B1 R6.out.lt).below hb2 (by have:=R6.out.lt;have:=B1.size;omega));have ROW:=aa hrow2;have hgB:B6<=g:=(by have:=(hrow2.lt g rfl).1;have:=B1.size;omega);have hgz:=(hrow2.lt g rfl).2;have hgx:=mO g hgB;have r6:=cells3 MB.out;have r60:=r6.1;have r61:=r6.2.1;have r62:=r6.2.2;have zr6:=MB.out.lt;clear r6 hrow2 hb2 B1))|(go_at_call 120;((with_reducible refine (DM.again D2.out ROW.out hgx).mono ?_);rintro e w5 ⟨rfl,hd5,GD⟩;have D5:=aa hd5;have C5:=aa (C2.out.trans GD);clear hd5 GD)))
 go_ret2;exact ⟨rfl,D5.out,((ah.refl _ w).alloc _).trans C5.out⟩
theorem DM.adE (h:DM w Rb X gt aH p0 pt s tk L0 Lc) (hk:s.y hs<s.k) (hL:0<=L0/\L0<=100000000) (jT:0<=Lc (s.y hs)/\Lc (s.y hs)<=100000000) (key v:Int) (hh:hs<18446744073709551616) (hhas:s.has key hs=false) :
 Calls Tryz.prog 63 #[.pointer (some ⟨Rb,0,none⟩),.agg #[.int .u64 key,.int .u64 v,.int .u64 (hs:Int)],.bool true] w λe w' =>
  e = .returned (.tuple #[.bool (s.bB key hs true),.int .i64 ((s.bN key hs true:Nat):Int)])/\DM w' Rb X gt aH p0 pt (s.put key v hs true) tk (L0+s.jZ key hs) (upd Lc (s.y hs) (Lc (s.y hs)+s.jY key hs))/\ah (kT Rb X p0 pt s.k) w w':=by
 have hb1:0<=L0+(s.jZ key hs:Nat)/\L0+(s.jZ key hs:Nat)<=1000000000:=by
  have:=gK h.r.o.good key hs;have:=h.r.o.good.bounds;unfold DuS.jZ;split <;> omega
 have hb2:0<=upd Lc (s.y hs) (Lc (s.y hs)+(s.jY key hs:Nat)) (s.y hs)/\upd Lc (s.y hs) (Lc (s.y hs)+(s.jY key hs:Nat)) (s.y hs)<=1000000000:=by
  rw [upd_same];have:=gK (h.r.t _ hk).good key hs;have:=(h.r.t _ hk).good.bounds;unfold DuS.jY;split <;> omega
 replace hL:0<=L0/\L0<=1000000000:=⟨hL.1,by omega⟩
 replace jT:0<=Lc (s.y hs)/\Lc (s.y hs)<=1000000000:=⟨jT.1,by omega⟩
 have HH:=aa h;have FI:=aa (λ(w':World) (h':DM w' Rb X gt aH p0 pt s tk L0 Lc)=>h'.find hk hL jT key hh);have IA:=aa h.lt;obtain ⟨B6,Oc⟩:=dC w.heap.size;have Ob:w.heap.size<=B6:=Nat.le_of_eq Oc.symm;have mO:∀b,B6<=b->¬kT Rb X p0 pt s.k b:=λb hb e=>by have:=IA.out b e;omega
 obtain ⟨en,hen⟩:=dC (s.bA key hs);rw [<-hen] at FI;clear hen;obtain ⟨k0,k1,k2⟩:=en;dsimp only at FI
 have hat:s.atI key hs = -1:=by
  rcases Dv s p0 pt key hs with ⟨-,h'⟩ | ⟨h',-⟩
  . exact h'
  . rw [hhas] at h';cases h'
 rw [hat] at FI;have PF:=aa (λ(w':World) (h':DM w' Rb X gt aH p0 pt s tk (L0+(s.jZ key hs:Nat)) (upd Lc (s.y hs) (Lc (s.y hs)+(s.jY key hs:Nat))))=>h'.adG hk hb1 hb2 key v hh hhas);have RW:=aa (λ(w':World) (h':DM w' Rb X gt aH p0 pt s tk (L0+(s.jZ key hs:Nat)) (upd Lc (s.y hs) (Lc (s.y hs)+(s.jY key hs:Nat))))=>DM.rowAt (idx:=0) (.inl ⟨rfl,rfl⟩) h' hh);have AG:=aa (λ(w':World) (L2:Int) (Lc2:Nat->Int) (g cap base:Nat) (h':DM w' Rb X gt aH p0 pt (s.put key v hs true) tk L2 Lc2)=>DM.again (L0:=L0+(s.jZ key hs:Nat)) (Lc:=upd Lc (s.y hs) (Lc (s.y hs)+(s.jY key hs:Nat))) (g:=g) (cap:=cap) (base:=base) h');rw [Uu] at AG;generalize L0+(s.jZ key hs:Nat)=L1 at *
 generalize upd Lc (s.y hs) (Lc (s.y hs)+(s.jY key hs:Nat))=Re at *
 generalize (if s.bare=0 then (pt (s.y hs)).D else p0.D)=td at *
 generalize s.bB key hs true=pB at *
 generalize s.bN key hs true=pN at *
 have LK:=aa (λ(w':World) (h':DM w' Rb X gt aH p0 pt s tk L1 Re)=>h'.looks);clear h;go_enter Tryz.func63,Tryz.ntmps63
 go_wp2_with (first|(go_at_call 117;((with_reducible refine (FI.out _ (HH.out.later (by go_grown))).mono ?_);rintro e w1 ⟨rfl,hd1,hc1⟩;have D1:=aa hd1;have C1:=aa hc1;have R6:=aa ((af.new w 46 #[.int .u64 key,.int .u64 v,.int .u64 (hs:Int)]).aA hc1 (mO _ (by omega)));have z1:w.heap.size+1<=w1.heap.size:=(by simpa using hc1.size);clear hd1 hc1))|(go_at_call 118;((with_reducible refine (LK.out _ (D1.out.later (by go_grown))).mono ?_);rintro e w2 ⟨g,cap,rfl,hrow2,hb2⟩;have B1:Below w1.heap.size w1 (w1.alloc (.cells #[.int .u64 k0,.int .u64 k1,.int .u64 k2] 46)):=(aM _ _).alloc (aL _) _;have D2:=aa ((D1.out.later B1).later hb2);have C2:=aa ((C1.out.au B1).au hb2);have MB:=aa ((R6.out.below B1 R6.out.lt).below hb2 (by have:=R6.out.lt;have:=B1.size;omega));have ROW:=aa hrow2;have hgB:B6<=g:=(by have:=(hrow2.lt g rfl).1;have:=B1.size;omega);have hgz:=(hrow2.lt g rfl).2;have hgx:=mO g hgB;have r6:=cells3 MB.out;have r60:=r6.1;have r61:=r6.2.1;have r62:=r6.2.2;have zr6:=MB.out.lt;clear r6 hrow2 hb2 B1)))
 have ai4:¬kT Rb X p0 pt s.k w.heap.size:=mO _ (by omega);refine ag (λb=>kT Rb X p0 pt s.k b) #[⟨0,0,2^25,1,0⟩,⟨0,0,2^26,16,0⟩,⟨2,2,2^27,2^26,1⟩,⟨5,7,2^28,(2^25+2^27),2⟩,⟨8,15,2^29,2^28,0⟩,⟨16,31,2^30,2^29,1⟩,⟨0,0,2^31,16,1⟩,⟨104,127,2^32,(2^30+2^31),3⟩,⟨128,255,2^24,2^32,0⟩,⟨256,511,2^33,2^24,0⟩,⟨256,511,2^34,2^24,0⟩,⟨1023,1023,4096,2^33,0⟩,⟨4095,4095,2048,2^34,0⟩] 100 [(0,0),(1,0),(2,1),(6,1),(3,2),(4,0),(5,1),(7,3),(8,0),(9,0),(10,0),(11,0),(12,0)] (by kernel_rfl) (by kernel_rfl) (by kernel_rfl) (by kernel_rfl) (by kernel_rfl) (by kernel_rfl) (λc a d v w h=>by cases d <;> exact h) ?_;refine aj ?_;refine aj ?_;refine bW Tryz.underlying38 ?_
 try refine aC ?_
 refine jR [_,_,_] Tryz.underlying46 ?_
 try refine aC ?_
 refine iK λK hK=>?_;go_wp2_with ((go_at_call 119;((with_reducible refine (RW.out _ (D2.out.later (aM _ _).drew)).mono ?_);rintro e w3 ⟨g3,n3,rfl,hn3,hg3,hz3,hc3,Vm⟩;have aiW:0<n3:=(by omega);have ai5:¬kT Rb X p0 pt s.k g3:=mO g3 (by have:=C2.out.size;simp at *;omega);have hb3:=Below.bS Vm;have D3:=aa (D2.out.later hb3);have C3:=aa (C2.out.au hb3);have R63:=aa (MB.out.below hb3 MB.out.lt);have aaI:=aa (aB ROW.out hb3);have q6:=cells3 R63.out;have q60:=q6.1;have q61:=q6.2.1;have q62:=q6.2.2;have zq6:=R63.out.lt;have agy:Below w2.heap.size w2.drew w3:=Vm;clear q6)));refine iX hK (h:=?_);clear hK K
 try refine aC ?_;refine aj ?_
 refine bW Tryz.underlying75 ?_
 try refine aC ?_
 refine fA λK hK=>?_;go_wp2_with ((go_at_call 65;((with_reducible refine (PF.out _ D3.out).mono ?_);rintro e w4 ⟨rfl,L4,Lc4,hd4,hc4⟩;have D4:=aa hd4;have C4:=aa (C3.out.trans hc4);have aaH:=aa (gJ aaI.out hc4 (λb e=>by cases e;exact hgx));clear hd4)));refine hK.out _ _ ?_;clear hK K
 try refine aC ?_;refine aj ?_;refine aj ?_;refine aj ?_;refine aj ?_;refine aj ?_
 refine aD ?_
 go_wp2_with (first|(go_at_call 120;((with_reducible refine (AG.out _ L4 Lc4 g cap _ D4.out aaH.out hgx).mono ?_);rintro e w5 ⟨rfl,hd5,GD⟩;have D5:=aa hd5;have C5:=aa (C4.out.trans GD);clear hd5 GD)))
 go_ret2;exact ⟨rfl,D5.out,((ah.refl _ w).alloc _).trans C5.out⟩
theorem DM.adF (h:DM w Rb X gt aH p0 pt s tk L0 Lc) (hk:s.y hs<s.k) (hL:0<=L0/\L0<=100000000) (jT:0<=Lc (s.y hs)/\Lc (s.y hs)<=100000000) (key v:Int) (more:Bool) (hh:hs<18446744073709551616) (hhas:s.has key hs=true) :
 Calls Tryz.prog 63 #[.pointer (some ⟨Rb,0,none⟩),.agg #[.int .u64 key,.int .u64 v,.int .u64 (hs:Int)],.bool more] w λe w' =>
  e = .returned (.tuple #[.bool false,.int .i64 0])/\DM w' Rb X gt aH p0 pt (s.put key v hs more) tk (L0+s.jZ key hs) (upd Lc (s.y hs) (Lc (s.y hs)+s.jY key hs))/\ah (kT Rb X p0 pt s.k) w w':=by
 have hb1:0<=L0+(s.jZ key hs:Nat)/\L0+(s.jZ key hs:Nat)<=1000000000:=by
  have:=gK h.r.o.good key hs;have:=h.r.o.good.bounds;unfold DuS.jZ;split <;> omega
 have hb2:0<=upd Lc (s.y hs) (Lc (s.y hs)+(s.jY key hs:Nat)) (s.y hs)/\upd Lc (s.y hs) (Lc (s.y hs)+(s.jY key hs:Nat)) (s.y hs)<=1000000000:=by
  rw [upd_same];have:=gK (h.r.t _ hk).good key hs;have:=(h.r.t _ hk).good.bounds;unfold DuS.jY;split <;> omega
 replace hL:0<=L0/\L0<=1000000000:=⟨hL.1,by omega⟩
 replace jT:0<=Lc (s.y hs)/\Lc (s.y hs)<=1000000000:=⟨jT.1,by omega⟩
 have HH:=aa h;have FI:=aa (λ(w':World) (h':DM w' Rb X gt aH p0 pt s tk L0 Lc)=>h'.find hk hL jT key hh);have IA:=aa h.lt;obtain ⟨B6,Oc⟩:=dC w.heap.size;have Ob:w.heap.size<=B6:=Nat.le_of_eq Oc.symm;have mO:∀b,B6<=b->¬kT Rb X p0 pt s.k b:=λb hb e=>by have:=IA.out b e;omega
 obtain ⟨en,hen⟩:=dC (s.bA key hs);rw [<-hen] at FI;clear hen;obtain ⟨k0,k1,k2⟩:=en;dsimp only at FI
 obtain ⟨idx,hat,hrow⟩:∃idx:Nat,s.atI key hs=(idx:Int)/\Ra s p0 pt hs idx (if s.mF key hs=true then (pt (s.y hs)).D else p0.D):=by
  rcases Dv s p0 pt key hs with ⟨h',-⟩ | ⟨-,h'⟩
  . rw [hhas] at h';cases h'
  . exact h'
 rw [hat] at FI;have hidx:¬ ((idx:Int)<0):=by omega
 have agp:(0:Int)<=(idx:Int):=by omega
 have PF:=aa (λ(w':World) (h':DM w' Rb X gt aH p0 pt s tk (L0+(s.jZ key hs:Nat)) (upd Lc (s.y hs) (Lc (s.y hs)+(s.jY key hs:Nat))))=>h'.putRow hk hb1 hb2 key v more hh hhas);have RW:=aa (λ(w':World) (h':DM w' Rb X gt aH p0 pt s tk (L0+(s.jZ key hs:Nat)) (upd Lc (s.y hs) (Lc (s.y hs)+(s.jY key hs:Nat))))=>DM.rowAt hrow h' hh);have AG:=aa (λ(w':World) (L2:Int) (Lc2:Nat->Int) (g cap base:Nat) (h':DM w' Rb X gt aH p0 pt (s.put key v hs more) tk L2 Lc2)=>DM.again (L0:=L0+(s.jZ key hs:Nat)) (Lc:=upd Lc (s.y hs) (Lc (s.y hs)+(s.jY key hs:Nat))) (g:=g) (cap:=cap) (base:=base) h');rw [Uu] at AG;generalize L0+(s.jZ key hs:Nat)=L1 at *
 generalize upd Lc (s.y hs) (Lc (s.y hs)+(s.jY key hs:Nat))=Re at *
 generalize (if s.mF key hs=true then (pt (s.y hs)).D else p0.D)=td at *
 have LK:=aa (λ(w':World) (h':DM w' Rb X gt aH p0 pt s tk L1 Re)=>h'.looks);clear h hrow;go_enter Tryz.func63,Tryz.ntmps63
 go_wp2_with (first|(go_at_call 117;((with_reducible refine (FI.out _ (HH.out.later (by go_grown))).mono ?_);rintro e w1 ⟨rfl,hd1,hc1⟩;have D1:=aa hd1;have C1:=aa hc1;have R6:=aa ((af.new w 46 #[.int .u64 key,.int .u64 v,.int .u64 (hs:Int)]).aA hc1 (mO _ (by omega)));have z1:w.heap.size+1<=w1.heap.size:=(by simpa using hc1.size);clear hd1 hc1))|(go_at_call 118;((with_reducible refine (LK.out _ (D1.out.later (by go_grown))).mono ?_);rintro e w2 ⟨g,cap,rfl,hrow2,hb2⟩;have B1:Below w1.heap.size w1 (w1.alloc (.cells #[.int .u64 k0,.int .u64 k1,.int .u64 k2] 46)):=(aM _ _).alloc (aL _) _;have D2:=aa ((D1.out.later B1).later hb2);have C2:=aa ((C1.out.au B1).au hb2);have MB:=aa ((R6.out.below B1 R6.out.lt).below hb2 (by have:=R6.out.lt;have:=B1.size;omega));have ROW:=aa hrow2;have hgB:B6<=g:=(by have:=(hrow2.lt g rfl).1;have:=B1.size;omega);have hgz:=(hrow2.lt g rfl).2;have hgx:=mO g hgB;have r6:=cells3 MB.out;have r60:=r6.1;have r61:=r6.2.1;have r62:=r6.2.2;have zr6:=MB.out.lt;clear r6 hrow2 hb2 B1)))
 have ai4:¬kT Rb X p0 pt s.k w.heap.size:=mO _ (by omega);refine ag (λb=>kT Rb X p0 pt s.k b) #[⟨0,0,2^39,1,0⟩,⟨0,0,2^40,16,0⟩,⟨2,2,2^41,2^40,1⟩,⟨5,7,2^42,(2^39+2^41),2⟩,⟨0,0,2^43,512,0⟩,⟨24,31,2^44,(2^42+2^43),0⟩,⟨32,63,2^45,2^44,1⟩,⟨0,0,2^46,16,1⟩,⟨200,255,2^47,(2^45+2^46),3⟩,⟨256,511,2^38,2^47,0⟩,⟨512,1023,2^48,2^38,0⟩,⟨512,1023,2^49,2^38,0⟩,⟨4095,4095,2048,2^49,0⟩] 196 [(0,0),(1,0),(2,1),(4,0),(7,1),(3,2),(5,0),(6,1),(8,3),(9,0),(10,0),(11,0),(12,0)] (by kernel_rfl) (by kernel_rfl) (by kernel_rfl) (by kernel_rfl) (by kernel_rfl) (by kernel_rfl) (λc a d v w h=>by cases d <;> exact h) ?_;refine aj ?_;refine aj ?_;refine bW Tryz.underlying38 ?_
 try refine aC ?_;refine aj ?_
 refine jR [_,_,_] Tryz.underlying46 ?_
 try refine aC ?_
 refine iK λK hK=>?_;go_wp2_with ((go_at_call 119;((with_reducible refine (RW.out _ (D2.out.later (aM _ _).drew)).mono ?_);rintro e w3 ⟨g3,n3,rfl,hn3,hg3,hz3,hc3,Vm⟩;have aiW:0<n3:=(by omega);have ai5:¬kT Rb X p0 pt s.k g3:=mO g3 (by have:=C2.out.size;simp at *;omega);have hb3:=Below.bS Vm;have D3:=aa (D2.out.later hb3);have C3:=aa (C2.out.au hb3);have R63:=aa (MB.out.below hb3 MB.out.lt);have aaI:=aa (aB ROW.out hb3);have q6:=cells3 R63.out;have q60:=q6.1;have q61:=q6.2.1;have q62:=q6.2.2;have zq6:=R63.out.lt;have agy:Below w2.heap.size w2.drew w3:=Vm;clear q6)));refine iX hK (h:=?_);clear hK K
 try refine aC ?_;refine aj ?_
 refine bW Tryz.underlying75 ?_
 try refine aC ?_
 refine fA λK hK=>?_;go_wp2_with ((go_at_call 65;((with_reducible refine (PF.out _ D3.out).mono ?_);rintro e w4 ⟨b4,rfl,L4,Lc4,hd4,hc4⟩;have D4:=aa hd4;have C4:=aa (C3.out.trans hc4);have aaH:=aa (gJ aaI.out hc4 (λb e=>by cases e;exact hgx));clear hd4)));refine hK.out _ _ ?_;clear hK K
 try refine aC ?_;refine aj ?_;refine aj ?_;refine aj ?_;refine aj ?_
 refine aD ?_
 go_wp2_with (first|(go_at_call 120;((with_reducible refine (AG.out _ L4 Lc4 g cap _ D4.out aaH.out hgx).mono ?_);rintro e w5 ⟨rfl,hd5,GD⟩;have D5:=aa hd5;have C5:=aa (C4.out.trans GD);clear hd5 GD)))
 go_ret2;exact ⟨rfl,D5.out,((ah.refl _ w).alloc _).trans C5.out⟩
theorem DM.put (h:DM w Rb X gt aH p0 pt s tk L0 Lc) (hk:s.y hs<s.k) (hL:0<=L0/\L0<=100000000) (jT:0<=Lc (s.y hs)/\Lc (s.y hs)<=100000000) (key v:Int) (more:Bool) (hh:hs<18446744073709551616) :
 Calls Tryz.prog 63 #[.pointer (some ⟨Rb,0,none⟩),.agg #[.int .u64 key,.int .u64 v,.int .u64 (hs:Int)],.bool more] w λe w' =>
  e = .returned (.tuple #[.bool (s.bB key hs more),.int .i64 ((s.bN key hs more:Nat):Int)])/\DM w' Rb X gt aH p0 pt (s.put key v hs more) tk (L0+s.jZ key hs) (upd Lc (s.y hs) (Lc (s.y hs)+s.jY key hs))/\ah (kT Rb X p0 pt s.k) w w':=by
 cases hhas:s.has key hs with
 | true =>
  have e1:s.bB key hs more=false:=by unfold DuS.bB;rw [hhas];rfl
  have e2:s.bN key hs more=0:=by unfold DuS.bN;rw [if_pos hhas]
  rw [e1,e2];exact h.adF hk hL jT key v more hh hhas
 | false =>
  cases more with
  | true=>exact h.adE hk hL jT key v hh hhas
  | false =>
   have e1:s.bB key hs false=false:=by unfold DuS.bB;rw [Bool.and_false,Bool.false_and]
   have e2:s.bN key hs false=2:=by unfold DuS.bN;rw [if_neg (by rw [hhas];simp),if_pos rfl]
   have h0:=hhas;unfold DuS.has at h0;rw [Bool.or_eq_false_iff] at h0;have e3:s.put key v hs false=s:=by unfold DuS.put;rw [h0.1,h0.2];rfl
   rw [e1,e2,e3];exact h.afZ hk hL jT key v hh hhas
end
def DuS.groups (s:DuS):Nat:=s.T.n+s.k*s.gn
def DuS.acT (s:DuS):Nat:=if s.bare=0 then s.groups else s.T.n
section
variable {w w':World} {Rb X gt aH:Nat} {p0:PB} {pt:Nat->PB} {s:DuS} {tk:Bool} {L0:Int} {Lc:Nat->Int} {hs:Nat}
theorem DM.groups (h:DM w Rb X gt aH p0 pt s tk L0 Lc) (hok:dW s):Calls Tryz.prog 130 #[.pointer (some ⟨Rb,0,none⟩)] w λe w' =>
 e = .returned (.tuple #[.int .i64 ((s.groups:Nat):Int),.int .i64 ((s.acT:Nat):Int)])/\w'=w:=by
 have hn:=hok.t.bounds;have hgb:=dZ hok.hr;have hk2:s.k<=2:=by rcases hok.hk with e|e <;> omega
 have HH:=aa h;have UN:=aa (λi hi=>(hok.u i hi).2);have r0:=h.hd.cell 0;have r1:=h.hd.cell 1;obtain ⟨c0,c1,c2,c3,zX,fX⟩:=eX h.r.v;obtain ⟨P,cap,d0⟩:=h.r.o.head;have zD:=h.r.o.lt;have zR:=h.hd.lt
 have LW':∀i,i<s.k->IntKind.i64.wrap (((s.T.n+i*s.gn:Nat):Int)+(s.gn:Int))=((s.T.n+(i+1)*s.gn:Nat):Int):=λi hi=>by
  have:i*s.gn<=2*64:=Nat.mul_le_mul (by omega) hgb.2;rw [IntKind.wrap_i64,Nat.succ_mul];omega
 clear h hok c2 fX;unfold DuS.acT DuS.groups;go_enter Tryz.func130,Tryz.ntmps130
 go_wp2
 go_loopw [4,28] (λv4 v28 wr => ∃i:Nat,i<=s.k/\v28 = .int .i64 (i:Int)/\v4 = .int .i64 ((s.T.n+i*s.gn:Nat):Int)/\wr=w) (λ_ v28 _=>s.k-(intOf v28).toNat)
 case atStart=>exact ⟨0,o7 _,rfl,by simp,rfl⟩
 case round =>
  obtain ⟨i,hi',rfl,rfl,rfl⟩:=hrel;by_cases hlt:i<s.k
  . have l0:=HH.out.r.v.l i hlt;have zG:=HH.out.r.v.lt;obtain ⟨P1,cap1,e1⟩:=(HH.out.r.t i hlt).head;rw [UN.out i hlt] at e1;have zT:=(HH.out.r.t i hlt).lt;have lw:=LW' i hlt;generalize s.T.n+i*s.gn=nn at *
    obtain ⟨nn1,ad2⟩:=dC (s.T.n+(i+1)*s.gn);rw [<-ad2] at lw;have aiV:(nn1:Int)=(s.T.n:Int)+((i:Int)+1)*(s.gn:Int):=by rw [ad2];simp
    clear ad2;go_wp2;exact ⟨⟨i+1,by omega,by simp,by simp [aiV],trivial⟩,by simp [intOf];omega⟩
  . obtain rfl:i=s.k:=by omega
    by_cases hb:s.bare=0
    . rw [hb] at r1;go_wp2;go_ret2;exact ⟨by simp [hb,go_sem],rfl⟩
    . have hbI:¬ (s.bare:Int)=0:=by omega
      go_wp2;go_ret2;exact ⟨by simp [hb,go_sem],rfl⟩
end
attribute [local go_sem] neq_nilG eql_nilG
section
variable {w:World} {lo hi D P cap:Nat} {GB:Nat->Nat} {T:ae} {L:Int}
theorem Tp (hd:DT w lo hi D P cap GB T L) :
 Calls Tryz.prog 69 #[.pointer (some ⟨D,0,none⟩)] w λe w' => ∃v,e = .returned v/\w'.ownsRow w.heap.size 46 3 v T.iG.length (cB T.iG)/\Below w.heap.size w w':=by
 have hbd:=hd.good.bounds;have HD:=aa hd;have hn:T.n<=64:=hbd.1;obtain ⟨c0,-,zD,-⟩:=il hd;have HL:=aa (Fu T);have HL8:=aa (λk=>lK (T.M k) (T.S k));rw [show T.iG=dN T T.n from rfl];obtain ⟨n,hnn⟩:=dC T.n;rw [<-hnn] at c0 hn ⊢;have HN:=aa hnn;clear hd hbd hnn;go_enter Tryz.func69,Tryz.ntmps69
 go_wp2
 go_loopw [12,3] (λv12 v3 wr => ∃k:Nat,k<=n/\v12 = .int .i64 (k:Int)/\wr.ownsRow w.heap.size 46 3 v3 (dN T k).length (cB (dN T k))/\Below w.heap.size w wr) (λv12 _ _=>n-(intOf v12).toNat)
 case atStart=>exact ⟨0,o7 _,rfl,⟨rfl,.inr ⟨w.heap.size,0,#[],rfl,aL _,af.new _ _ _,by simp [dN],by decide,rfl,by simp [dN,cB]⟩⟩,by go_grown⟩
 case round =>
  clear c0;obtain ⟨k,hk,rfl,hrow,hB⟩:=hrel;have KR:=aa hrow;have KB:=aa hB;obtain ⟨a3,ae1,rfl⟩:=bZ hrow;have hwz:=hB.size;have KD:=aa (HD.out.later hB);clear hrow hB;by_cases hlt:k<n
  . have kJ:(k:Int)<(n:Int):=by omega
    have hkT:k<T.n:=by have:=HN.out;omega
    have p0:=KD.out.ptr k hkT;have zP:=KD.out.pz;have TE:=aa (λ(w':World) (h':DW w' (GB k) (T.M k) (T.S k))=>Bv (GB k) (T.M k) (T.S k) w' h');have hl1:=HL.out k;have hl2:=HL8.out k;have HE:=aa (kN T k);generalize dN T k=l1 at *
    generalize aS (T.M k) (T.S k)=l2 at *
    go_wp2_with (first
     | (go_at_call 126;(with_reducible refine (TE.out _ (KD.out.g k hkT)).mono ?_);rintro e w3 ⟨v,rfl,hr3,hb3⟩;have C3:=aa hb3;have R3:=aa hr3;clear hr3 hb3)
     | (at_builtin;refine lN rfl _ _ rfl w.heap.size _ l1 rfl (aB KR.out C3.out) _ wr.heap.size l2 rfl R3.out (by omega) (by have:=C3.out.size;omega) ?_;intro v' w4 jr hb4 _;have R4:=aa jr;have B4:=aa hb4;clear jr hb4))
    go_roundw
    case rel=>exact ⟨k+1,by omega,by go_num,by rw [HE.out];exact R4.out,(KB.out.trans (C3.out.mono hwz)).trans B4.out⟩
    case measure=>simp [intOf];omega
  . obtain rfl:k=n:=by omega
    go_wp2;go_ret;exact ⟨_,rfl,KR.out,KB.out⟩
end
end Go.Proofs.YtolhmibejhldkaaGreatDoor
namespace Go.Proofs.YtolhmibejhldkaaGreatDoor
open Go.RowKit Go.Proofs
section
variable {w w':World} {Rb X gt aH:Nat} {p0:PB} {pt:Nat->PB} {s:DuS} {tk:Bool} {L0:Int} {Lc:Nat->Int} {hs:Nat}
theorem DX.all {lo hi D:Nat} {T:ae} {L:Int} (h:DX w lo hi D T L):Calls Tryz.prog 69 #[.pointer (some ⟨D,0,none⟩)] w λe w' => ∃v,e = .returned v/\w'.ownsRow w.heap.size 46 3 v T.iG.length (cB T.iG)/\Below w.heap.size w w':=by
 obtain ⟨P,cap,GB,h⟩:=h;exact Tp h
theorem J6 {s:DuS} (h:dW s):∀i,i<=s.k->(s.all i).length<=512*(i+1)
 | 0,_=>by
  show s.T.iG.length<=_
  have h1:=kM h.t;have:=h.t.bounds;omega
 | i+1,hi=>by
  have h0:=J6 h i (by omega);have h1:=kM (h.u i (by omega)).1;have:=(h.u i (by omega)).1.bounds;show (s.all i ++ (s.U i).iG).length<=_
  rw [List.length_append];omega
theorem DM.all (h:DM w Rb X gt aH p0 pt s tk L0 Lc) (hok:dW s):Calls Tryz.prog 68 #[.pointer (some ⟨Rb,0,none⟩)] w λe w' =>
 ∃v,e = .returned v/\w'.ownsRow w.heap.size 46 3 v (s.all s.k).length (cB (s.all s.k))/\Below w.heap.size w w':=by
 have hk2:s.k<=2:=by rcases h.r.v.hk with e|e <;> omega
 have HH:=aa h;have HAL:=aa (J6 hok);have r0:=h.hd.cell 0;obtain ⟨c0,c1,c2,c3,zX,fX⟩:=eX h.r.v;have zD:=h.r.o.lt;have zR:=h.hd.lt;have A0:=aa h.r.o.all
 have HUL:=aa (show ∀i,i<s.k->(s.U i).iG.length<=512 from λi hi=>by
  have h1:=kM (hok.u i hi).1;have:=(hok.u i hi).1.bounds
  omega)
 have HSA:=aa (show ∀i,s.all (i+1)=s.all i ++ (s.U i).iG from λi=>rfl);rw [show s.T.iG=s.all 0 from rfl] at A0;obtain ⟨k,hkk⟩:=dC s.k;rw [<-hkk] at c1 hk2 HAL HUL ⊢;have HKK:=aa hkk;clear h hok c2 hkk;go_enter Tryz.func68,Tryz.ntmps68
 go_upto_region 2 with (go_at_call 69;(with_reducible refine A0.out.mono ?_);rintro e w1 ⟨v1,rfl,hr1,hb1⟩;have R1:=aa hr1;have B1:=aa hb1;have H1:=HH.out.later hb1;have r1:=H1.hd.cell 0;have q1:=eX H1.r.v;have QE:=q1.1;have KI:=q1.2.1;have z1X:=q1.2.2.2.2.1;have zR1:=H1.hd.lt;clear hr1 hb1 H1 q1)
 rw [<-HKK.out] at KI;go_wp2
 go_loopw [22,3] (λv22 v3 wr => ∃i:Nat,i<=k/\v22 = .int .i64 (i:Int)/\wr.ownsRow w.heap.size 46 3 v3 (s.all i).length (cB (s.all i))/\Below w.heap.size w wr) (λv22 _ _=>k-(intOf v22).toNat)
 case atStart=>exact ⟨0,o7 _,rfl,R1.out,B1.out⟩
 case round =>
  clear R1 B1 r1 QE KI z1X zR1;obtain ⟨i,hi',rfl,hrow,hB⟩:=hrel;have Ha:=aa hrow;have HB:=aa hB;have QM:=hB.size;by_cases hlt:i<k
  . have hik:i<s.k:=by rw [<-HKK.out];exact hlt
    have HA:=aa (HH.out.later hB);have l0:=HA.out.r.v.l i hik;have zG:=HA.out.r.v.lt;have zT:=(HA.out.r.t i hik).lt;have AI:=aa (HA.out.r.t i hik).all;have hl1:=HAL.out i hi';have hl2:=HUL.out i hlt;have HS1:=aa (HSA.out i);have hiI:(i:Int)<(k:Int):=by omega
    obtain ⟨l1,ad4⟩:=dC (s.all i);obtain ⟨l2,ad3⟩:=dC ((s.U i).iG);rw [<-ad4] at hl1 Ha;rw [<-ad3] at hl2 AI;have Gx:=aa ad4;have HL2:=aa ad3;clear hrow hB ad4 ad3 hik
    go_wp2_with (first
     | (go_at_call 69;(with_reducible refine AI.out.mono ?_);rintro e w3 ⟨v,rfl,hr3,hb3⟩;have C3:=aa hb3;have R3:=aa hr3;clear hr3 hb3)
     | (at_builtin;refine lN rfl _ _ rfl w.heap.size _ l1 rfl (aB Ha.out C3.out) _ wr.heap.size l2 rfl R3.out (by omega) (by have:=C3.out.size;omega) ?_;intro v' w4 jr hb4 _;have R4:=aa jr;have B4:=aa hb4;clear jr hb4))
    go_roundw
    case rel=>exact ⟨i+1,by omega,by go_num,by rw [HS1.out,<-Gx.out,<-HL2.out];exact R4.out,(HB.out.trans (C3.out.mono QM)).trans B4.out⟩
    case measure=>simp [intOf];omega
  . obtain rfl:i=k:=by omega
    clear hrow hB;go_wp2;go_ret;exact ⟨_,rfl,Ha.out,HB.out⟩
end
attribute [local go_sem] neq_nilG eql_nilG
structure DMN (wr:World) (Rb X gn j:Nat) (dp:Int) (D0:Nat) (vt:Value) (pt:Nat->PB) (base:Nat):Prop where
 hd:af wr Rb 138 #[.pointer (some ⟨X,0,none⟩),.int .i64 ((j*gn:Nat):Int),.bool false]
 x:af wr X 135 #[.pointer (some ⟨D0,0,none⟩),vt,.int .i64 dp,.int .i64 0]
 r:wr.ownsRow base 75 1 vt j ((List.range j).map (λi=>Value.pointer (some ⟨(pt i).D,0,none⟩)))
 t:∀i,i<j->DX wr (pt i).mid (pt i).hi (pt i).D (ae.new gn) 0
 iv:∀i,i<j->base<=(pt i).mid
 up:∀i l,i<l->l<j->(pt i).hi<=(pt l).mid
 rb:∀b,vt.ownBlock=some b->∀i,i<j->b<(pt i).mid\/(pt i).hi<=b
 lo:X<base/\Rb<base/\X≠Rb
section
variable {w w' w1 w5:World} {Rb X gn j D0 base D:Nat} {dp:Int} {vt v5:Value} {pt:Nat->PB}
theorem DMN.later (h:DMN w Rb X gn j dp D0 vt pt base) (hb:Below w.heap.size w w'):DMN w' Rb X gn j dp D0 vt pt base :=
 ⟨h.hd.below hb h.hd.lt,h.x.below hb h.x.lt,aB h.r hb,λi hi=>(h.t i hi).later hb,h.iv,h.up,h.rb,h.lo⟩
theorem DMN.more {z:Nat} (h:DMN w Rb X gn j dp D0 vt pt base) (hbz:base<=w.heap.size) (hb1:Below w.heap.size w w1) (o:Obj) (ht:DX w1 w.heap.size w1.heap.size D (ae.new gn) 0) (hg:ah (λb=>vt.ownBlock=some b) (w1.alloc o) w5)
 (hrow:w5.ownsRow base 75 1 v5 (j+1) ((List.range j).map (λi=>Value.pointer (some ⟨(pt i).D,0,none⟩)) ++ [.pointer (some ⟨D,0,none⟩)])) (hfr:v5.ownBlock=vt.ownBlock\/v5.ownBlock=some z) (hz:w1.heap.size<=z) :
 DMN ((w5.setCell ⟨X,1,none⟩ v5).setCell ⟨Rb,1,none⟩ (.int .i64 (((j+1)*gn:Nat):Int))) Rb X gn (j+1) dp D0 v5 (upd pt j ⟨w.heap.size,w.heap.size,w1.heap.size,0,0,D⟩) base/\ah (λb=>b=X\/b=Rb\/base<=b) w ((w5.setCell ⟨X,1,none⟩ v5).setCell ⟨Rb,1,none⟩ (.int .i64 (((j+1)*gn:Nat):Int))):=by
 have hlo:=h.lo;have hz1:=hb1.size;have hbA:Below w.heap.size w (w1.alloc o):=hb1.alloc hz1 o;have hown:∀b,vt.ownBlock=some b->base<=b/\b<w.heap.size:=λb hb=>h.r.lt b hb;have hXv:¬vt.ownBlock=some X/\¬vt.ownBlock=some Rb:=⟨λhb=>by have:=hown _ hb;omega,λhb=>by have:=hown _ hb;omega⟩
 have hC:ah (λb=>vt.ownBlock=some b\/b=X\/b=Rb) (w1.alloc o) ((w5.setCell ⟨X,1,none⟩ v5).setCell ⟨Rb,1,none⟩ (.int .i64 (((j+1)*gn:Nat):Int))) :=
  (((hg.mono (λb _ e => .inl e)).setCell (.inl (.inr (.inl rfl))) v5).setCell (.inl (.inr (.inr rfl))) _)
 have hC5:ah (λb=>b=X\/b=Rb) w5 ((w5.setCell ⟨X,1,none⟩ v5).setCell ⟨Rb,1,none⟩ (.int .i64 (((j+1)*gn:Nat):Int))) :=
  (((ah.refl _ w5).setCell (.inl (.inl rfl)) v5).setCell (.inl (.inr rfl)) _)
 refine ⟨⟨?_,?_,?_,λi hi=>?_,λi hi=>?_,λi l hil hl=>?_,λb hb i hi=>?_,hlo⟩,?_⟩
 . exact ((((h.hd.below hb1 h.hd.lt).alloc o).aA hg hXv.2).other hlo.2.2.symm 1 v5).set 1 _
 . exact ((((h.x.below hb1 h.x.lt).alloc o).aA hg hXv.1).set 1 v5).other hlo.2.2 1 _
 . have h1:=gJ hrow hC5 (λb hb e=>by have:=(hrow.lt b hb).1;omega);rw [List.range_succ,List.map_append]
   have e1:(List.range j).map (λi=>Value.pointer (some ⟨(upd pt j ⟨w.heap.size,w.heap.size,w1.heap.size,0,0,D⟩ i).D,0,none⟩))=(List.range j).map (λi=>Value.pointer (some ⟨(pt i).D,0,none⟩)) :=
    List.map_congr_left λi hi=>by rw [ay _ _ (Nat.ne_of_lt (List.mem_range.1 hi))]
   rw [e1];simp only [List.map_cons,List.map_nil,upd_same];exact h1
 . by_cases e:i=j
   . subst e;rw [upd_same];refine (ht.later ((aM _ _).alloc (aL _) o)).aA hC (λb h1 h2 e=>?_);rcases e with e|e|e
     . have:=hown b e;omega
     . omega
     . omega
   . rw [ay _ _ e];have hij:i<j:=by omega
     refine ((h.t i hij).later hbA).aA hC (λb h1 h2 e=>?_);have:=h.iv i hij;rcases e with e|e|e
     . have:=h.rb b e i hij;omega
     . omega
     . omega
 . by_cases e:i=j
   . subst e;rw [upd_same];exact hbz
   . rw [ay _ _ e];exact h.iv i (by omega)
 . by_cases e:l=j
   . subst e;rw [upd_same,ay _ _ (by omega)];exact (h.t i hil).hz
   . rw [ay _ _ e,ay _ _ (by omega)];exact h.up i l hil (by omega)
 . rcases hfr with e|e
   . rw [e] at hb;by_cases e2:i=j
     . subst e2;rw [upd_same];exact .inl (hown b hb).2
     . rw [ay _ _ e2];exact h.rb b hb i (by omega)
   . rw [e] at hb;obtain rfl:z=b:=Option.some.inj hb;by_cases e2:i=j
     . subst e2;rw [upd_same];exact .inr hz
     . rw [ay _ _ e2];have:=(h.t i (by omega)).hz;exact .inr (by omega)
 . exact (ah.of_below hbA).trans (hC.mono (λb _ e=>by
    rcases e with e|e|e
    . exact .inr (.inr (hown b e).1)
    . exact .inl e
    . exact .inr (.inl e)))
end
theorem QY {w:World} {p0:PB} {Rb X gt sF j d gn D0 base z:Nat} {dp:Int} {T:ae} {L0:Int} {pt:Nat->PB} (h:DMN w Rb X gn j dp D0 (.slice (some ⟨gt,0,none⟩) j sF) pt base) (ho:DX w p0.mid p0.hi p0.D T L0) (hD:D0=p0.D) (hkd:(j=1/\dp<0/\d=0)\/(j=2/\dp=(d:Int)/\d<=15)) (hoz:p0.hi<=z) (hz:z<=X/\X<Rb/\Rb<base) (hg:base<=gt) (hgl:gt<w.heap.size)
 (hl:∀i,i<j->w.cell? ⟨gt,i,none⟩=some (.pointer (some ⟨(pt i).D,0,none⟩))):DM w Rb X gt sF p0 pt (DuS.lg j d gn T) false L0 (λ_=>0):=by
 have hx:∀b,ZD p0 pt j b->b≠X/\b≠gt/\b≠Rb:=λb e=>by
  rcases e with ⟨e1,e2⟩ | ⟨i,hi,e1,e2⟩
  . omega
  . have h1:=h.iv i hi;have h2:=h.rb gt rfl i hi;omega
 have hxx:=h.x;rw [hD] at hxx;exact ⟨h.hd,⟨⟨⟨dp,λe=>(by have e':j=2:=e;show dp=(d:Int);omega),hxx⟩,hl,hgl,by show j=1\/(j=2/\d<=15);omega⟩,ho,h.t,λi hi=>by have:=h.iv i hi;omega,λi l h1 h2=>h.up i l h1 h2,λb e=>⟨(hx b e).1,(hx b e).2.1⟩⟩,⟨by omega,by omega,λb e=>(hx b e).2.2⟩⟩
theorem Gr (w:World) (T:TypeId) (x:Value):∀j u,[x][j]?=some u->(w.alloc (.cells #[x] T)).drew.cell? ((⟨w.heap.size,0,none⟩:Addr).add j)=some u:=nP w x T
theorem Mm {w:World} {p0:PB} {k d gn:Nat} {T:ae} {L0:Int} (dp:Int) (hkd:(k=1/\dp<0/\d=0)\/(k=2/\dp=(d:Int)/\d<=15)) (hr:aN (gn:Int)=true) (ho:DX w p0.mid p0.hi p0.D T L0) :
 Calls Tryz.prog 78 #[.pointer (some ⟨p0.D,0,none⟩),.int .i64 (gn:Int),.int .i64 dp] w λe w' => ∃ (Rb X gt aH:Nat) (pt:Nat->PB),e = .returned (.tuple #[.pointer (some ⟨Rb,0,none⟩),.int .i64 0])/\
  DM w' Rb X gt aH p0 pt (DuS.lg k d gn T) false L0 (λ_=>0)/\w.heap.size<=Rb/\w.heap.size<=X/\w.heap.size<=gt/\(∀i,i<k->w.heap.size<=(pt i).mid)/\Below w.heap.size w w':=by
 obtain ⟨iD,JJ,agh,agf,age⟩:=info_parts adR;have ND:=aa (λ(w':World)=>Mj gn hr w');have RG:=aa (λ(w':World)=>dx (gn:Int) w');rw [hr] at RG;have HO:=aa ho;have hgb:=dZ hr;have am5:k=1\/k=2:=by omega
 have hoz:=ho.hz;have hoi:=ho.id;have HKD:=aa hkd;obtain ⟨D0,hD0⟩:=dC p0.D;rw [<-hD0];replace hD0:=aa hD0;have d15:decide (15<dp)=false:=by simp;omega
 have h15:¬15<dp:=by omega
 have h0c:(dp>=0/\k=2)\/(¬dp>=0/\k=1):=by omega
 clear hr ho hkd;go_enter Tryz.func78,Tryz.ntmps78
 go_upto_region 7 with (go_at_call 113;(with_reducible refine (RG.out _).mono ?_);rintro e w' ⟨rfl,rfl⟩)
 refine bG (λw1 hw1=>?_);obtain ⟨X,hX⟩:=dC w.heap.size;obtain ⟨Rb,hRb⟩:=dC (X+1);obtain ⟨base,hbase⟩:=dC (X+2);have hb1:Below w.heap.size w w1:=by rw [hw1];go_grown
 have hz1:w1.heap.size=base:=by rw [hw1,hbase,hX];simp
 have N1:=aa (show DMN w1 Rb X gn 0 dp D0 (.slice none 0 0) (λ_=>p0) base from by
  refine ⟨?_,?_,⟨by simp,.inl ⟨rfl,rfl⟩⟩,λi hi=>by omega,λi hi=>by omega,λi l h1 h2=>by omega,(λb hb=>by cases hb),by omega⟩
  . rw [hw1,hRb,hX,Nat.zero_mul];exact af.aF (by simp)
  . rw [hw1,hX];exact (af.new _ _ _).alloc _)
 have B1:=aa hb1;simp only [<-hX,<-hRb];replace hw1:=aa hw1;replace hX:=aa hX;replace hRb:=aa hRb;have hbX:w.heap.size<=X/\X<Rb/\Rb<base/\base<=w1.heap.size:=by have:=hX.out;have:=hRb.out;omega
 obtain ⟨ano,ann,anm,anl⟩:=hbX;replace hbase:=aa hbase;clear hb1 d15 h15 hz1;rcases h0c with ⟨h0,hk2⟩ | ⟨h0,hk1⟩
 . have hd0:decide (dp>=0)=true:=decide_eq_true h0;have Qs:=aa (show k=2 from hk2);clear hk2;go_wp2;go_loopg [10] k (λgk v10 wr => ∃ (j:Nat) (vt:Value) (pt:Nat->PB),j+gk=k/\v10 = .int .i64 (j:Int)/\DMN wr Rb X gn j dp D0 vt pt base/\Below w.heap.size w wr/\base<=wr.heap.size)
   case atStart=>exact ⟨0,_,_,by omega,rfl,N1.out,B1.out,by omega⟩
   case round =>
    clear N1 B1;obtain ⟨j,vt,pt,hj,rfl,hN,hB,hbw⟩:=hrel;have KN:=aa hN;have KB:=aa hB;obtain ⟨ta,aH,rfl⟩:=bZ hN.r;clear hN hB;by_cases hlt:j<k
    . have kJ:(j:Int)<2:=by have:=Qs.out;omega
      have ad9:¬ (Value.slice ta j aH).ownBlock=some X:=λe=>by have:=(KN.out.r.lt X e).1;omega
      have aea:¬ (Value.slice ta j aH).ownBlock=some Rb:=λe=>by have:=(KN.out.r.lt Rb e).1;omega
      have hXR:X≠Rb:=by omega
      obtain ⟨jg,hjg⟩:∃jg:Int,jg=((j*gn:Nat):Int):=⟨_,rfl⟩
      have ai1:0<=jg/\jg<=128:=by
       have h1:j*gn<=2*64:=Nat.mul_le_mul (by omega) hgb.2;omega
      have HJG:=aa (show (((j+1)*gn:Nat):Int)=jg+(gn:Int) from by rw [Nat.add_mul,Nat.one_mul,hjg];omega);have hw2:IntKind.i64.wrap (jg+(gn:Int))=jg+(gn:Int):=by rw [IntKind.wrap_i64];omega
      have HJ0:=aa hjg.symm;clear hjg;go_upto_region 13 with (go_at_call 60;(with_reducible refine (ND.out _).mono ?_);rintro e w4 ⟨D,P1,cap1,GB1,rfl,hdt,hb4⟩;have T4:=aa (show DX w4 wr.heap.size w4.heap.size D (ae.new gn) 0 from ⟨P1,cap1,GB1,hdt⟩);have B4:=aa hb4;have K4:=aa (KN.out.later hb4);have r4:=K4.out.hd.cell 0;have x41:=K4.out.x.cell 1;have zr4:=K4.out.hd.lt;have zx4:=K4.out.x.lt;have fx4:=λj=>K4.out.x.frozen j;have fr4:=λj=>K4.out.hd.frozen j;have r41:w4.cell? ⟨Rb,1,none⟩=some (.int .i64 jg):=(K4.out.hd.cell 1).trans (by rw [<-HJ0.out];rfl);have z4:=hb4.size;clear hdt hb4)
      have hcd:=ah.lL (λb=>(Value.slice ta j aH).ownBlock=some b) w4 (.cells #[.pointer (some ⟨D,0,none⟩)] 75);refine ag (λb=>(Value.slice ta j aH).ownBlock=some b) #[⟨0,0,2^40,256,0⟩,⟨1,1,2^41,2^40,0⟩,⟨2,3,2^42,2^41,0⟩,⟨4,7,2^43,2^42,1⟩,⟨0,0,2^44,256,0⟩,⟨16,16,2^45,2^44,0⟩,⟨32,48,2^46,2^45,0⟩,⟨64,112,2^47,2^46,1⟩,⟨128,240,2^48,2^47,0⟩,⟨256,496,2^49,2^48,0⟩,⟨512,1008,2^50,2^49,1⟩,⟨0,0,2^51,2048,0⟩,⟨2048,2048,2^52,2^51,2⟩,⟨5120,8176,2^53,(2^50+2^52),2⟩,⟨16383,16383,2^54,2^43,0⟩,⟨32767,32767,2^55,2^54,0⟩,⟨49151,65535,0,(2^53+2^55),3⟩] 1160 [(0,0),(1,0),(2,0),(3,1),(4,0),(5,0),(6,0),(7,1),(8,0),(9,0),(10,1),(11,0),(12,2),(13,2),(14,0),(15,0),(16,3)] (by kernel_rfl) (by kernel_rfl) (by kernel_rfl) (by kernel_rfl) (by kernel_rfl) (by kernel_rfl) (λc a d v w h=>by cases d <;> exact h) ?_;refine aj ?_;refine aj ?_;refine aj ?_;refine bW Tryz.underlying136 ?_
      try refine aC ?_;refine aj ?_;refine aj ?_;refine aj ?_
      refine bW Tryz.underlying136 ?_
      try refine aC ?_;refine aj ?_;refine aj ?_
      refine bW Tryz.underlying133 ?_
      try refine aC ?_;refine aj ?_
      refine iK λK hK=>?_;go_wp2_with (fail);refine iX hK (h:=?_);clear hK K
      try refine aC ?_
      refine iK λK hK=>?_;(refine aQ _ _ 133 rfl base 75 iD (.pointer none) 1 8 Tryz.underlying133 JJ agh agf age rfl (by decide) _ _ _ rfl (aB K4.out.r ((aM _ _).alloc (aL _) _).drew) ⟨w4.heap.size,0,none⟩ 1 1 [.pointer (some ⟨D,0,none⟩)] rfl rfl (Gr w4 _ _) (by simp [Value.oneCell']) (by unfold maxLen;omega) (by omega) (by simp;omega) (by decide) ?_;intro v5 w5 hown5 aP ic;obtain ⟨g5,LV,rfl⟩:=ownsRow_succ hown5;have NV:ah (λb=>(Value.slice ta j aH).ownBlock=some b) (World.drew (w4.alloc (.cells #[.pointer (some ⟨D,0,none⟩)] 75))) w5:=ah.fC aP;have R5:=aa hown5;have F5:=aa ic;have CG5:=aa NV;have K5x:=(K4.out.x.alloc (.cells #[.pointer (some ⟨D,0,none⟩)] 75)).drew.aA NV ad9;have K5r:=(K4.out.hd.alloc (.cells #[.pointer (some ⟨D,0,none⟩)] 75)).drew.aA NV aea;have x51:=K5x.cell 1;have r51:w5.cell? ⟨Rb,1,none⟩=some (.int .i64 jg):=(K5r.cell 1).trans (by rw [<-HJ0.out];rfl);have r50:=K5r.cell 0;have zx5:=K5x.lt;have zr5:=K5r.lt;have fx5:=λj=>K5x.frozen j;have fr5:=λj=>K5r.frozen j;clear hown5 aP ic K5x K5r);refine iX hK (h:=?_);clear hK K
      try refine aC ?_;refine aj ?_;refine aj ?_
      refine fA λK hK=>?_;go_wp2_with (fail);refine hK.out _ _ ?_;clear hK K
      try refine aC ?_
      refine aD ?_;go_wp2;go_roundg (gk-1)
      case measure=>omega
      case rel =>
       obtain ⟨m1,m2⟩:=KN.out.more (w1:=w4.drew) hbw B4.out.drew (.cells #[.pointer (some ⟨D,0,none⟩)] 75) (T4.out.later (aM _ _).drew) CG5.out R5.out F5.out (by simp);rw [HJG.out] at m1 m2;exact ⟨j+1,_,_,by omega,by go_num,m1,KB.out.trans (m2.below KB.out.size (λb hb e=>by omega)),qH hbw m2.size⟩
    . obtain rfl:j=k:=by omega
      obtain ⟨gt,sF,cur,hvb,hbg,hgB,hcell⟩:=jo KN.out.r (by omega);cases hvb
      have hnl:¬ ((j:Int)<2):=by have:=Qs.out;omega
      have Qr:=aa (QY KN.out (HO.out.later KB.out) hD0.out HKD.out hoz (by omega) hbg hgB.lt hcell);have hgz:w.heap.size<=gt:=by omega
      clear hcell hgB;go_wp2;go_ret2
      (exact ⟨Rb,rfl,X,gt,aH,pt,Qr.out,by omega,by omega,by omega,λi hi=>by have:=KN.out.iv i hi;omega,KB.out⟩)
 . have hd0:decide (dp>=0)=false:=decide_eq_false (by omega);have hd1:¬0<=dp:=by omega
   have Qs:=aa (show k=1 from hk1);clear hk1;go_wp2;go_loopg [10] k (λgk v10 wr => ∃ (j:Nat) (vt:Value) (pt:Nat->PB),j+gk=k/\v10 = .int .i64 (j:Int)/\DMN wr Rb X gn j dp D0 vt pt base/\Below w.heap.size w wr/\base<=wr.heap.size)
   case atStart=>exact ⟨0,_,_,by omega,rfl,N1.out,B1.out,by omega⟩
   case round =>
    clear N1 B1;obtain ⟨j,vt,pt,hj,rfl,hN,hB,hbw⟩:=hrel;have KN:=aa hN;have KB:=aa hB;obtain ⟨ta,aH,rfl⟩:=bZ hN.r;clear hN hB;by_cases hlt:j<k
    . have kJ:(j:Int)<1:=by have:=Qs.out;omega
      have ad9:¬ (Value.slice ta j aH).ownBlock=some X:=λe=>by have:=(KN.out.r.lt X e).1;omega
      have aea:¬ (Value.slice ta j aH).ownBlock=some Rb:=λe=>by have:=(KN.out.r.lt Rb e).1;omega
      have hXR:X≠Rb:=by omega
      obtain ⟨jg,hjg⟩:∃jg:Int,jg=((j*gn:Nat):Int):=⟨_,rfl⟩
      have ai1:0<=jg/\jg<=128:=by
       have h1:j*gn<=2*64:=Nat.mul_le_mul (by omega) hgb.2;omega
      have HJG:=aa (show (((j+1)*gn:Nat):Int)=jg+(gn:Int) from by rw [Nat.add_mul,Nat.one_mul,hjg];omega);have hw2:IntKind.i64.wrap (jg+(gn:Int))=jg+(gn:Int):=by rw [IntKind.wrap_i64];omega
      have HJ0:=aa hjg.symm;clear hjg;go_upto_region 13 with (go_at_call 60;(with_reducible refine (ND.out _).mono ?_);rintro e w4 ⟨D,P1,cap1,GB1,rfl,hdt,hb4⟩;have T4:=aa (show DX w4 wr.heap.size w4.heap.size D (ae.new gn) 0 from ⟨P1,cap1,GB1,hdt⟩);have B4:=aa hb4;have K4:=aa (KN.out.later hb4);have r4:=K4.out.hd.cell 0;have x41:=K4.out.x.cell 1;have zr4:=K4.out.hd.lt;have zx4:=K4.out.x.lt;have fx4:=λj=>K4.out.x.frozen j;have fr4:=λj=>K4.out.hd.frozen j;have r41:w4.cell? ⟨Rb,1,none⟩=some (.int .i64 jg):=(K4.out.hd.cell 1).trans (by rw [<-HJ0.out];rfl);have z4:=hb4.size;clear hdt hb4)
      have hcd:=ah.lL (λb=>(Value.slice ta j aH).ownBlock=some b) w4 (.cells #[.pointer (some ⟨D,0,none⟩)] 75);refine ag (λb=>(Value.slice ta j aH).ownBlock=some b) #[⟨0,0,2^40,256,0⟩,⟨1,1,2^41,2^40,0⟩,⟨2,3,2^42,2^41,0⟩,⟨4,7,2^43,2^42,1⟩,⟨0,0,2^44,256,0⟩,⟨16,16,2^45,2^44,0⟩,⟨32,48,2^46,2^45,0⟩,⟨64,112,2^47,2^46,1⟩,⟨128,240,2^48,2^47,0⟩,⟨256,496,2^49,2^48,0⟩,⟨512,1008,2^50,2^49,1⟩,⟨0,0,2^51,2048,0⟩,⟨2048,2048,2^52,2^51,2⟩,⟨5120,8176,2^53,(2^50+2^52),2⟩,⟨16383,16383,2^54,2^43,0⟩,⟨32767,32767,2^55,2^54,0⟩,⟨49151,65535,0,(2^53+2^55),3⟩] 1160 [(0,0),(1,0),(2,0),(3,1),(4,0),(5,0),(6,0),(7,1),(8,0),(9,0),(10,1),(11,0),(12,2),(13,2),(14,0),(15,0),(16,3)] (by kernel_rfl) (by kernel_rfl) (by kernel_rfl) (by kernel_rfl) (by kernel_rfl) (by kernel_rfl) (λc a d v w h=>by cases d <;> exact h) ?_;refine aj ?_;refine aj ?_;refine aj ?_;refine bW Tryz.underlying136 ?_
      try refine aC ?_;refine aj ?_;refine aj ?_;refine aj ?_
      refine bW Tryz.underlying136 ?_
      try refine aC ?_;refine aj ?_;refine aj ?_
      refine bW Tryz.underlying133 ?_
      try refine aC ?_;refine aj ?_
      refine iK λK hK=>?_;go_wp2_with (fail);refine iX hK (h:=?_);clear hK K
      try refine aC ?_
      refine iK λK hK=>?_;(refine aQ _ _ 133 rfl base 75 iD (.pointer none) 1 8 Tryz.underlying133 JJ agh agf age rfl (by decide) _ _ _ rfl (aB K4.out.r ((aM _ _).alloc (aL _) _).drew) ⟨w4.heap.size,0,none⟩ 1 1 [.pointer (some ⟨D,0,none⟩)] rfl rfl (Gr w4 _ _) (by simp [Value.oneCell']) (by unfold maxLen;omega) (by omega) (by simp;omega) (by decide) ?_;intro v5 w5 hown5 aP ic;obtain ⟨g5,LV,rfl⟩:=ownsRow_succ hown5;have NV:ah (λb=>(Value.slice ta j aH).ownBlock=some b) (World.drew (w4.alloc (.cells #[.pointer (some ⟨D,0,none⟩)] 75))) w5:=ah.fC aP;have R5:=aa hown5;have F5:=aa ic;have CG5:=aa NV;have K5x:=(K4.out.x.alloc (.cells #[.pointer (some ⟨D,0,none⟩)] 75)).drew.aA NV ad9;have K5r:=(K4.out.hd.alloc (.cells #[.pointer (some ⟨D,0,none⟩)] 75)).drew.aA NV aea;have x51:=K5x.cell 1;have r51:w5.cell? ⟨Rb,1,none⟩=some (.int .i64 jg):=(K5r.cell 1).trans (by rw [<-HJ0.out];rfl);have r50:=K5r.cell 0;have zx5:=K5x.lt;have zr5:=K5r.lt;have fx5:=λj=>K5x.frozen j;have fr5:=λj=>K5r.frozen j;clear hown5 aP ic K5x K5r);refine iX hK (h:=?_);clear hK K
      try refine aC ?_;refine aj ?_;refine aj ?_
      refine fA λK hK=>?_;go_wp2_with (fail);refine hK.out _ _ ?_;clear hK K
      try refine aC ?_
      refine aD ?_;go_wp2;go_roundg (gk-1)
      case measure=>omega
      case rel =>
       obtain ⟨m1,m2⟩:=KN.out.more (w1:=w4.drew) hbw B4.out.drew (.cells #[.pointer (some ⟨D,0,none⟩)] 75) (T4.out.later (aM _ _).drew) CG5.out R5.out F5.out (by simp);rw [HJG.out] at m1 m2;exact ⟨j+1,_,_,by omega,by go_num,m1,KB.out.trans (m2.below KB.out.size (λb hb e=>by omega)),qH hbw m2.size⟩
    . obtain rfl:j=k:=by omega
      obtain ⟨gt,sF,cur,hvb,hbg,hgB,hcell⟩:=jo KN.out.r (by omega);cases hvb
      have hnl:¬ ((j:Int)<1):=by have:=Qs.out;omega
      have Qr:=aa (QY KN.out (HO.out.later KB.out) hD0.out HKD.out hoz (by omega) hbg hgB.lt hcell);have hgz:w.heap.size<=gt:=by omega
      clear hcell hgB;go_wp2;go_ret2
      (exact ⟨Rb,rfl,X,gt,aH,pt,Qr.out,by omega,by omega,by omega,λi hi=>by have:=KN.out.iv i hi;omega,KB.out⟩)
end Go.Proofs.YtolhmibejhldkaaGreatDoor
namespace Go.Proofs.YtolhmibejhldkaaGreatDoor
open Go.RowKit Go.Proofs
structure jQ (s:DuS) (H:Int->Nat) (m:Int):Prop where
 f:sO s H
 c:s.T.lv+dS s.U s.k<=m
section
variable {s:DuS} {H:Int->Nat} {m:Int}
theorem jQ.more {m':Int} (h:jQ s H m) (hm:m<=m'):jQ s H m':=⟨h.f,Int.le_trans h.c hm⟩
theorem jQ.k12 (h:jQ s H m):s.k=1\/s.k=2:=by have:=h.f.ok.hk;omega
theorem jQ.put (h:jQ s H m) (q v:Int) (hh:H q<18446744073709551616) (more:Bool):jQ (s.put q v (H q) more) H (m+1):=by
 refine ⟨h.f.put q v hh more,?_⟩;have hy:=h.f.ok.yk (H q);have hc:=h.c
 have u1:dS (upd s.U (s.y (H q)) ((s.U (s.y (H q))).aR q v (H q))) s.k<=dS s.U s.k+1:=by
  rw [kr h.k12 hy,((h.f.u.f _ hy).j6 q v).1];split <;> omega
 have t1:(s.T.aR q v (H q)).lv<=s.T.lv+1:=by rw [(h.f.t.j6 q v).1];split <;> omega
 unfold DuS.put;split
 . show s.T.lv+dS (upd s.U (s.y (H q)) _) s.k<=_;omega
 . split
   . show (s.T.aR q v (H q)).lv+dS s.U s.k<=_;omega
   . split
     . show s.T.lv+dS s.U s.k<=_;omega
     . split
       . show s.T.lv+dS (upd s.U (s.y (H q)) _) s.k<=_;omega
       . show (s.T.aR q v (H q)).lv+dS s.U s.k<=_;omega
theorem jQ.del (h:jQ s H m) (q:Int):jQ (s.del q (H q)) H m:=by
 refine ⟨h.f.del q,?_⟩;have hy:=h.f.ok.yk (H q);have hc:=h.c
 have u1:dS (upd s.U (s.y (H q)) ((s.U (s.y (H q))).eB q (H q))) s.k<=dS s.U s.k:=by
  rw [kr h.k12 hy,VH];split <;> omega
 have t1:(s.T.eB q (H q)).lv<=s.T.lv:=by rw [VH];split <;> omega
 unfold DuS.del;split
 . show s.T.lv+dS (upd s.U (s.y (H q)) _) s.k<=_;omega
 . show (s.T.eB q (H q)).lv+dS s.U s.k<=_;omega
theorem jQ.je (h:jQ s H m):jQ s.je H m:=⟨h.f.je,h.c⟩
theorem Vy {U:Nat->ae} {k d:Nat} (h:UF U k d H) (hk:k=1\/(k=2/\d<=15)) (l:List ai) (hH:∀e∈l,e.hash=(H e.key:Int)/\H e.key<18446744073709551616) (hok:nH k d l U) :
 ∀j,j<=l.length->dS (jN k d (l.take j) (U,0)).1 k=dS U k+j
 | 0,_=>by rw [List.take_zero];simp [jN]
 | j+1,hj=>by
  have ih:=Vy h hk l hH hok j (by omega);have hjl:j<l.length:=by omega
  obtain ⟨h1,-⟩:=QT h hk l hH hok j (by omega);have hb:=hok j hjl;obtain ⟨GU,LH⟩:=hH l[j] (List.getElem_mem hjl);have hcv:l[j].hash.toNat=H l[j].key:=by rw [GU];simp
  have hi:=gm (h:=H l[j].key) hk;rw [hcv] at hb;rw [mq hjl];unfold TT;rw [hcv,kr (by omega) hi,((h1.f _ hi).j6 l[j].key l[j].val).1,hb,ih];simp;omega
theorem jQ.move (h:jQ s H m) (sw:∀q,H q<18446744073709551616) (h0:s.bare=0) (hn:s.nx<s.T.n) (hok:nH s.k s.d (aS (s.T.M s.nx) (s.T.S s.nx)) s.U):jQ s.move H m:=by
 refine ⟨(h.f.move sw h0 hn hok).1,?_⟩;obtain ⟨g1,-,-⟩:=mg h.f.t sw hn;have h1:=Vy h.f.u h.f.ok.hk _ g1 hok _ (aL _);rw [List.take_length] at h1;have h2:=AB s.T s.nx;have hc:=h.c;show (s.T.dw s.nx).lv+dS (jN s.k s.d (aS (s.T.M s.nx) (s.T.S s.nx)) (s.U,0)).1 s.k<=m
 rw [h1,h2];omega
theorem jQ.len (h:jQ s H m):((s.all s.k).length:Int)<=m:=by
 refine Int.le_trans (Int.le_of_eq ?_) h.c;rw [jA,List.length_append];have e0:=oL h.f.t.good;rcases h.k12 with e|e
 . rw [e,lG];have e1:=oL (h.f.ok.u 0 (by omega)).1;show (((s.T.iG.length+([] ++ (s.U 0).iG).length:Nat)):Int)=_
   rw [List.nil_append];omega
 . rw [e,lF];have e1:=oL (h.f.ok.u 0 (by omega)).1;have e2:=oL (h.f.ok.u 1 (by omega)).1;show (((s.T.iG.length+(([] ++ (s.U 0).iG) ++ (s.U 1).iG).length:Nat)):Int)=_
   rw [List.nil_append,List.length_append];omega
theorem jQ.new {k d gn:Nat} {T:ae} (hk:k=1\/(k=2/\d<=15)) (hr:aN (gn:Int)=true) (hT:bU T H) (hm:T.lv<=m):jQ (DuS.lg k d gn T) H m:=by
 have h1:=rJ.new (m:=T.lv+T.tb) hk hr hT (Int.le_refl _);exact ⟨h1.f,Int.le_trans (Int.le_of_eq h1.c) hm⟩
end
structure Cnt (mt:aG) (a0 a1 a2 l0 l1 l2:Int):Prop where
 a0:mt.a0=a0
 a1:mt.a1=a1
 a2:mt.a2=a2
 l0:mt.l0=l0
 l1:mt.l1=l1
 l2:mt.l2=l2
section
variable {mt:aG} {a0 a1 a2 l0 l1 l2:Int}
theorem Cnt.add (h:Cnt mt a0 a1 a2 l0 l1 l2) {x y z:Int} (hb:(0<=a0/\0<=a1/\0<=a2/\0<=l0/\0<=l1/\0<=l2)/\a0<=1000000000/\a1<=1000000000/\a2<=1000000000/\l0<=1000000000/\l1<=1000000000/\l2<=1000000000) (hx:0<=x/\x<=100000) (hy:0<=y/\y<=100000) (hz:0<=z/\z<=100000) :
 Cnt (mt.add x y z) (a0+x) (a1+y) (a2+z) (l0+x) (l1+y) (l2+z):=by
 refine ⟨?_,?_,?_,?_,?_,?_⟩
 . show nu mt.a0 x=_;rw [h.a0,nJ (by omega) (by omega) (by omega)]
 . show nu mt.a1 y=_;rw [h.a1,nJ (by omega) (by omega) (by omega)]
 . show nu mt.a2 z=_;rw [h.a2,nJ (by omega) (by omega) (by omega)]
 . show nu mt.l0 x=_;rw [h.l0,nJ (by omega) (by omega) (by omega)]
 . show nu mt.l1 y=_;rw [h.l1,nJ (by omega) (by omega) (by omega)]
 . show nu mt.l2 z=_;rw [h.l2,nJ (by omega) (by omega) (by omega)]
end
def mP (k:Nat):Code->Option Code
 | .block i c=>bif Nat.beq i k then some (.block i c) else mP k c
 | .seq a b=>match mP k a with
  | some c=>some c
  | none=>mP k b
 | .cond _ a b=>match mP k a with
  | some c=>some c
  | none=>mP k b
 | .loop c=>mP k c
 | .scope c=>mP k c
 | _=>none
end Go.Proofs.YtolhmibejhldkaaGreatDoor
