/- Joined texts; conditions within. -/
import Derived.Test.YtolhmibejhldkaaGreatDoorPkTabM
set_option linter.unusedVariables false
set_option linter.unusedSimpArgs false
set_option maxRecDepth 100000
set_option maxHeartbeats 4000000
namespace Go.Proofs.YtolhmibejhldkaaGreatDoor
open Go.RowKit Go.Proofs
attribute [local go_sem] neq_nilG eql_nilG
def Js (n k:Nat):ae:=⟨n,λi=>if i<k then rep 128 else 0,λ_ _=>ai.zero,0,0⟩
theorem TS.congr {w:World} {B Q:Nat} {T T':ae} (h:TS w B Q T) (hn:T'.n=T.n) (hM:∀i,i<T.n->T'.M i=T.M i) (hS:∀i,i<T.n->T'.S i=T.S i) (hl:T'.lv=T.lv) (ht:T'.tb=T.tb):TS w B Q T':=by
 refine ⟨?_,h.ne,λi hi=>?_,h.lt⟩
 . rw [hn,hl,ht];exact h.head
 . rw [hn] at hi;rw [hM i hi,hS i hi];exact h.at' i hi
theorem Us (n k:Nat):∀i,((Js n k).clr k).M i=(Js n (k+1)).M i:=λi=>by
 show (if i=k then rep 128 else if i<k then rep 128 else 0)=if i<k+1 then rep 128 else 0
 by_cases e:i=k
 . rw [if_pos e,if_pos (by omega)]
 . rw [if_neg e];by_cases e2:i<k
   . rw [if_pos e2,if_pos (by omega)]
   . rw [if_neg e2,if_neg (by omega)]
theorem RB {w:World} {B Q n k:Nat} (h:TS w B Q ((Js n k).clr k)):TS w B Q (Js n (k+1)) :=
 h.congr rfl (λi _=>(Us n k i).symm) (λi _=>by
  show (λ_=>ai.zero)=upd (λ_=>λ_=>ai.zero) k (λ_=>ai.zero) i
  unfold upd;split <;> rfl) rfl rfl
theorem RF {w:World} {B Q n:Nat} (h:TS w B Q (Js n n)):TS w B Q (ae.new n) :=
 h.congr rfl (λi hi=>(if_pos hi).symm) (λi _=>rfl) rfl rfl
structure BW (w:World) (D B Q n k:Nat) (tk:Bool):Prop where
 b:af w D 211 #[.pointer (if tk=true then none else some ⟨B,0,none⟩),.int .i64 (n:Int),.int .i64 (k:Int)]
 t:tk=false->TS w B Q (Js n k)
 hk:k<=n
 hr:aN (n:Int)=true
 ne:D≠B/\D≠Q
theorem BW.hn {w:World} {D B Q n k:Nat} {tk:Bool} (h:BW w D B Q n k tk):n<=64/\1<=n:=by have:=dZ h.hr;omega
theorem BW.later {w w':World} {D B Q n k:Nat} {tk:Bool} (h:BW w D B Q n k tk) (hb:Below w.heap.size w w'):BW w' D B Q n k tk:=⟨h.b.below hb h.b.lt,λe=>(h.t e).later hb,h.hk,h.hr,h.ne⟩
theorem BW.aA {X:Nat->Prop} {w w':World} {D B Q n k:Nat} {tk:Bool} (h:BW w D B Q n k tk) (hc:ah X w w') (hD:¬X D) (hB:¬X B) (hQ:¬X Q):BW w' D B Q n k tk:=⟨h.b.aA hc hD,λe=>(h.t e).aA hc hB hQ,h.hk,h.hr,h.ne⟩
theorem BW.alloc {w:World} {D B Q n k:Nat} {tk:Bool} (h:BW w D B Q n k tk) (o:Obj):BW (w.alloc o) D B Q n k tk:=h.later ((aM _ _).alloc (aL _) o)
theorem BW.drew {w:World} {D B Q n k:Nat} {tk:Bool} (h:BW w D B Q n k tk):BW w.drew D B Q n k tk:=h.later (aM _ _).drew
theorem Cr {w:World} {D B Q n k:Nat} {tk:Bool} (h:BW w D B Q n k tk):w.cell? ⟨D,0,none⟩=some (.pointer (if tk=true then none else some ⟨B,0,none⟩))/\w.cell? ⟨D,1,none⟩=some (.int .i64 (n:Int))/\w.cell? ⟨D,2,none⟩=some (.int .i64 (k:Int))/\D<w.heap.size/\(∀j,w.frozen? ⟨D,j,none⟩=false):=⟨h.b.cell 0,h.b.cell 1,h.b.cell 2,h.b.lt,λj=>h.b.frozen j⟩
theorem acf (n:Nat) (hr:aN (n:Int)=true) (w:World) :
 Calls Tryz.prog 105 #[.int .i64 (n:Int)] w λe w' => ∃D B Q,e = .returned (.tuple #[.pointer (some ⟨D,0,none⟩),.nilIface])/\w.heap.size<=D/\w.heap.size<=B/\w.heap.size<=Q/\BW w' D B Q n 0 false/\Below w.heap.size w w':=by
 have RW:=aa (λ(w':World)=>Qz n hr w');have HR:=aa hr;clear hr;go_enter Tryz.func105,Tryz.ntmps105
 go_wp2_with (go_at_call 87;refine (RW.out _).mono ?_;rintro e w1 ⟨B,Q,rfl,hB,hQ,ht,hb1⟩;have hz1:=hb1.size;have T1:=aa ht;clear ht)
 go_ret2;have hlB:=T1.out.head.lt;have hlQ:=T1.out.lt;refine ⟨w1.heap.size,B,Q,rfl,hz1,hB,hQ,⟨af.new _ _ _,λ_=>TS.later (T:=Js n 0) ?_ ((aM _ _).alloc (aL _) _),o7 _,HR.out,by omega,by omega⟩,hb1.alloc hz1 _⟩;exact TS.congr (T:=⟨n,λ_=>0,λ_ _=>ai.zero,0,0⟩) T1.out rfl (λi _=>show (if i<0 then rep 128 else 0)=0 from if_neg (by omega)) (λ_ _=>rfl) rfl rfl
theorem nR (D B Q n k:Nat) (tk:Bool) (w:World) (h:BW w D B Q n k tk) :
 Calls Tryz.prog 109 #[.pointer (some ⟨D,0,none⟩)] w λe w'=>e = .returned (.int .i64 ((n-k:Nat):Int))/\Below w.heap.size w w':=by
 obtain ⟨c0,c1,c2,hl,hf⟩:=Cr h;have hn:=h.hn;have hk:=h.hk;have e1:IntKind.i64.wrap ((n:Int)-(k:Int))=((n-k:Nat):Int):=by rw [IntKind.wrap_i64];omega
 clear h c0 hf;go_enter Tryz.func109,Tryz.ntmps109
 go_wp2;refine ag (λ_=>False) #[⟨0,0,8,1,0⟩,⟨1,1,16,8,0⟩,⟨2,3,32,16,0⟩,⟨4,7,64,32,1⟩,⟨0,0,128,1,0⟩,⟨16,16,256,128,0⟩,⟨32,48,512,256,0⟩,⟨64,112,1024,512,1⟩,⟨136,255,2048,1088,0⟩,⟨511,511,4,2048,0⟩] 136 [(0,0),(1,0),(2,0),(3,1),(4,0),(5,0),(6,0),(7,1),(8,0),(9,0)] (by kernel_rfl) (by kernel_rfl) (by kernel_rfl) (by kernel_rfl) (by kernel_rfl) (by kernel_rfl) (λc a d v w h=>by cases d <;> exact h) ?_;refine aj ?_;refine aj ?_;refine aj ?_;refine bW Tryz.underlying3 ?_
 try refine aC ?_;refine aj ?_;refine aj ?_;refine aj ?_
 refine bW Tryz.underlying3 ?_
 try refine aC ?_;refine aj ?_;refine aj ?_
 refine aD ?_;go_wp2;go_ret;exact ⟨rfl,(aM _ _).drew⟩
theorem Mv (D B Q n k:Nat) (tk:Bool) (w:World) (h:BW w D B Q n k tk) :
 Calls Tryz.prog 134 #[.pointer (some ⟨D,0,none⟩)] w λe w'=>e = .returned (.int .i64 (n:Int))/\w=w':=by
 obtain ⟨c0,c1,c2,hl,hf⟩:=Cr h;clear h c0 hf;go_enter Tryz.func134,Tryz.ntmps134
 go_wp2;go_ret;exact ⟨rfl,rfl⟩
theorem aaz (D B Q n:Nat) (tk:Bool) (p:Option Addr) (w:World) (h:BW w D B Q n n tk) :
 Calls Tryz.prog 108 #[.pointer (some ⟨D,0,none⟩),.pointer p] w λe w'=>e = .returned (.bool false)/\Below w.heap.size w w':=by
 have LF:=aa (λ(w':World) (h:BW w' D B Q n n tk)=>nR D B Q n n tk w' h);simp only [Nat.sub_self] at LF;have HB:=aa h;clear h;go_enter Tryz.func108,Tryz.ntmps108
 go_wp2;refine ag (λ_=>False) #[⟨0,0,32,1,0⟩,⟨1,1,64,32,2⟩,⟨2,3,128,64,0⟩,⟨6,7,256,128,0⟩,⟨8,15,512,257,0⟩,⟨24,31,1024,768,0⟩,⟨40,63,2048,1280,0⟩,⟨72,127,4096,2304,1⟩,⟨8,15,8192,258,0⟩,⟨264,271,2^14,8448,2⟩,⟨8,15,2^15,257,0⟩,⟨1032,1039,2^16,(2^8+2^15),0⟩,⟨2056,3087,2^17,(2^8+2^16),0⟩,⟨4104,7183,2^18,(2^8+2^17),1⟩,⟨8840,16383,2^19,282880,3⟩,⟨(2^3+2^14),32767,2^20,(2^8+2^19),0⟩,⟨(2^3+2^15),65535,2^21,(2^8+2^20),0⟩] 8320 [(0,0),(1,2),(2,0),(3,0),(4,0),(5,0),(6,0),(7,1),(8,0),(10,0),(11,0),(12,0),(13,1),(9,2),(14,3),(15,0),(16,0)] (by kernel_rfl) (by kernel_rfl) (by kernel_rfl) (by kernel_rfl) (by kernel_rfl) (by kernel_rfl) (λc a d v w h=>by cases d <;> exact h) ?_;refine aj ?_;refine iK λK hK=>?_;go_wp2_with (go_at_call 109;(with_reducible refine (LF.out _ HB.out.drew).mono ?_);rintro e w1 ⟨rfl,hb1⟩);refine iX hK (h:=?_);clear hK K
 try refine aC ?_;refine aj ?_;refine aj ?_
 first
  | (refine jD ?_)
 try refine aC ?_
 first
  | (refine jD ?_)
 try refine aC ?_
 first
  | (refine jD ?_)
 try refine aC ?_
 first
  | (refine jD ?_)
 try refine aC ?_
 first
  | (refine jD ?_)
 try refine aC ?_
 first
  | (refine jD ?_)
 try refine aC ?_
 first
  | (refine jD ?_)
 try refine aC ?_
 first
  | (refine jD ?_)
 try refine aC ?_
 first
  | (refine jD ?_)
 try refine aC ?_
 first
  | (refine jD ?_)
  | (refine iK λK hK=>?_;go_wp2_with (go_at_call 109;(with_reducible refine (LF.out _ HB.out.drew).mono ?_);rintro e w1 ⟨rfl,hb1⟩);refine iX hK (h:=?_);clear hK K)
 try refine aC ?_
 first
  | (refine jD ?_)
  | (refine fA λK hK=>?_;go_wp2_with (go_at_call 109;(with_reducible refine (LF.out _ HB.out.drew).mono ?_);rintro e w1 ⟨rfl,hb1⟩);refine hK.out _ _ ?_;clear hK K)
 try refine aC ?_
 first
  | (refine jD ?_)
 try refine aC ?_;refine aj ?_
 refine aD ?_;go_wp2;go_ret;exact ⟨rfl,Below.bS hb1⟩
theorem aay (D B Q n k:Nat) (hk:k<n) (M:Nat) (mt:aG) (hm:mt.limited=false) (w:World) (h:BW w D B Q n k false) (hM:af w M 37 mt.cells) (hMD:M≠B/\M≠Q/\M≠D) :
 Calls Tryz.prog 108 #[.pointer (some ⟨D,0,none⟩),.pointer (some ⟨M,0,none⟩)] w λe w' =>
  e = .returned (.bool true)/\BW w' D B Q n (k+1) false/\af w' M 37 ((mt.add 0 1 0).add 0 0 1).cells/\ah (λb=>b=M\/b=Q\/b=D) w w':=by
 have hn:=h.hn;have LF:=aa (λ(w':World) (h:BW w' D B Q n k false)=>nR D B Q n k false w' h);have WK:=aa (λ(w':World)=>o9 (some ⟨M,0,none⟩) w');have PR:=aa (λ(w':World) (h:TS w' B Q (Js n k)) (hM:LW w' (some M) mt)=>Ki B Q (Js n k) hn.1 k hk _ _ (di.m M) mt 0 1 0 w' h hM (λb e=>by cases e;exact ⟨(hM M rfl).lt,hMD.1,hMD.2.1⟩));have UN:=aa (λ(w':World) hm'=>Hf (mt.add 0 1 0) 1 (by decide) hm M 37 w' hm');have hnk:(((n-k:Nat):Int) == 0)=false:=by simp;omega
 have e1:IntKind.i64.wrap ((k:Int)+1)=((k+1:Nat):Int):=by rw [IntKind.wrap_i64];omega
 obtain ⟨c0,c1,c2,hl,hf⟩:=Cr h;simp only [Bool.false_eq_true,if_false] at c0;have HB:=aa h;have HM:=aa hM;have hMl:=hM.lt;obtain ⟨hM1,hM2,hM3⟩:=hMD;have hD1:=h.ne.1;have hD2:=h.ne.2;clear h hM hn hf;go_enter Tryz.func108,Tryz.ntmps108
 go_wp2;refine ag (λb=>b=M\/b=Q) #[⟨0,0,32,1,0⟩,⟨1,1,64,32,2⟩,⟨2,3,128,64,0⟩,⟨6,7,256,128,0⟩,⟨8,15,512,257,0⟩,⟨24,31,1024,768,0⟩,⟨40,63,2048,1280,0⟩,⟨72,127,4096,2304,1⟩,⟨8,15,8192,258,0⟩,⟨264,271,2^14,8448,2⟩,⟨8,15,2^15,257,0⟩,⟨1032,1039,2^16,(2^8+2^15),0⟩,⟨2056,3087,2^17,(2^8+2^16),0⟩,⟨4104,7183,2^18,(2^8+2^17),1⟩,⟨8840,16383,2^19,282880,3⟩,⟨(2^3+2^14),32767,2^20,(2^8+2^19),0⟩,⟨(2^3+2^15),65535,2^21,(2^8+2^20),0⟩] 8320 [(0,0),(1,2),(2,0),(3,0),(4,0),(5,0),(6,0),(7,1),(8,0),(10,0),(11,0),(12,0),(13,1),(9,2),(14,3),(15,0),(16,0)] (by kernel_rfl) (by kernel_rfl) (by kernel_rfl) (by kernel_rfl) (by kernel_rfl) (by kernel_rfl) (λc a d v w h=>by cases d <;> exact h) ?_;refine aj ?_;refine iK λK hK=>?_;go_wp2_with ((go_at_call 109;(with_reducible refine (LF.out _ HB.out.drew).mono ?_);rintro e w1 ⟨rfl,hb1⟩;have B1:=aa (HB.out.drew.later hb1);have M1:=aa (HM.out.drew.below hb1 HM.out.lt);obtain ⟨d0,d1,d2,dl,df⟩:=Cr B1.out;simp only [Bool.false_eq_true,if_false] at d0));refine iX hK (h:=?_);clear hK K
 try refine aC ?_;refine aj ?_;refine aj ?_
 first
  | (refine jS ?_)
 try refine aC ?_
 first
  | (refine jS ?_)
 try refine aC ?_
 first
  | (refine jS ?_)
 try refine aC ?_
 first
  | (refine bW Tryz.underlying85 ?_)
 try refine aC ?_
 first
  | (refine jS ?_)
 try refine aC ?_
 first
  | (refine jS ?_)
 try refine aC ?_
 first
  | (refine jS ?_)
 try refine aC ?_
 first
  | (refine jS ?_)
 try refine aC ?_
 first
  | (refine bW Tryz.underlying3 ?_)
 try refine aC ?_
 first
  | (refine jD ?_)
  | (refine iK λK hK=>?_;go_wp2_with ((go_at_call 153;(with_reducible refine (WK.out _).mono ?_);rintro e w2 ⟨rfl,hb2⟩;have B2:=aa (B1.out.later hb2);have M2:=aa (M1.out.below hb2 M1.out.lt);obtain ⟨d20,d21,d22,dl2,df2⟩:=Cr B2.out;simp only [Bool.false_eq_true,if_false] at d20));refine iX hK (h:=?_);clear hK K)
 try refine aC ?_
 first
  | (refine jD ?_)
  | (refine fA λK hK=>?_;go_wp2_with ((go_at_call 156;(have L2:LW w2 (some M) mt:=(λM' e=>by cases e;exact M2.out);(with_reducible refine (PR.out _ (B2.out.t rfl) L2).mono ?_);rintro e w3 ⟨rfl,ht3,hl3,hc3⟩;have M3:=aa (hl3 M rfl);have T3:=aa (RB ht3);have D3:=aa (B2.out.b.aA hc3 (by rintro (e|e);exact hM3 (Option.some.inj e);exact hD2 e));have C3:=aa hc3;clear ht3 hl3)));refine hK.out _ _ ?_;clear hK K)
 try refine aC ?_
 first
  | (refine jS ?_)
 try refine aC ?_;refine aj ?_
 refine aD ?_
 go_wp2_with (go_at_call 150;(with_reducible refine (UN.out _ M3.out).mono ?_);rintro e w4 ⟨rfl,hm4,hc4⟩;have M4:=aa hm4;have D4:=aa (D3.out.aA hc4 (λe=>hM3 e.symm));have T4:=aa (T3.out.aA hc4 (λe=>hM1 e.symm) (λe=>hM2 e.symm));have g2:=D4.out.cell 2;have gf:=λj=>D4.out.frozen j;have gl:=D4.out.lt;have C4:=aa hc4;clear hm4)
 go_ret;have hC:ah (λb=>b=D) w4 (w4.setCell ⟨D,2,none⟩ (.int .i64 ((k+1:Nat):Int))):=(ah.refl _ _).set1 _ _;refine ⟨rfl,⟨D4.out.set 2 _,λ_=>T4.out.aA hC (λe=>hD1 e.symm) (λe=>hD2 e.symm),hk,HB.out.hr,hD1,hD2⟩,M4.out.aA hC hM3,?_⟩;refine ah.trans (ah.trans (ah.trans (ah.of_below (show Below w.heap.size w w2 from (Below.bS hb1).trans (hb2.mono hb1.size))) (C3.out.mono (λb _ e=>?_))) (C4.out.mono (λb _ e => .inl e))) (hC.mono (λb _ e => .inr (.inr e)));rcases e with e|e
 . exact .inl (Option.some.inj e).symm
 . exact .inr (.inl e)
theorem aax (D B Q n:Nat) (w:World) (h:BW w D B Q n n false) :
 Calls Tryz.prog 158 #[.pointer (some ⟨D,0,none⟩)] w λe w'=>e = .returned (.tuple #[.pointer (some ⟨B,0,none⟩),.nilIface])/\BW w' D B Q n n true/\TS w' B Q (ae.new n)/\ah (λb=>b=D) w w':=by
 have LF:=aa (λ(w':World) (h:BW w' D B Q n n false)=>nR D B Q n n false w' h);simp only [Nat.sub_self] at LF;have HB:=aa h;clear h;go_enter Tryz.func158,Tryz.ntmps158
 go_wp2_with (go_at_call 109;(with_reducible refine (LF.out _ HB.out).mono ?_);rintro e w1 ⟨rfl,hb1⟩;have B1:=aa (HB.out.later hb1);obtain ⟨d0,d1,d2,dl,df⟩:=Cr B1.out;simp only [Bool.false_eq_true,if_false] at d0)
 go_ret2;have hC:ah (λb=>b=D) w1 (w1.setCell ⟨D,0,none⟩ (.pointer none)):=(ah.refl _ _).set1 _ _;have hT:TS (w1.setCell ⟨D,0,none⟩ (.pointer none)) B Q (ae.new n):=(RF (B1.out.t rfl)).aA hC (λe=>HB.out.ne.1 e.symm) (λe=>HB.out.ne.2 e.symm);exact ⟨rfl,⟨B1.out.b.set 0 _,(λe=>by cases e),HB.out.hk,HB.out.hr,HB.out.ne⟩,hT,(ah.of_below hb1).trans hC⟩
end Go.Proofs.YtolhmibejhldkaaGreatDoor
