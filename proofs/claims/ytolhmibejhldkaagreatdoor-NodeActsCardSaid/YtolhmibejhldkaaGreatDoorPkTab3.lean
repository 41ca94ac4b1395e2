/- Joined texts; conditions within. -/
import Derived.Test.YtolhmibejhldkaaGreatDoorPkTab2
set_option linter.unusedVariables false
set_option linter.unusedSimpArgs false
set_option maxRecDepth 100000
set_option maxHeartbeats 8000000
namespace Go.Proofs.YtolhmibejhldkaaGreatDoor
open Go.RowKit Go.Proofs
def bO (a b:ai):Bool:=decide (a.hash<b.hash\/a.hash=b.hash/\a.key<b.key)
def Qh (a b:Int):Int:=if a<b then -1 else if b<a then 1 else 0
theorem Ce (a:Int) (w:World):Calls Tryz.prog 185 #[.int .u64 a] w λe w'=>e = .returned (.bool false)/\w=w':=by
 have e1:(a != a)=false:=by simp
 go_enter Tryz.func185,Tryz.ntmps185
 go_wp2;go_ret;exact ⟨rfl,rfl⟩
theorem qd (a b:Int) (w:World):Calls Tryz.prog 166 #[.int .u64 a,.int .u64 b] w λe w'=>e = .returned (.int .i64 (Qh a b))/\w=w':=by
 unfold Qh;rcases Int.lt_trichotomy a b with h|h|h
 . rw [if_pos h];have d1:decide (a<b)=true:=by simpa using h
   clear h;go_enter Tryz.func166,Tryz.ntmps166
   go_wp2_with (go_at_call 185;refine (Ce _ _).mono ?_;rintro e w' ⟨rfl,rfl⟩)
   go_ret;exact ⟨rfl,rfl⟩
 . subst h;rw [if_neg (by omega),if_neg (by omega)];have d1:decide (a<a)=false:=by simp
   have d2:decide (a > a)=false:=by simp
   go_enter Tryz.func166,Tryz.ntmps166
   go_wp2_with (go_at_call 185;refine (Ce _ _).mono ?_;rintro e w' ⟨rfl,rfl⟩)
   go_ret;exact ⟨rfl,rfl⟩
 . rw [if_neg (by omega),if_pos h];have d1:decide (a<b)=false:=by simp;omega
   have d2:decide (a > b)=true:=by simpa using h
   clear h;go_enter Tryz.func166,Tryz.ntmps166
   go_wp2_with (go_at_call 185;refine (Ce _ _).mono ?_;rintro e w' ⟨rfl,rfl⟩)
   go_ret;exact ⟨rfl,rfl⟩
def orZ (p q:Int):Int:=if p=0 then q else p
theorem abp (p q:Int) (A:Nat) (w:World) (hA:af w A 3 #[.int .i64 p,.int .i64 q]) (cap:Nat) :
 Calls Tryz.prog 165 #[.slice (some ⟨A,0,none⟩) 2 cap] w λe w'=>e = .returned (.int .i64 (orZ p q))/\w=w':=by
 have c0:=hA.cell 0;have c1:=hA.cell 1;have hl:=hA.lt;unfold orZ;clear hA;by_cases hp:p=0
 . subst hp;rw [if_pos rfl];have e0:((0:Int) != 0)=false:=by decide
   by_cases hq:q=0
   . subst hq;go_enter Tryz.func165,Tryz.ntmps165
     go_wp2
     go_loop [8] (λv8 => ∃k:Nat,k<=2/\v8 = .int .i64 (k:Int)) (λv8=>2-(intOf v8).toNat)
     case atStart=>exact ⟨0,by omega,rfl⟩
     case round =>
      obtain ⟨k,hk,rfl⟩:=hrel;obtain rfl|rfl|rfl:k=0\/k=1\/k=2:=by omega
      . go_wp2
        go_round
        case rel=>exact ⟨1,by omega,rfl⟩
        case measure=>simp [intOf]
      . go_wp2
        go_round
        case rel=>exact ⟨2,by omega,rfl⟩
        case measure=>simp [intOf]
      . go_wp2;go_ret;exact ⟨rfl,rfl⟩
   . have eq:(q != 0)=true:=by simpa using hq
     clear hq;go_enter Tryz.func165,Tryz.ntmps165
     go_wp2
     go_loop [8] (λv8 => ∃k:Nat,k<=1/\v8 = .int .i64 (k:Int)) (λv8=>2-(intOf v8).toNat)
     case atStart=>exact ⟨0,by omega,rfl⟩
     case round =>
      obtain ⟨k,hk,rfl⟩:=hrel;obtain rfl|rfl:k=0\/k=1:=by omega
      . go_wp2
        go_round
        case rel=>exact ⟨1,by omega,rfl⟩
        case measure=>simp [intOf]
      . go_wp2;go_ret;exact ⟨rfl,rfl⟩
 . rw [if_neg hp];have ep:(p != 0)=true:=by simpa using hp
   clear hp;go_enter Tryz.func165,Tryz.ntmps165
   go_wp2
   go_loop [8] (λv8=>v8 = .int .i64 0) (λv8=>2-(intOf v8).toNat)
   case atStart=>exact rfl
   case round =>
    subst hrel;go_wp2;go_ret;exact ⟨rfl,rfl⟩
theorem aau (a b:ai):(decide (orZ (Qh a.hash b.hash) (Qh a.key b.key)<0))=bO a b:=by
 unfold bO orZ Qh;rw [Bool.eq_iff_iff,decide_eq_true_iff,decide_eq_true_iff]
 repeat' split
 all_goals omega
theorem Bj (a b:ai) (w:World) :
 Calls Tryz.prog 128 #[.agg #[.int .u64 a.key,.int .u64 a.val,.int .u64 a.hash],.agg #[.int .u64 b.key,.int .u64 b.val,.int .u64 b.hash]] w λe w'=>e = .returned (.bool (bO a b))/\Below w.heap.size w w':=by
 rw [<-aau];have C1:=aa (λ(x y:Int) (w':World)=>qd x y w');obtain ⟨p,hp⟩:=dC (Qh a.hash b.hash);obtain ⟨q,hq⟩:=dC (Qh a.key b.key);have CH:=aa (λ(w':World)=>qd a.hash b.hash w');have CK:=aa (λ(w':World)=>qd a.key b.key w');rw [<-hp] at CH ⊢;rw [<-hq] at CK ⊢;obtain ⟨r,hr⟩:=dC (orZ p q);have OR:=aa (λ(A:Nat) (cap:Nat) (w':World) hA=>abp p q A w' hA cap);rw [<-hr] at OR ⊢;obtain ⟨a0,a1,a2⟩:=a;obtain ⟨b0,b1,b2⟩:=b;dsimp only at *
 clear hp hq hr C1;go_enter Tryz.func128,Tryz.ntmps128
 go_wp2;refine ag (λ_=>False) #[⟨0,0,32,4,0⟩,⟨1,1,64,32,1⟩,⟨0,0,128,8,0⟩,⟨4,4,256,128,1⟩,⟨10,15,512,320,2⟩,⟨0,0,1024,4,0⟩,⟨32,32,2048,1024,1⟩,⟨0,0,4096,8,0⟩,⟨128,128,8192,4096,1⟩,⟨336,511,2^14,(2^11+2^13),3⟩,⟨528,1023,2^15,(2^9+2^14),3⟩,⟨1536,2047,2^16,2^15,3⟩,⟨2048,4095,2^17,2^16,0⟩,⟨8191,8191,16,2^17,0⟩] 330 [(0,0),(1,1),(2,0),(3,1),(5,0),(6,1),(7,0),(8,1),(4,2),(9,3),(10,3),(11,3),(12,0),(13,0)] (by kernel_rfl) (by kernel_rfl) (by kernel_rfl) (by kernel_rfl) (by kernel_rfl) (by kernel_rfl) (λc a d v w h=>by cases d <;> exact h) ?_;refine aj ?_;refine bW Tryz.underlying38 ?_
 try refine aC ?_;refine aj ?_
 refine bW Tryz.underlying38 ?_
 try refine aC ?_;refine aj ?_
 refine bW Tryz.underlying38 ?_
 try refine aC ?_;refine aj ?_
 refine bW Tryz.underlying38 ?_
 try refine aC ?_
 refine iK λK hK=>?_;go_wp2_with (first|(go_at_call 166;(with_reducible refine (CH.out _).mono ?_);rintro e w' ⟨rfl,rfl⟩)|(go_at_call 166;(with_reducible refine (CK.out _).mono ?_);rintro e w' ⟨rfl,rfl⟩));refine iX hK (h:=?_);clear hK K
 try refine aC ?_
 refine fA λK hK=>?_;go_wp2_with (first|(go_at_call 166;(with_reducible refine (CH.out _).mono ?_);rintro e w' ⟨rfl,rfl⟩)|(go_at_call 166;(with_reducible refine (CK.out _).mono ?_);rintro e w' ⟨rfl,rfl⟩));refine hK.out _ _ ?_;clear hK K
 try refine aC ?_
 refine fA λK hK=>?_;go_wp2_with (fail);refine hK.out _ _ ?_;clear hK K
 try refine aC ?_
 refine fA λK hK=>?_;go_wp2_with ((go_at_call 165;refine (OR.out _ _ _ (af.drew (af.aF (by simp)))).mono ?_;rintro e w' ⟨rfl,rfl⟩));refine hK.out _ _ ?_;clear hK K
 try refine aC ?_;refine aj ?_;refine aj ?_
 refine aD ?_;go_wp2;go_ret;exact ⟨rfl,by go_grown⟩
theorem Gs (a b:ai) (w:World) :
 Calls Tryz.prog 73 #[.agg #[.int .u64 a.key,.int .u64 a.val,.int .u64 a.hash],.agg #[.int .u64 b.key,.int .u64 b.val,.int .u64 b.hash]] w λe w'=>e = .returned (.bool (bO a b))/\Below w.heap.size w w':=by
 unfold bO;obtain ⟨a0,a1,a2⟩:=a;obtain ⟨b0,b1,b2⟩:=b;dsimp only;by_cases h:a2=b2
 . subst h;have e1:(a2 != a2)=false:=by simp
   have e2:(decide (a2<a2\/a2=a2/\a0<b0))=decide (a0<b0):=by simp
   rw [e2];go_enter Tryz.func73,Tryz.ntmps73
   go_wp2;go_ret;exact ⟨rfl,by go_grown⟩
 . have e1:(a2 != b2)=true:=by simpa using h
   have e2:(decide (a2<b2\/a2=b2/\a0<b0))=decide (a2<b2):=by simp [h]
   rw [e2];clear h e2;go_enter Tryz.func73,Tryz.ntmps73
   go_wp2;go_ret;exact ⟨rfl,by go_grown⟩
def dP (f:ai) (acc:ai×Bool) (e:ai):ai×Bool:=if (!bO e f && (!acc.2 || bO e acc.1))=true then (e,true) else acc
def dN (T:ae) (n:Nat):List ai:=(List.range n).flatMap λi=>aS (T.M i) (T.S i)
def ae.iG (T:ae):List ai:=dN T T.n
def ae.dU (l:List ai) (f:ai):ai×Bool:=l.foldl (dP f) (ai.zero,false)
def ae.least (T:ae) (f:ai):ai×Bool:=ae.dU T.iG f
theorem kN (T:ae) (n:Nat):dN T (n+1)=dN T n ++ aS (T.M n) (T.S n):=by unfold dN;rw [List.range_succ,List.flatMap_append];simp
theorem GQ (l k:List ai) (f:ai):ae.dU (l ++ k) f=k.foldl (dP f) (ae.dU l f):=by unfold ae.dU;rw [List.foldl_append]
theorem lK (m:Nat) (s:Nat->ai):(aS m s).length<=8:=by unfold aS;rw [List.length_map];exact Ew _
theorem kL {w:World} {base n:Nat} {e:TypeId} {v:Value} {l:List ai} (h:w.ownsRow base e 3 v n (cB l)) :
 ∃a cap,v = .slice a n cap/\n=l.length/\(l≠ []->∃b,a=some ⟨b,0,none⟩/\base<=b/\b<w.heap.size/\∀i (h:i<l.length),w.cell? ⟨b,i*3,none⟩=some (.int .u64 l[i].key)/\w.cell? ⟨b,i*3+1,none⟩=some (.int .u64 l[i].val)/\w.cell? ⟨b,i*3+2,none⟩=some (.int .u64 l[i].hash)):=by
 have hl:l.length=n:=by have:=h.1;rw [mQ] at this;omega
 rcases h.2 with ⟨rfl,h0⟩ | ⟨b,cap,cur,rfl,hb,hg,h1,h2,h3,h4⟩
 . exact ⟨none,0,by rw [h0],hl.symm,λhk=>by rw [h0] at hl;exact absurd (List.length_eq_zero_iff.1 hl) hk⟩
 . refine ⟨_,cap,rfl,hl.symm,λhk=>⟨b,rfl,hb,(Array.getElem?_eq_some_iff.1 hg).1,λi hi=>?_⟩⟩
   have hc:∀j,j<3->w.cell? ⟨b,i*3+j,none⟩=(e3 l[i])[j]?:=by
    intro j hj;have h5:=h.cells (g:=b) rfl (i*3+j);rw [ab6 _ i hi j hj] at h5
    have h6:(⟨b,0,none⟩:Addr).add (i*3+j)=⟨b,i*3+j,none⟩:=by
     simp only [Addr.add];split
     . rename_i e;rw [e]
     . simp
    rw [h6] at h5;obtain ⟨u,hu⟩:∃u,(e3 l[i])[j]?=some u:=⟨_,List.getElem?_eq_getElem (show j<(e3 l[i]).length from hj)⟩
    rw [hu];exact h5 u hu
   exact ⟨hc 0 (by decide),hc 1 (by decide),hc 2 (by decide)⟩
theorem iq {w:World} {C:Nat} {T:TypeId} {a b c d:Value} (h:af w C T #[a,b,c,d]):w.cell? ⟨C,0,none⟩=some a/\w.cell? ⟨C,1,none⟩=some b/\w.cell? ⟨C,2,none⟩=some c/\w.cell? ⟨C,3,none⟩=some d:=⟨h.cell 0,h.cell 1,h.cell 2,h.cell 3⟩
structure LE (wr:World) (z:Nat) (q:Option Addr) (lp:Option Nat) (mt:aG) (x1 y1 z1:Int) (f acc:ai) (w:World):Prop where
 l:af wr z 50 #[.pointer q,.int .i64 x1,.int .i64 y1,.int .i64 z1]
 r:af wr (z+1) 46 #[.int .u64 0,.int .u64 0,.int .u64 0]
 f:af wr (z+1+1) 46 #[.int .u64 f.key,.int .u64 f.val,.int .u64 f.hash]
 o:af wr (z+1+1+1) 46 #[.int .u64 acc.key,.int .u64 acc.val,.int .u64 acc.hash]
 m:LW wr lp mt
 c:ah (λb=>lp=some b) w wr
theorem LE.later {wr w' w:World} {z:Nat} {q:Option Addr} {lp:Option Nat} {mt:aG} {x1 y1 z1:Int} {f acc:ai} (h:LE wr z q lp mt x1 y1 z1 f acc w) (hb:Below wr.heap.size wr w'):LE w' z q lp mt x1 y1 z1 f acc w :=
 ⟨h.l.below hb h.l.lt,h.r.below hb h.r.lt,h.f.below hb h.f.lt,h.o.below hb h.o.lt,h.m.later hb,h.c.au hb⟩
theorem LE.look {wr w' w:World} {z:Nat} {q:Option Addr} {lp:Option Nat} {mt jX:aG} {x1 y1 z1:Int} {f acc:ai} (h:LE wr z q lp mt x1 y1 z1 f acc w) (hl:LW w' lp jX) (hc:ah (λb=>lp=some b) wr w') (hz:∀b,z<=b->¬lp=some b):LE w' z q lp jX x1 y1 z1 f acc w :=
 ⟨h.l.aA hc (hz _ (by omega)),h.r.aA hc (hz _ (by omega)),h.f.aA hc (hz _ (by omega)),h.o.aA hc (hz _ (by omega)),hl,h.c.trans hc⟩
theorem LE.set {wr w:World} {z:Nat} {q:Option Addr} {lp:Option Nat} {mt:aG} {x1 y1 z1:Int} {f acc e:ai} (h:LE wr z q lp mt x1 y1 z1 f acc w) (hw:w.heap.size<=z) (hz:∀b,z<=b->¬lp=some b) :
 LE (((wr.setCell ⟨z+1+1+1,0,none⟩ (.int .u64 e.key)).setCell ⟨z+1+1+1,1,none⟩ (.int .u64 e.val)).setCell ⟨z+1+1+1,2,none⟩ (.int .u64 e.hash)) z q lp mt x1 y1 z1 f e w:=by
 have hc:ah (λb=>b=z+1+1+1) wr (((wr.setCell ⟨z+1+1+1,0,none⟩ (.int .u64 e.key)).setCell ⟨z+1+1+1,1,none⟩ (.int .u64 e.val)).setCell ⟨z+1+1+1,2,none⟩ (.int .u64 e.hash)):=(((ah.refl _ _).set1 _ _).set1 _ _).set1 _ _;exact ⟨h.l.aA hc (by omega),h.r.aA hc (by omega),h.f.aA hc (by omega),((h.o.set 0 _).set 1 _).set 2 _,h.m.aA hc (λb e1 e2=>hz b (by omega) e1),h.c.trans' hc (λi hi e=>by omega)⟩
theorem DJ (B Q:Nat) (T:ae) (hT:bq T) (key:Int) (h:Int) (q:Option Addr) (lp:Option Nat) (hq:di q lp) (mt:aG) (x1 y1 z1:Int) (w:World) (hW:TS w B Q T) (hL:LW w lp mt)
 (hlp:∀b,lp=some b->b≠B/\b≠Q/\b<w.heap.size/\b≠16) (Oa:iB w) :
 Calls Tryz.prog 71 #[.pointer (some ⟨B,0,none⟩),.agg #[.pointer q,.int .i64 x1,.int .i64 y1,.int .i64 z1],.int .u64 h,.int .u64 key] w λe w' =>
  e = .returned (.tuple #[.agg #[.int .u64 (T.least ⟨key,0,h⟩).1.key,.int .u64 (T.least ⟨key,0,h⟩).1.val,.int .u64 (T.least ⟨key,0,h⟩).1.hash],.bool (T.least ⟨key,0,h⟩).2])/\LW w' lp (addN mt x1 y1 z1 T.n)/\ah (λb=>lp=some b) w w':=by
 have hb:=hT.bounds;have hM:=hT.Le;have HW:=aa hW;have HL:=aa hL;have HTb:=aa Oa;have hlB:=hW.head.lt;have hlQ:=hW.lt;have NL:∀b,w.heap.size<=b->¬lp=some b:=λb hb e=>by have:=(hlp b e).2.2.1;omega
 have nB:¬lp=some B:=λe=>(hlp B e).1 rfl;have nQ:¬lp=some Q:=λe=>(hlp Q e).2.1 rfl;have nT:¬lp=some 16:=λe=>(hlp _ e).2.2.2 rfl;obtain ⟨z,hz⟩:=dC w.heap.size;have hwz:w.heap.size<=z:=by omega
 have NZ:∀b,z<=b->¬lp=some b:=λb hb=>NL b (by omega);obtain ⟨f,hf⟩:∃f:ai,f=⟨key,0,h⟩:=⟨_,rfl⟩
 rw [<-hf];have HFk:key=f.key/\h=f.hash/\(0:Int)=f.val:=by rw [hf];exact ⟨rfl,rfl,rfl⟩
 obtain ⟨hfk,hfh,hfv⟩:=HFk;have FV:=aa hfv;rw [hfk,hfh];have HZ:=aa hz;clear hz;clear hW hL Oa hlp hT hf hfk hfh hfv;go_enter Tryz.func71,Tryz.ntmps71
 have tc:∀ (w':World),ah (λb=>lp=some b) w w'->w'.cell? ⟨B,0,none⟩=some (.slice (some ⟨Q,0,none⟩) T.n T.n):=λw' hc=>(HW.out.aA hc nB nQ).head.cell 0;have TC:=aa tc;have c0:=tc w (ah.refl _ _);clear tc;have hl1:B<w.heap.size+1:=by omega
 have hl2:B<w.heap.size+1+1:=by omega
 have hl3:B<w.heap.size+1+1+1:=by omega
 go_wp2;refine bG (λwL og=>?_)
 have hLE:LE wL z q lp (addN mt x1 y1 z1 0) x1 y1 z1 f (ae.dU (dN T 0) f).1 w:=by
  rw [og,HZ.out];refine ⟨?_,?_,?_,?_,?_,?_⟩
  . exact (((af.new w _ _).alloc _).alloc _).alloc _
  . exact ((af.aF (by simp)).alloc _).alloc _
  . rw [<-FV.out];exact (af.aF (by simp)).alloc _
  . exact af.aF (by simp)
  . exact HL.out.later (by go_grown)
  . exact ah.of_below (by go_grown)
 have HLE:=aa hLE;have hf0:(ae.dU (dN T 0) f).2=false:=rfl;rw [<-HZ.out];replace og:=aa og;clear hLE c0 hl1 hl2 hl3
 go_loopw [24,12] (λv24 v12 wr => ∃i:Nat,i<=T.n/\v24 = .int .i64 (i:Int)/\v12 = .bool (ae.dU (dN T i) f).2/\LE wr z q lp (addN mt x1 y1 z1 i) x1 y1 z1 f (ae.dU (dN T i) f).1 w) (λv24 _ _=>T.n-(intOf v24).toNat)
 case atStart=>exact ⟨0,o7 _,rfl,rfl,HLE.out⟩
 case round =>
  clear HLE hf0;obtain ⟨i,hi,rfl,rfl,hE⟩:=hrel;have HS:=aa (show ae.dU (dN T (i+1)) f=(aS (T.M i) (T.S i)).foldl (dP f) (ae.dU (dN T i) f) by rw [kN,GQ]);obtain ⟨acc,hacc⟩:=dC (ae.dU (dN T i) f);rw [<-hacc] at hE HS ⊢;have HA:=aa hacc;have KE:=aa hE;have tc:=TC.out wr hE.c;have hTw:=aa (HW.out.aA hE.c nB nQ);have QM:B<wr.heap.size:=(HW.out.aA hE.c nB nQ).head.lt;obtain ⟨l0,l1,l2,l3⟩:=iq hE.l;obtain ⟨fy0,fy1,fy2⟩:=cells3 hE.f;obtain ⟨o0,o1,o2⟩:=cells3 hE.o;have zl:=hE.l.lt;have zf:=hE.f.lt;have zo:=hE.o.lt;clear hacc hE;by_cases hlt:i<T.n
  . have hiI:(i:Int)<(T.n:Int):=by omega
    have LK:=aa (λ(w':World) h'=>Cg Q (i*25) q lp hq (addN mt x1 y1 z1 i) x1 y1 z1 w' h');have EN:=aa (λ(w':World) hg' hT'=>Bp Q (i*25) (T.M i) (T.S i) (hM i hlt) w' hg' hT');obtain ⟨l,hl⟩:=dC (aS (T.M i) (T.S i));have hl8:l.length<=8:=by rw [hl];exact lK _ _
    rw [<-hl] at EN HS;have n5:¬lp=some z:=NZ _ (aL _);clear hl;go_wp2;refine ag (λb=>lp=some b) #[⟨0,0,2^27,1,0⟩,⟨1,1,2^28,2^27,0⟩,⟨2,3,2^29,2^28,0⟩,⟨4,7,2^30,2^29,1⟩,⟨0,0,2^31,8192,0⟩,⟨24,31,2^32,(2^30+2^31),0⟩,⟨0,0,2^33,32,1⟩,⟨96,127,2^34,(2^32+2^33),3⟩,⟨128,255,2^35,2^34,3⟩,⟨256,511,2^36,2^35,0⟩,⟨0,0,2^37,0,0⟩] 72 [(0,0),(1,0),(2,0),(3,1),(4,0),(5,0),(6,1),(10,0),(7,3),(8,3),(9,0)] (by kernel_rfl) (by kernel_rfl) (by kernel_rfl) (by kernel_rfl) (by kernel_rfl) (by kernel_rfl) (λc a d v w h=>by cases d <;> exact h) ?_;refine aj ?_;refine aj ?_;refine aj ?_;refine bW Tryz.underlying141 ?_
    try refine aC ?_;refine aj ?_;refine aj ?_
    refine jR [_,_,_,_] Tryz.underlying50 ?_
    try refine aC ?_;refine aj ?_
    refine fA λK hK=>?_;go_wp2_with ((go_at_call 88;refine (LK.out _ (KE.out.later (aM _ _).drew).m).mono ?_;rintro e w1 ⟨rfl,hl1,hc1⟩;have E1:=aa ((KE.out.later (aM _ _).drew).look hl1 hc1 NZ);have W1:=aa ((TW.drew hTw.out).aA hc1 nB nQ);have hcX:=hc1;clear hl1));refine hK.out _ _ ?_;clear hK K
    try refine aC ?_
    refine fA λK hK=>?_;go_wp2_with ((go_at_call 129;refine (EN.out _ (W1.out.at' i hlt) (λj hj=>(E1.out.c.cell (p:=⟨16,j,none⟩) (qx _ _ (HTb.out j hj)) nT).trans (HTb.out j hj))).mono ?_;rintro e w2 ⟨ve,rfl,hr2,hb2⟩;have E2:=aa (E1.out.later hb2);have zw1:=E1.out.o.lt;obtain ⟨av,cv,rfl,-,hrd⟩:=kL hr2;have RD:=aa hrd;clear hr2 hrd));refine hK.out _ _ ?_;clear hK K
    try refine aC ?_;refine aj ?_
    refine aD ?_;go_wp2;refine bG (λwI hwI=>?_);have E3:=aa (show LE wI z q lp (addN mt x1 y1 z1 (i+1)) x1 y1 z1 f acc.1 w by rw [hwI];exact E2.out);have RI:=aa (show l≠ []->∃b,av=some ⟨b,0,none⟩/\w1.heap.size<=b/\b<wI.heap.size/\∀i (h:i<l.length),wI.cell? ⟨b,i*3,none⟩=some (.int .u64 l[i].key)/\wI.cell? ⟨b,i*3+1,none⟩=some (.int .u64 l[i].val)/\wI.cell? ⟨b,i*3+2,none⟩=some (.int .u64 l[i].hash) by rw [hwI];exact RD.out);replace hwI:=aa hwI;have hlI:(l.length:Int)<=8:=by omega
    clear tc l0 l1 l2 l3 fy0 fy1 fy2 o0 o1 o2 zl zf zo QM E2 RD E1 W1 LK EN KE hcX
    go_loopw [37,12] (λv37 v12 wr => ∃k:Nat,k<=l.length/\v37 = .int .i64 (k:Int)/\v12 = .bool ((l.take k).foldl (dP f) acc).2/\LE wr z q lp (addN mt x1 y1 z1 (i+1)) x1 y1 z1 f ((l.take k).foldl (dP f) acc).1 w/\ah (λb=>b=z+1+1+1) wI wr) (λv37 _ _=>l.length-(intOf v37).toNat)
    case atStart=>exact ⟨0,o7 _,rfl,rfl,E3.out,ah.refl _ _⟩
    case round =>
     clear E3;obtain ⟨k,hk,rfl,rfl,hE,hC⟩:=hrel;have KE:=aa hE;have KC:=aa hC;by_cases hkl:k<l.length
     . have eQ:(k:Int)<(l.length:Int):=by omega
       have hne:l≠ []:=λe=>by rw [e] at hkl;simp at hkl
       obtain ⟨b,rfl,hb1,hb2,hcs⟩:=RI.out hne;obtain ⟨p0,p1,p2⟩:=hcs k hkl;replace p0:=(hC.cell (p:=⟨b,k*3,none⟩) hb2 (by show ¬b=_;omega)).trans p0;replace p1:=(hC.cell (p:=⟨b,k*3+1,none⟩) hb2 (by show ¬b=_;omega)).trans p1;replace p2:=(hC.cell (p:=⟨b,k*3+2,none⟩) hb2 (by show ¬b=_;omega)).trans p2;have hbz:=bM hb2 hC.size;have HST:=aa (show (l.take (k+1)).foldl (dP f) acc=dP f ((l.take k).foldl (dP f) acc) l[k] by rw [List.take_succ_eq_append_getElem hkl,List.foldl_append];rfl);obtain ⟨ac,hac⟩:=dC ((l.take k).foldl (dP f) acc);rw [<-hac] at hE HST KE ⊢;obtain ⟨e,he⟩:=dC (l[k]);rw [<-he] at p0 p1 p2 HST;obtain ⟨fy0,fy1,fy2⟩:=cells3 hE.f;obtain ⟨o0,o1,o2⟩:=cells3 hE.o;have of':=λj=>hE.o.frozen j;have zf:=hE.f.lt;have zo:=hE.o.lt;clear hE hC hcs hac he;obtain ⟨ao,fd⟩:=ac;dsimp only at *
       have L1:=aa (λ(w':World)=>Bj e f w');have L2:=aa (λ(w':World)=>Bj e ao w');have HS2:Hid (dP f (ao,fd) e=if (!bO e f && (!fd || bO e ao))=true then (e,true) else (ao,fd)):=aa rfl;cases h1:bO e f with
       | true =>
        rw [h1] at L1 HS2;clear h1 L2
        go_wp2_with (go_at_call 128;(with_reducible refine (L1.out _).mono ?_);rintro e' w4 ⟨rfl,hb4⟩;have X4:=(af.new wr 46 #[.int .u64 e.key,.int .u64 e.val,.int .u64 e.hash]).below hb4 (by simp);obtain ⟨x0,x1',x2⟩:=cells3 X4;have zX4:=X4.lt;have EM:=(KE.out.later ((aM _ _).alloc (aL _) _)).later hb4;have E4:=aa EM;obtain ⟨q0,q1,q2⟩:=cells3 EM.o;have qf:=λj=>EM.o.frozen j;have zo4:=EM.o.lt;have C4:=aa ((KC.out.alloc _).au hb4);clear EM)
        go_roundw
        case rel=>exact ⟨k+1,by omega,by go_num,by rw [HST.out,HS2.out];rfl,by rw [HST.out,HS2.out];exact E4.out,C4.out⟩
        case measure=>simp [intOf];omega
       | false =>
        rw [h1] at L1 HS2;clear h1;cases fd with
        | false =>
         clear L2
         go_wp2_with (go_at_call 128;(with_reducible refine (L1.out _).mono ?_);rintro e' w4 ⟨rfl,hb4⟩;have X4:=(af.new wr 46 #[.int .u64 e.key,.int .u64 e.val,.int .u64 e.hash]).below hb4 (by simp);obtain ⟨x0,x1',x2⟩:=cells3 X4;have zX4:=X4.lt;have EM:=(KE.out.later ((aM _ _).alloc (aL _) _)).later hb4;have E4:=aa EM;obtain ⟨q0,q1,q2⟩:=cells3 EM.o;have qf:=λj=>EM.o.frozen j;have zo4:=EM.o.lt;have C4:=aa ((KC.out.alloc _).au hb4);clear EM)
         go_roundw
         case rel=>exact ⟨k+1,by omega,by go_num,by rw [HST.out,HS2.out];rfl,by rw [HST.out,HS2.out];exact E4.out.set hwz NZ,((C4.out.set1 _ _).set1 _ _).set1 _ _⟩
         case measure=>simp [intOf];omega
        | true =>
         cases h2:bO e ao with
         | true =>
          rw [h2] at L2 HS2;clear h2
          go_wp2_with (first|(go_at_call 128;(with_reducible refine (L1.out _).mono ?_);rintro e' w4 ⟨rfl,hb4⟩;have X4:=(af.new wr 46 #[.int .u64 e.key,.int .u64 e.val,.int .u64 e.hash]).below hb4 (by simp);obtain ⟨x0,x1',x2⟩:=cells3 X4;have zX4:=X4.lt;have EM:=(KE.out.later ((aM _ _).alloc (aL _) _)).later hb4;have E4:=aa EM;obtain ⟨q0,q1,q2⟩:=cells3 EM.o;have qf:=λj=>EM.o.frozen j;have zo4:=EM.o.lt;have C4:=aa ((KC.out.alloc _).au hb4);clear EM)|(go_at_call 128;(with_reducible refine (L2.out _).mono ?_);rintro e' w5 ⟨rfl,hb5⟩;have X5:=X4.below hb5 zX4;obtain ⟨u0,u1,u2⟩:=cells3 X5;have zX5:=X5.lt;have Vp:=E4.out.later hb5;have E5:=aa Vp;obtain ⟨r0,r1,r2⟩:=cells3 Vp.o;have rf:=λj=>Vp.o.frozen j;have zo5:=Vp.o.lt;have C5:=aa (C4.out.au hb5);clear Vp))
          go_roundw
          case rel=>exact ⟨k+1,by omega,by go_num,by rw [HST.out,HS2.out];rfl,by rw [HST.out,HS2.out];exact E5.out.set hwz NZ,((C5.out.set1 _ _).set1 _ _).set1 _ _⟩
          case measure=>simp [intOf];omega
         | false =>
          rw [h2] at L2 HS2;clear h2
          go_wp2_with (first|(go_at_call 128;(with_reducible refine (L1.out _).mono ?_);rintro e' w4 ⟨rfl,hb4⟩;have X4:=(af.new wr 46 #[.int .u64 e.key,.int .u64 e.val,.int .u64 e.hash]).below hb4 (by simp);obtain ⟨x0,x1',x2⟩:=cells3 X4;have zX4:=X4.lt;have EM:=(KE.out.later ((aM _ _).alloc (aL _) _)).later hb4;have E4:=aa EM;obtain ⟨q0,q1,q2⟩:=cells3 EM.o;have qf:=λj=>EM.o.frozen j;have zo4:=EM.o.lt;have C4:=aa ((KC.out.alloc _).au hb4);clear EM)|(go_at_call 128;(with_reducible refine (L2.out _).mono ?_);rintro e' w5 ⟨rfl,hb5⟩;have X5:=X4.below hb5 zX4;obtain ⟨u0,u1,u2⟩:=cells3 X5;have zX5:=X5.lt;have Vp:=E4.out.later hb5;have E5:=aa Vp;obtain ⟨r0,r1,r2⟩:=cells3 Vp.o;have rf:=λj=>Vp.o.frozen j;have zo5:=Vp.o.lt;have C5:=aa (C4.out.au hb5);clear Vp))
          go_roundw
          case rel=>exact ⟨k+1,by omega,by go_num,by rw [HST.out,HS2.out];rfl,by rw [HST.out,HS2.out];exact E5.out,C5.out⟩
          case measure=>simp [intOf];omega
     . obtain rfl:k=l.length:=by omega
       rw [List.take_length,<-HS.out];have HT':=aa (show LE wr z q lp (addN mt x1 y1 z1 (i+1)) x1 y1 z1 f (ae.dU (dN T (i+1)) f).1 w by rw [HS.out];have:=KE.out;rwa [List.take_length] at this);obtain ⟨ac,hac⟩:=dC (ae.dU (dN T (i+1)) f);rw [<-hac] at HT' ⊢;have HAC:=aa hac;clear hac;clear hE hC KE;go_wp2
       go_roundw
       case rel=>exact ⟨i+1,by omega,by go_num,by rw [<-HAC.out],by rw [<-HAC.out];exact HT'.out⟩
       case measure=>simp [intOf];omega
  . obtain rfl:i=T.n:=by omega
    have HR:Hid (acc=T.least f):=aa HA.out;obtain ⟨ao,fd⟩:=acc;dsimp only at o0 o1 o2;have r0:=KE.out.r;obtain ⟨r0c,r1c,r2c⟩:=cells3 KE.out.r;have rfz:=λj=>KE.out.r.frozen j;have zr:=KE.out.r.lt;clear r0;go_wp2;refine aJ (λWf hWf=>?_);have hR:af Wf (z+1) 46 #[.int .u64 ao.key,.int .u64 ao.val,.int .u64 ao.hash]:=by rw [hWf];exact ((KE.out.r.set 0 _).set 1 _).set 2 _
    have hC:ah (λb=>b=z+1) wr Wf:=by rw [hWf];exact (((ah.refl _ _).set1 _ _).set1 _ _).set1 _ _
    obtain ⟨g0,g1,g2⟩:=cells3 hR;refine bodyPost_ret (v := .tuple #[.agg #[.int .u64 ao.key,.int .u64 ao.val,.int .u64 ao.hash],.bool fd]) (by simp [results,Tryz.results71,go_sem,g0,g1,g2]) rfl ⟨by rw [<-HR.out],?_,?_⟩
    . exact KE.out.m.aA hC (λb e e2=>NZ b (by omega) e)
    . exact KE.out.c.trans' hC (λi hi e=>by omega)
theorem Lh (a b:ai):bO a b=true↔a.hash<b.hash\/a.hash=b.hash/\a.key<b.key:=by unfold bO;simp
theorem nL (a b:ai):bO a b=false↔¬ (a.hash<b.hash\/a.hash=b.hash/\a.key<b.key):=by unfold bO;simp
def iI (f:ai) (l:List ai) (acc:ai×Bool):Prop :=
 (acc.2=false/\∀a∈l,bO a f=true)\/(acc.2=true/\acc.1∈l/\bO acc.1 f=false/\∀a∈l,bO a f=false->bO a acc.1=false)
theorem iI.step {f:ai} {l:List ai} {acc:ai×Bool} (h:iI f l acc) (e:ai):iI f (l ++ [e]) (dP f acc e):=by
 unfold dP;cases h1:bO e f with
 | true =>
  simp only [Bool.not_true,Bool.false_and,Bool.false_eq_true,if_false];rcases h with ⟨a1,a2⟩ | ⟨a1,a2,a3,a4⟩
  . refine .inl ⟨a1,λa ha=>?_⟩;rcases List.mem_append.1 ha with ha|ha
    . exact a2 a ha
    . rw [List.mem_singleton.1 ha];exact h1
  . refine .inr ⟨a1,List.mem_append_left _ a2,a3,λa ha hf=>?_⟩;rcases List.mem_append.1 ha with ha|ha
    . exact a4 a ha hf
    . rw [List.mem_singleton.1 ha,h1] at hf;cases hf
 | false =>
  simp only [Bool.not_false,Bool.true_and];rcases h with ⟨a1,a2⟩ | ⟨a1,a2,a3,a4⟩
  . rw [a1];simp only [Bool.not_false,Bool.true_or,if_true];refine .inr ⟨rfl,by simp,h1,λa ha hf=>?_⟩;rcases List.mem_append.1 ha with ha|ha
    . rw [a2 a ha] at hf;cases hf
    . rw [List.mem_singleton.1 ha,nL];dsimp only;omega
  . rw [a1];simp only [Bool.not_true,Bool.false_or];cases h2:bO e acc.1 with
    | true =>
     simp only [if_true];refine .inr ⟨rfl,by simp,h1,λa ha hf=>?_⟩;rcases List.mem_append.1 ha with ha|ha
     . have b:=a4 a ha hf;rw [nL] at b ⊢;rw [Lh] at h2;dsimp only;omega
     . rw [List.mem_singleton.1 ha,nL];dsimp only;omega
    | false =>
     simp only [Bool.false_eq_true,if_false];refine .inr ⟨a1,List.mem_append_left _ a2,a3,λa ha hf=>?_⟩;rcases List.mem_append.1 ha with ha|ha
     . exact a4 a ha hf
     . rw [List.mem_singleton.1 ha];exact h2
theorem iI.all {f:ai}:∀ (k l:List ai) (acc:ai×Bool),iI f l acc->iI f (l ++ k) (k.foldl (dP f) acc)
 | [],l,acc,h=>by rw [List.append_nil];exact h
 | e :: k,l,acc,h=>by
  have:=iI.all k (l ++ [e]) (dP f acc e) (h.step e)
  rwa [List.append_assoc] at this
theorem rZ (l:List ai) (f:ai):iI f l (ae.dU l f):=by
 have:=iI.all l [] (ai.zero,false) (f:=f) (.inl ⟨rfl,λa ha=>by cases ha⟩);rw [List.nil_append] at this;exact this
theorem Ip {m:Nat} {s:Nat->ai} {e:ai}:e∈aS m s↔∃k,k<8/\bC m k=true/\s k=e:=by
 unfold aS;rw [List.mem_map]
 constructor
 . rintro ⟨k,hk,rfl⟩
   obtain ⟨h1,h2⟩:=jl.1 hk;exact ⟨k,h1,h2,rfl⟩
 . rintro ⟨k,h1,h2,rfl⟩
   exact ⟨k,jl.2 ⟨h1,h2⟩,rfl⟩
theorem Ov {T:ae} {n:Nat} {e:ai}:e∈dN T n↔∃g k,g<n/\k<8/\bC (T.M g) k=true/\T.S g k=e:=by
 unfold dN;rw [List.mem_flatMap]
 constructor
 . rintro ⟨g,hg,he⟩
   obtain ⟨k,h1,h2,h3⟩:=Ip.1 he;exact ⟨g,k,by simpa using hg,h1,h2,h3⟩
 . rintro ⟨g,k,h0,h1,h2,h3⟩
   exact ⟨g,by simpa using h0,Ip.2 ⟨k,h1,h2,h3⟩⟩
theorem rF (T:ae):∀n,(dN T n).length=gp (λi=>aV (T.M i) 3) n
 | 0=>rfl
 | n+1=>by
  rw [kN,List.length_append,rF T n];unfold aS;rw [List.length_map,mr];rfl
theorem kM {T:ae} (hT:bq T):(T.iG.length:Int)=T.lv:=by
 unfold ae.iG;rw [rF,hT.lv];rfl
def Tx (T:ae) (H:Int->Nat) (n:Nat):Prop:=T.lv=((gp (λi=>if T.has (i:Int) (H i)=true then 1 else 0) n:Nat):Int)
theorem Tx.put {T:ae} {H:Int->Nat} {n x:Nat} (h:Tx T H n) (hT:bU T H) (hx:x<n) (v:Int) (hh:H x<18446744073709551616):Tx (T.aR x v (H x)) H n:=by
 unfold Tx at h ⊢
 have hs:=nK (f:=λi:Nat=>if T.has (i:Int) (H i)=true then 1 else 0) (g:=λi:Nat=>if (T.aR x v (H x)).has (i:Int) (H i)=true then 1 else 0) hx (λj hj=>by
  rw [(hT.nz x v hh j).1,if_neg (show ¬ (j:Int)=(x:Int) by omega)])
 have e:=(hT.nz x v hh x).1;rw [if_pos rfl] at e;simp only [e] at hs;rw [(hT.j6 x v).1,hT.bB];unfold ae.ok at hs;cases c:T.has (x:Int) (H x) <;> cases d:decide (1<=T.left) <;> simp [c,d] at hs ⊢ <;> omega
end Go.Proofs.YtolhmibejhldkaaGreatDoor
