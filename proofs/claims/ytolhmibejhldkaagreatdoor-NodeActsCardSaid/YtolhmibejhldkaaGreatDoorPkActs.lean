/- Joined texts; conditions within. -/
import Derived.Test.YtolhmibejhldkaaGreatDoorPkSound2
set_option linter.unusedVariables false
set_option linter.unusedSimpArgs false
set_option maxRecDepth 100000
set_option maxHeartbeats 8000000
namespace Go.Proofs.YtolhmibejhldkaaGreatDoor
def pM (e:ai):List ai->List ai
 | [] => [e]
 | b :: l=>if bO e b=true then e :: b :: l else b :: pM e l
def jW (l:List ai):List ai:=l.foldl (λacc e=>pM e acc) []
theorem CZ (e:ai):∀l,(pM e l).length=l.length+1
 | []=>rfl
 | b :: l=>by
  unfold pM;split
  . rfl
  . simp [CZ e l]
theorem Nj (l:List ai) (e:ai):jW (l ++ [e])=pM e (jW l):=by unfold jW;rw [List.foldl_append];rfl
theorem Ni {l:List ai} {j:Nat} (h:j<l.length):jW (l.take (j+1))=pM l[j] (jW (l.take j)):=by rw [<-Nj,List.take_append_getElem h]
theorem Fa (l:List ai):∀acc:List ai,(l.foldl (λacc e=>pM e acc) acc).length=acc.length+l.length:=by
 induction l with
 | nil=>intro acc;simp
 | cons e l ih=>intro acc;rw [List.foldl_cons,ih,CZ,List.length_cons];omega
theorem oo (l:List ai):(jW l).length=l.length:=by unfold jW;rw [Fa];simp
theorem QL {e:ai}:∀ {l:List ai} {k:Nat},k<=l.length->(∀i (hi:i<l.length),i<k->bO e l[i]=false)->(∀h:k<l.length,bO e l[k]=true)->pM e l=l.take k ++ ([e] ++ l.drop k)
 | [],k,hk,_,_=>by
  obtain rfl:k=0:=by simpa using hk
  rfl
 | b :: l,0,_,_,hs=>by
  have:bO e b=true:=hs (by simp);unfold pM;rw [if_pos this];rfl
 | b :: l,k+1,hk,hm,hs=>by
  have h0:bO e b=false:=hm 0 (by simp) (by omega);unfold pM;rw [h0,if_neg (by decide)];rw [QL (l:=l) (k:=k) (by simpa using hk) (λi hi hik=>hm (i+1) (by simpa using hi) (by omega)) (λh=>hs (by simpa using h))];rfl
theorem NP {a b c:ai} (h1:bO a b=true) (h2:bO b c=true):bO a c=true:=by
 unfold bO at *
 simp only [decide_eq_true_eq] at *
 omega
def kR (l:List ai) (f:ai):Option ai:=l.find? (λe => !bO e f)
theorem Fe (f e:ai):∀l,kR (pM e l) f=if bO e f=true then kR l f else (match kR l f with|none=>some e|some a=>if bO e a=true then some e else some a)
 | []=>by
  unfold pM kR;cases h:bO e f <;> simp [h]
 | b :: l=>by
  have ih:=Fe f e l;unfold kR at *
  unfold pM;by_cases hb:bO e b=true
  . rw [if_pos hb];by_cases hf:bO e f=true
    . rw [if_pos hf,List.find?_cons];simp [hf]
    . have hf':bO e f=false:=by simpa using hf
      have hbf:bO b f=false:=by
       cases h:bO b f with
       | false=>rfl
       | true=>exact absurd (NP hb h) hf
      rw [if_neg hf,List.find?_cons,List.find?_cons];simp [hf',hbf,hb]
  . rw [if_neg hb,List.find?_cons,List.find?_cons];cases hbf:bO b f with
    | false=>simp [hb]
    | true=>simp only [Bool.not_true];exact ih
def oQ (s:List ai) (f:ai) (a:ai×Bool):Prop:=kR s f=(if a.2=true then some a.1 else none)/\(a.2=false->a.1=ai.zero)
theorem oQ.step {s:List ai} {f:ai} {a:ai×Bool} (h:oQ s f a) (e:ai):oQ (pM e s) f (dP f a e):=by
 obtain ⟨h1,h2⟩:=h;unfold oQ;rw [Fe,h1];unfold dP;obtain ⟨x,b⟩:=a;cases hf:bO e f <;> cases b <;> simp_all
 cases hx:bO e x <;> simp
theorem oQ.all {f:ai} (l:List ai):∀ (s:List ai) (a:ai×Bool),oQ s f a->oQ (l.foldl (λacc e=>pM e acc) s) f (l.foldl (dP f) a):=by
 induction l with
 | nil=>intro s a h;exact h
 | cons e l ih=>intro s a h;exact ih _ _ (h.step e)
theorem pK (l:List ai) (f:ai):oQ (jW l) f (ae.dU l f):=oQ.all l [] (ai.zero,false) ⟨rfl,λ_=>rfl⟩
open Go.RowKit Go.Proofs
theorem adU:(Tryz.prog.info? 46).map (λi=>(i.zero,i.size,i.bytes))=some (some (.agg #[.int .u64 0,.int .u64 0,.int .u64 0]),3,24):=by kernel_rfl
theorem Td (l:List ai):∀u∈cB l,u.oneCell'=true:=by
 intro u hu;unfold cB at hu;simp only [List.mem_flatMap,e3,List.mem_cons,List.not_mem_nil,or_false] at hu;obtain ⟨e,-,rfl|rfl|rfl⟩:=hu <;> rfl
theorem ah.RS {w w':World} {row:Option Nat} (hg:w.grownBy w' row):ah (λb=>row=some b) w w':=⟨hg.os,hg.tape,hg.output,hg.size,λk hk hx=>hg.block k hk (λe=>hx e.symm)⟩
theorem aK {w:World} {o:Oper} {a:Act} {K:Act->World->Prop} {Q:Exit->Act->World->Prop} (s x:Operand)
 (ho:o.op = .call { callee := .builtin .append,args := #[s,x],argTypes := #[68,68]})
 (base:Nat) (v:Value) (l1:List ai) (n1:Nat) (hn1:n1=l1.length) (hs:a.eval s=v) (hown:w.ownsRow base 46 3 v n1 (cB l1))
 (ad:Addr) (m c:Nat) (l2:List ai) (hm:l2.length=m) (hx:a.eval x = .slice (some ad) m c) (hc:∀j u,(cB l2)[j]?=some u->w.cell? (ad.add j)=some u) (hlen:n1+m<=1000000) (hbase:base<=w.heap.size)
 (h:∀v' w',w'.ownsRow base 46 3 v' (n1+m) (cB (l1 ++ l2))->ah (λb=>base<=b) w w'->w.grownBy w' v.ownBlock->K (a.put o.dst v') w'):o.wp Tryz.prog a w K Q:=by
 obtain ⟨i0,hi,hz0,hz1,hz2⟩:=info_parts adU;subst hn1;refine wp_append_own _ _ _ 68 ho base 46 i0 (.agg #[.int .u64 0,.int .u64 0,.int .u64 0]) 3 24 Tryz.underlying68 hi hz0 hz1 hz2 rfl (by decide) _ _ _ hs hown ad m c (cB l2) hx (by rw [mQ,hm]) hc (Td _) (by unfold maxLen;omega) (by omega) hbase ?_;intro v' w' h1 h2 _;exact h v' w' (by rw [kP];exact h1) ((ah.RS h2).mono (λb _ e=>(hown.lt b e).1)) h2
theorem iH {w:World} {B:Nat} {T:TypeId} {x y z:Value} (h:af w B T #[x,y,z]):∀j u,[x,y,z][j]?=some u->w.cell? ((⟨B,0,none⟩:Addr).add j)=some u:=by
 intro j u hj;obtain ⟨h0,h1,h2⟩:=cells3 h
 match j,hj with
 | 0,e=>simp only [List.getElem?_cons_zero,Option.some.injEq] at e;subst e;exact h0
 | 1,e=>simp only [List.getElem?_cons_succ,List.getElem?_cons_zero,Option.some.injEq] at e;subst e;simpa [Addr.add] using h1
 | 2,e=>simp only [List.getElem?_cons_succ,List.getElem?_cons_zero,Option.some.injEq] at e;subst e;simpa [Addr.add] using h2
 | n+3,e=>simp at e
theorem Ru (b o n cap i:Nat) (h:i<=cap) (w:World):(Instr.slice 68 (.slice (some ⟨b,o,none⟩) n cap) none (some (.int .i64 (i:Int))) none).run Tryz.prog w = .ok (.slice (some ⟨b,o,none⟩) i cap) w:=by
 have hsz:=Tryz.sizeOf46 w
 have hb:(Instr.sliceBounds true n cap none (some (.int .i64 (i:Int))) none).run Tryz.prog w = .ok (0,i,cap) w:=by
  simp [Instr.sliceBounds,go_sem,h]
  try omega
 simp only [Instr.slice,Sem.run_bind,run_underlying Tryz.underlying68,Result.andThen,hb,hsz,Sem.run_pure];by_cases hc:cap=0
 . subst hc;obtain rfl:i=0:=by omega
   rfl
 . rw [if_neg (by omega)];simp [Addr.add]
theorem Kr (b n cap i:Nat) (h:i<=n) (hn:n<=cap) (w:World):(Instr.slice 68 (.slice (some ⟨b,0,none⟩) n cap) (some (.int .i64 (i:Int))) none none).run Tryz.prog w = .ok (.slice (some (if cap=i then ⟨b,0,none⟩ else ⟨b,i*3,none⟩)) (n-i) (cap-i)) w:=by
 have hsz:=Tryz.sizeOf46 w
 have hb:(Instr.sliceBounds true n cap (some (.int .i64 (i:Int))) none none).run Tryz.prog w = .ok (i,n,cap) w:=by
  simp [Instr.sliceBounds,go_sem,h]
  try omega
 by_cases hc:cap=i
 . simp only [Instr.slice,Sem.run_bind,run_underlying Tryz.underlying68,Result.andThen,hb,hsz,Sem.run_pure];rw [if_pos hc,if_pos hc]
 . simp only [Instr.slice,Sem.run_bind,run_underlying Tryz.underlying68,Result.andThen,hb,hsz,Sem.run_pure];rw [if_neg hc,if_neg hc];simp [Addr.add];try omega
theorem Nz {w:World} {base size n g cap:Nat} {e:TypeId} {xs:List Value} (h:w.ownsRow base e size (.slice (some ⟨g,0,none⟩) n cap) n xs):base<=g/\g<w.heap.size/\n<=cap:=by
 rcases h.2 with ⟨e,-⟩ | ⟨g',cap',cur,e,hb,hg,hc,-⟩
 . cases e
 . cases e
   exact ⟨hb,(Array.getElem?_eq_some_iff.1 hg).1,hc⟩
theorem Jv {w:World} {base size n:Nat} {e:TypeId} {v:Value} {xs:List Value} (h:w.ownsRow base e size v n xs) (hn:1<=n):∃g cap,v = .slice (some ⟨g,0,none⟩) n cap:=by
 rcases h.2 with ⟨e,h0⟩ | ⟨g',cap',cur,e,hb,hg,hc,-⟩
 . omega
 . exact ⟨_,_,e⟩
theorem Ta (l:List ai) (k i:Nat) (x:Value) (h:(cB (l.take k))[i]?=some x):(cB l)[i]?=some x:=by
 have e:cB l=cB (l.take k) ++ cB (l.drop k):=by rw [<-kP,List.take_append_drop]
 rw [e,List.getElem?_append_left (List.getElem?_eq_some_iff.1 h).1];exact h
theorem Te (l:List ai) (k i:Nat) (hk:k<=l.length) (x:Value) (h:(cB (l.drop k))[i]?=some x):(cB l)[k*3+i]?=some x:=by
 have e:cB l=cB (l.take k) ++ cB (l.drop k):=by rw [<-kP,List.take_append_drop]
 have hl:(cB (l.take k)).length=k*3:=by rw [mQ,List.length_take,Nat.min_eq_left hk]
 rw [e,List.getElem?_append_right (by omega),hl,Nat.add_sub_cancel_left];exact h
theorem Nh (v:Value) (l:List ai) (base:Nat) (w:World) (h:w.ownsRow base 46 3 v l.length (cB l)) (hl:l.length<=1000) :
 Calls Tryz.prog 72 #[v] w λe w' => ∃v',e = .returned v'/\w'.ownsRow w.heap.size 46 3 v' (jW l).length (cB (jW l))/\Below w.heap.size w w':=by
 obtain ⟨a0,cap0,rfl⟩:=bZ h;have HL:=aa h;clear h;go_enter Tryz.func72,Tryz.ntmps72
 go_wp2
 go_loopw [10,3] (λv10 v3 wr => ∃j:Nat,j<=l.length/\v10 = .int .i64 (j:Int)/\∃g cap,v3 = .slice (some ⟨g,0,none⟩) j cap/\wr.ownsRow w.heap.size 46 3 v3 j (cB (jW (l.take j)))/\Below w.heap.size w wr) (λv10 _ _=>l.length-(intOf v10).toNat)
 case atStart=>exact ⟨0,o7 _,rfl,w.heap.size,0,rfl,⟨rfl,.inr ⟨w.heap.size,0,#[],rfl,aL _,af.new _ _ _,by simp,by decide,rfl,by simp [jW,cB]⟩⟩,by go_grown⟩
 case round =>
  obtain ⟨j,hj,rfl,g,cap,rfl,hrow,hB⟩:=hrel;have KR:=aa hrow;have KB:=aa hB;have hwz:=hB.size;clear hrow hB;by_cases hlt:j<l.length
  . have kJ:(j:Int)<(l.length:Int):=by omega
    obtain ⟨ea',agP,e,-,hrow⟩:=kL (aB HL.out (KB.out.mono (aL _)));cases e
    obtain ⟨b,rfl,hbb,hbz,hcl⟩:=hrow (λe=>by rw [e] at hlt;exact absurd hlt (by simp));obtain ⟨g0,g1,g2⟩:=hcl j hlt;have HST:=aa (Ni hlt);have hlen:(jW (l.take j)).length=j:=by rw [oo,List.length_take];omega
    generalize l[j]=en at g0 g1 g2 HST;generalize jW (l.take j)=out at *
    clear hcl hrow;go_upto_region 5 with (fail)
    refine bG (λw2 hw2=>?_);have hb2:Below wr.heap.size wr w2:=by rw [hw2];go_grown
    have B2:=aa (KB.out.trans (hb2.mono KB.out.size));have R2:=aa (aB KR.out hb2);have P2:=aa (show af w2 wr.heap.size 46 #[.int .u64 en.key,.int .u64 en.val,.int .u64 en.hash] by rw [hw2];exact af.new _ _ _);obtain ⟨eb,Vj⟩:=dC wr.heap.size;rw [<-Vj] at P2 ⊢;replace hw2:=aa hw2;have HEB:=aa Vj;have anb:w.heap.size<=eb:=by omega
    clear g0 g1 g2 hbz hb2 Vj KR;go_wp2
    go_loopw [6] (λv6 wx => ∃k:Nat,k<=j/\v6 = .int .i64 (k:Int)/\Below w2.heap.size w2 wx/\∀i (hi:i<out.length),i<k->bO en out[i]=false) (λv6 _=>j-(intOf v6).toNat)
    case atStart=>exact ⟨0,o7 _,rfl,aM _ _,λi hi h=>by omega⟩
    case round =>
     obtain ⟨k,hk,rfl,hB,hcl⟩:=hrel;have KC:=aa hcl;have KB2:=aa hB;have KR:=aa (aB R2.out hB);have KP:=aa (P2.out.below hB P2.out.lt);have KW:=aa (B2.out.trans (hB.mono B2.out.size));obtain ⟨p0,p1,p2⟩:=cells3 KP.out;have zP:=KP.out.lt;have hzx:=hB.size;clear hcl hB;obtain ⟨st,hst⟩:∃st:Bool,st=decide (∃h:k<out.length,bO en out[k]=false):=⟨_,rfl⟩
     obtain ⟨wA,hwA⟩:=dC wr;subst hwA;go_upto_region 6 with (fail)
     go_cut [26] (λv26 wx=>v26 = .bool st/\Below wA.heap.size wA wx)
     case first =>
      by_cases hko:k<j
      . have eQ:(k:Int)<(j:Int):=by omega
        obtain ⟨ga,sF,e,-,hrow⟩:=kL KR.out;cases e
        obtain ⟨gb,e,hgb,hgz,hgc⟩:=hrow (λe=>by rw [e] at hlen;simp at hlen;omega);cases e
        obtain ⟨c0,c1,c2⟩:=hgc k (by omega)
        have ad1:st = !bO en (out[k]'(by omega)):=by
         rw [hst];cases hle:bO en (out[k]'(by omega)) with
         | true=>simp [hle]
         | false=>simp [hle];omega
        generalize (out[k]'(by omega))=ok at c0 c1 c2 ad1;have BF:=aa (λ(w':World)=>Gs en ok w');have HS:=aa ad1;clear hst ad1 hrow hgc;generalize bO en ok=lb at BF HS;have zeb:eb<wA.heap.size:=zP;refine ag (λ_=>False) #[⟨0,0,2^14,64,0⟩,⟨0,0,2^15,8,0⟩,⟨2,2,2^16,2^15,0⟩,⟨5,7,2^17,(2^14+2^16),0⟩,⟨8,15,2^18,2^17,0⟩,⟨16,31,2^19,(2^5+2^18),1⟩,⟨16,31,2^20,(2^3+2^18),0⟩,⟨16,31,2^21,(2^6+2^18),0⟩,⟨208,223,2^22,(2^18+2^20+2^21),0⟩,⟨272,479,2^23,(2^18+2^22),1⟩,⟨560,1023,2^24,(2^18+2^19+2^23),3⟩,⟨1040,2047,2^25,(2^18+2^24),0⟩,⟨2064,4095,2^26,(2^18+2^25),0⟩] 544 [(0,0),(1,0),(2,0),(3,0),(4,0),(5,1),(6,0),(7,0),(8,0),(9,1),(10,3),(11,0),(12,0)] (by kernel_rfl) (by kernel_rfl) (by kernel_rfl) (by kernel_rfl) (by kernel_rfl) (by kernel_rfl) (λc a d v w h=>by cases d <;> exact h) ?_;refine aj ?_;refine aj ?_;refine aj ?_;refine aj ?_;refine aj ?_
        first
         | (refine jR [_,_,_] Tryz.underlying46 ?_)
        try refine aC ?_
        first
         | (refine jS ?_)
        try refine aC ?_
        first
         | (refine jS ?_)
        try refine aC ?_
        first
         | (refine jS ?_)
        try refine aC ?_
        first
         | (refine jR [_,_,_] Tryz.underlying46 ?_)
        try refine aC ?_
        first
         | (refine jD ?_)
         | (refine fA λK hK=>?_;go_wp2_with (go_at_call 73;(with_reducible refine (BF.out _).mono ?_);rintro e w5 ⟨rfl,hb5⟩);refine hK.out _ _ ?_;clear hK K)
        try refine aC ?_
        first
         | (refine jS ?_)
        try refine aC ?_;refine aj ?_
        refine aD ?_;go_wp2;go_meet;exact ⟨by rw [HS.out],Below.bS hb5⟩
      . obtain rfl:k=j:=by omega
        have HS:=aa (show st=false by rw [hst,decide_eq_false_iff_not];rintro ⟨h,-⟩;omega);clear hst;refine ag (λ_=>False) #[⟨0,0,2^14,64,0⟩,⟨0,0,2^15,8,0⟩,⟨2,2,2^16,2^15,0⟩,⟨5,7,2^17,(2^14+2^16),0⟩,⟨8,15,2^18,2^17,0⟩,⟨16,31,2^19,(2^5+2^18),1⟩,⟨16,31,2^20,(2^3+2^18),0⟩,⟨16,31,2^21,(2^6+2^18),0⟩,⟨208,223,2^22,(2^18+2^20+2^21),0⟩,⟨272,479,2^23,(2^18+2^22),1⟩,⟨560,1023,2^24,(2^18+2^19+2^23),3⟩,⟨1040,2047,2^25,(2^18+2^24),0⟩,⟨2064,4095,2^26,(2^18+2^25),0⟩] 544 [(0,0),(1,0),(2,0),(3,0),(4,0),(5,1),(6,0),(7,0),(8,0),(9,1),(10,3),(11,0),(12,0)] (by kernel_rfl) (by kernel_rfl) (by kernel_rfl) (by kernel_rfl) (by kernel_rfl) (by kernel_rfl) (λc a d v w h=>by cases d <;> exact h) ?_;refine aj ?_;refine aj ?_;refine aj ?_;refine aj ?_;refine aj ?_
        first
         | (refine jD ?_)
        try refine aC ?_
        first
         | (refine jD ?_)
        try refine aC ?_
        first
         | (refine jD ?_)
        try refine aC ?_
        first
         | (refine jD ?_)
        try refine aC ?_
        first
         | (refine jD ?_)
        try refine aC ?_
        first
         | (refine jD ?_)
        try refine aC ?_
        first
         | (refine jD ?_)
        try refine aC ?_;refine aj ?_
        refine aD ?_;go_wp2;go_meet;exact ⟨by rw [HS.out],aM _ _ |>.drew⟩
     case rest =>
      obtain ⟨rfl,hBu⟩:=hcut;have UB:=aa hBu;clear hBu p0 p1 p2 zP;obtain ⟨u,hu⟩:=dC wc;subst hu;have UR:=aa (aB KR.out UB.out);have UP:=aa (KP.out.below UB.out KP.out.lt);have UW:=aa (KW.out.trans (UB.out.mono KW.out.size));have UB2:=aa (KB2.out.trans (UB.out.mono KB2.out.size));cases hsb:st with
      | true =>
       have hh:∃h:k<out.length,bO en out[k]=false:=by rw [hsb] at hst;exact of_decide_eq_true hst.symm
       have Qs:=aa (show ∀i (hi:i<out.length),i<k+1->bO en out[i]=false from λi hi h=>by
        by_cases e:i=k
        . subst e;exact hh.2
        . exact KC.out i hi (by omega))
       have hkj:k<j:=by obtain ⟨h,-⟩:=hh;omega
       clear hh hst hsb;go_wp2
       go_roundw
       case rel=>exact ⟨k+1,by omega,by go_num,UB2.out,Qs.out⟩
       case measure=>simp [intOf];omega
      | false =>
       have hno:¬∃h:k<out.length,bO en out[k]=false:=by rw [hsb] at hst;exact of_decide_eq_false hst.symm
       have HIN:=aa (show pM en out=out.take k ++ ([en] ++ out.drop k) from QL (by omega) (λi hi hik=>KC.out i hi hik) (λh=>by
        cases e:bO en out[k] with
        | true=>rfl
        | false=>exact absurd ⟨h,e⟩ hno))
       clear hst hsb hno;obtain ⟨p0,p1,p2⟩:=cells3 UP.out;have zP:=UP.out.lt;obtain ⟨hwg,hgz,agw⟩:=Nz UR.out;have akF:=hlen;have sl1:=Ru g 0 j cap k (by omega);have sl2:=Kr g j cap k hk agw;obtain ⟨ad,had⟩:∃ad:Addr,ad=if cap=k then ⟨g,0,none⟩ else ⟨g,k*3,none⟩:=⟨_,rfl⟩
       rw [<-had] at sl2
       have HC0:∀w',Below u.heap.size u w'->∀i x,(cB out)[i]?=some x->w'.cell? ((⟨g,0,none⟩:Addr).add i)=some x:=λw' hb i x hx=>by
        have:=UR.out.cells (g:=g) rfl i x hx;exact (hb.cell (p:=(⟨g,0,none⟩:Addr).add i) (qx _ _ this)).trans this
       have ru:Hid (∀w',Below u.heap.size u w'->∀i x,(cB (out.take k))[i]?=some x->w'.cell? ((⟨g,0,none⟩:Addr).add i)=some x):=aa λw' hb i x hx=>HC0 w' hb i x (Ta out k i x hx)
       have HC2:Hid (∀w',Below u.heap.size u w'->∀i x,(cB (out.drop k))[i]?=some x->w'.cell? (ad.add i)=some x):=aa λw' hb i x hx=>by
        by_cases hc:cap=k
        . have h0:out.drop k = []:=List.drop_eq_nil_of_le (by omega);rw [h0] at hx;simp [cB] at hx
        . rw [had,if_neg hc,show (⟨g,k*3,none⟩:Addr).add i=(⟨g,0,none⟩:Addr).add (k*3+i) by by_cases hi0:i=0 <;> by_cases hk0:k=0 <;> simp [Addr.add,hi0,hk0] <;> omega];exact HC0 w' hb _ x (Te out k i (by omega) x hx)
       have FIN:Hid (∀v3 w3,w3.ownsRow u.heap.size 46 3 v3 (0+k+1+(j-k)) (cB ([] ++ out.take k ++ [en] ++ out.drop k))->Below u.heap.size u w3->∃j1:Nat,j1<=l.length/\Value.int .i64 ((j:Int)+1) = .int .i64 (j1:Int)/\∃g cap,v3 = .slice (some ⟨g,0,none⟩) j1 cap/\w3.ownsRow w.heap.size 46 3 v3 j1 (cB (jW (l.take j1)))/\Below w.heap.size w w3):=aa λv3 w3 h3 hb3=>by
        rw [show 0+k+1+(j-k)=j+1 by omega,show [] ++ out.take k ++ [en] ++ out.drop k=pM en out by rw [HIN.out];simp,<-HST.out] at h3;obtain ⟨g3,ae1,e3⟩:=Jv h3 (by omega);exact ⟨j+1,by omega,by rw [Int.natCast_add];rfl,g3,ae1,e3,fU h3 UW.out.size,UW.out.trans (hb3.mono UW.out.size)⟩
       clear had HC0;have hnX:¬u.heap.size<=eb:=Nat.not_le.2 UP.out.lt;go_upto_region 8 with (fail)
       refine cZ (λb=>u.heap.size<=b) #[⟨0,0,2^29,0,2⟩,⟨0,0,2^30,8,0⟩,⟨0,0,2^31,64,0⟩,⟨6,6,2^32,(2^30+2^31),0⟩,⟨9,15,2^33,(2^29+2^32),2⟩,⟨0,0,2^34,32,1⟩,⟨32,32,2^35,2^34,3⟩,⟨80,127,2^36,(2^33+2^35),3⟩,⟨0,0,2^37,8,0⟩,⟨0,0,2^38,64,0⟩,⟨768,768,2^39,(2^37+2^38),0⟩,⟨1152,2047,2^40,(2^36+2^39),3⟩,⟨4095,4095,8,2^40,0⟩] 32 (.step 1 0 (.step 2 0 (.step 3 0 (.step 5 1 (.step 8 0 (.step 9 0 (.step 10 0 (.fork (.alt 0 (.fork (.alt 4 (.step 6 3 (.step 7 3 (.step 11 3 (.step 12 0 bu.done)))) (.alt 6 (.step 4 2 (.step 7 3 (.step 11 3 (.step 12 0 bu.done)))) bu.none))) (.alt 6 (.step 0 2 (.step 4 2 (.step 7 3 (.step 11 3 (.step 12 0 bu.done))))) bu.none)))))))))) (by kernel_rfl) (by kernel_rfl) (by kernel_rfl) (by kernel_rfl) (by kernel_rfl) (by kernel_rfl) (λc a d v w h=>by cases d <;> exact h) ?_;refine cO ?_;refine cO ?_;refine cO ?_;refine ztL [_,_,_] Tryz.underlying46 ?_
       try refine bF ?_;refine cO ?_;refine cO ?_;refine cO ?_
       refine BH (λK hK=>?_) λK hK=>?_
       (go_wp2_with (fail);refine eQ hK (h:=?_);clear hK K)
       try refine bF ?_
       refine BH (λK hK=>?_) λK hK=>?_
       ((first|(refine aK _ _ rfl u.heap.size _ [] 0 rfl rfl ⟨rfl,.inr ⟨_,0,#[],rfl,(by exact aL _),(by exact af.new _ _ _),by simp,by decide,rfl,rfl⟩⟩ ⟨g,0,none⟩ k cap (out.take k) (by rw [List.length_take];omega) rfl (ru.out _ (by go_grown)) (by omega) (by simp;try omega) ?_;intro v1 w1 hr1 hc1 hg1;have R1:=aa hr1;have B1:=aa (Below.trans (show Below u.heap.size u _ from by go_grown) (hc1.below (n:=u.heap.size) (by simp;try omega) (λb hb e=>absurd e (by omega))));(try have E1:=aa (show af w1 u.heap.size 46 #[.int .u64 en.key,.int .u64 en.val,.int .u64 en.hash] from af.grown (by first|exact af.new _ _ _|exact (af.new _ _ _).alloc _|exact af.aF (by simp)) hg1 (λe=>absurd (Option.some.inj (show some (u.heap.size+1)=some u.heap.size from e)) (by omega))));(try have E1:=aa (show af w1 (u.heap.size+1) 46 #[.int .u64 en.key,.int .u64 en.val,.int .u64 en.hash] from af.grown (by first|exact af.new _ _ _|exact (af.new _ _ _).alloc _|exact af.aF (by simp)) hg1 (λe=>absurd (Option.some.inj (show some u.heap.size=some (u.heap.size+1) from e)) (by omega))));clear hr1 hg1)|(refine aK _ _ rfl u.heap.size _ ([] ++ out.take k) (0+k) (by rw [List.nil_append,List.length_take];omega) rfl (by first|exact R1.out|exact aB R1.out ((aM _ _).alloc (aL _) _)) ⟨_,0,none⟩ 1 1 [en] rfl rfl (by first|exact iO w1 _ _ _ _|exact iH E1.out) (by omega) (by have:=B1.out.size;simp;try omega) ?_;intro v2 w2' hr2 hc2 hg2;have MC:=aa hr2;have nk:=aa (Below.trans (show Below u.heap.size u _ by first|exact B1.out|exact B1.out.alloc B1.out.size _) (hc2.below (n:=u.heap.size) (by have:=B1.out.size;simp;try omega) (λb hb e=>absurd e (by omega))));clear hr2 hg2)|(refine aK _ _ rfl u.heap.size _ ([] ++ out.take k ++ [en]) (0+k+1) (by simp [List.length_take];omega) rfl MC.out ad (j-k) (cap-k) (out.drop k) (by rw [List.length_drop];omega) rfl (HC2.out _ nk.out) (by omega) nk.out.size ?_;intro v3 w3 hr3 hc3 hg3;have R3:=aa hr3;have B3:=aa (nk.out.trans (hc3.below (n:=u.heap.size) nk.out.size (λb hb e=>absurd e (by omega))));clear hr3 hg3));refine eQ hK (h:=?_);clear hK K)
       try refine bF ?_
       refine iC λK hK=>?_;go_wp2_with (fail);refine hK.out _ _ ?_;clear hK K
       try refine bF ?_
       refine iC λK hK=>?_;(first|(refine aK _ _ rfl u.heap.size _ [] 0 rfl rfl ⟨rfl,.inr ⟨_,0,#[],rfl,(by exact aL _),(by first|exact af.new _ _ _|exact (af.new _ _ _).alloc _|exact af.aF (by simp)),by simp,by decide,rfl,rfl⟩⟩ ⟨g,0,none⟩ k cap (out.take k) (by rw [List.length_take];omega) rfl (ru.out _ (by go_grown)) (by omega) (by simp;try omega) ?_;intro v1 w1 hr1 hc1 hg1;have R1:=aa hr1;have B1:=aa (Below.trans (show Below u.heap.size u _ from by go_grown) (hc1.below (n:=u.heap.size) (by simp;try omega) (λb hb e=>absurd e (by omega))));(try have E1:=aa (show af w1 u.heap.size 46 #[.int .u64 en.key,.int .u64 en.val,.int .u64 en.hash] from af.grown (by first|exact af.new _ _ _|exact (af.new _ _ _).alloc _|exact af.aF (by simp)) hg1 (λe=>absurd (Option.some.inj (show some (u.heap.size+1)=some u.heap.size from e)) (by omega))));(try have E1:=aa (show af w1 (u.heap.size+1) 46 #[.int .u64 en.key,.int .u64 en.val,.int .u64 en.hash] from af.grown (by first|exact af.new _ _ _|exact (af.new _ _ _).alloc _|exact af.aF (by simp)) hg1 (λe=>absurd (Option.some.inj (show some u.heap.size=some (u.heap.size+1) from e)) (by omega))));clear hr1 hg1)|(refine aK _ _ rfl u.heap.size _ ([] ++ out.take k) (0+k) (by rw [List.nil_append,List.length_take];omega) rfl (by exact aB R1.out ((aM _ _).alloc (aL _) _)) ⟨_,0,none⟩ 1 1 [en] rfl rfl (by exact iO w1 _ _ _ _) (by omega) (by have:=B1.out.size;simp;try omega) ?_;intro v2 w2' hr2 hc2 hg2;have MC:=aa hr2;have nk:=aa (Below.trans (show Below u.heap.size u _ by exact B1.out.alloc B1.out.size _) (hc2.below (n:=u.heap.size) (by have:=B1.out.size;simp;try omega) (λb hb e=>absurd e (by omega))));clear hr2 hg2)|(refine aK _ _ rfl u.heap.size _ ([] ++ out.take k ++ [en]) (0+k+1) (by simp [List.length_take];omega) rfl MC.out ad (j-k) (cap-k) (out.drop k) (by rw [List.length_drop];omega) rfl (HC2.out _ nk.out) (by omega) nk.out.size ?_;intro v3 w3 hr3 hc3 hg3;have R3:=aa hr3;have B3:=aa (nk.out.trans (hc3.below (n:=u.heap.size) nk.out.size (λb hb e=>absurd e (by omega))));clear hr3 hg3));refine hK.out _ _ ?_;clear hK K
       try refine bF ?_
       refine iC λK hK=>?_;(first|(refine aK _ _ rfl u.heap.size _ [] 0 rfl rfl ⟨rfl,.inr ⟨_,0,#[],rfl,(by exact aL _),(by first|exact af.new _ _ _|exact (af.new _ _ _).alloc _|exact af.aF (by simp)),by simp,by decide,rfl,rfl⟩⟩ ⟨g,0,none⟩ k cap (out.take k) (by rw [List.length_take];omega) rfl (ru.out _ (by go_grown)) (by omega) (by simp;try omega) ?_;intro v1 w1 hr1 hc1 hg1;have R1:=aa hr1;have B1:=aa (Below.trans (show Below u.heap.size u _ from by go_grown) (hc1.below (n:=u.heap.size) (by simp;try omega) (λb hb e=>absurd e (by omega))));(try have E1:=aa (show af w1 u.heap.size 46 #[.int .u64 en.key,.int .u64 en.val,.int .u64 en.hash] from af.grown (by first|exact af.new _ _ _|exact (af.new _ _ _).alloc _|exact af.aF (by simp)) hg1 (λe=>absurd (Option.some.inj (show some (u.heap.size+1)=some u.heap.size from e)) (by omega))));(try have E1:=aa (show af w1 (u.heap.size+1) 46 #[.int .u64 en.key,.int .u64 en.val,.int .u64 en.hash] from af.grown (by first|exact af.new _ _ _|exact (af.new _ _ _).alloc _|exact af.aF (by simp)) hg1 (λe=>absurd (Option.some.inj (show some u.heap.size=some (u.heap.size+1) from e)) (by omega))));clear hr1 hg1)|(refine aK _ _ rfl u.heap.size _ ([] ++ out.take k) (0+k) (by rw [List.nil_append,List.length_take];omega) rfl (by first|exact R1.out|exact aB R1.out ((aM _ _).alloc (aL _) _)) ⟨_,0,none⟩ 1 1 [en] rfl rfl (by first|exact iO w1 _ _ _ _|exact iH E1.out) (by omega) (by have:=B1.out.size;simp;try omega) ?_;intro v2 w2' hr2 hc2 hg2;have MC:=aa hr2;have nk:=aa (Below.trans (show Below u.heap.size u _ by first|exact B1.out|exact B1.out.alloc B1.out.size _) (hc2.below (n:=u.heap.size) (by have:=B1.out.size;simp;try omega) (λb hb e=>absurd e (by omega))));clear hr2 hg2)|(refine aK _ _ rfl u.heap.size _ ([] ++ out.take k ++ [en]) (0+k+1) (by simp [List.length_take];omega) rfl MC.out ad (j-k) (cap-k) (out.drop k) (by rw [List.length_drop];omega) rfl (HC2.out _ nk.out) (by omega) nk.out.size ?_;intro v3 w3 hr3 hc3 hg3;have R3:=aa hr3;have B3:=aa (nk.out.trans (hc3.below (n:=u.heap.size) nk.out.size (λb hb e=>absurd e (by omega))));clear hr3 hg3));refine hK.out _ _ ?_;clear hK K
       try refine bF ?_;refine cO ?_
       refine bP ?_
       rotate_left 1
       (go_wp2_with (fail);refine eQ hK (h:=?_);clear hK K)
       try refine bF ?_
       refine qU λK hK=>?_;(first|(refine aK _ _ rfl u.heap.size _ [] 0 rfl rfl ⟨rfl,.inr ⟨_,0,#[],rfl,(by exact aL _),(by exact (af.new _ _ _).alloc _),by simp,by decide,rfl,rfl⟩⟩ ⟨g,0,none⟩ k cap (out.take k) (by rw [List.length_take];omega) rfl (ru.out _ (by go_grown)) (by omega) (by simp;try omega) ?_;intro v1 w1 hr1 hc1 hg1;have R1:=aa hr1;have B1:=aa (Below.trans (show Below u.heap.size u _ from by go_grown) (hc1.below (n:=u.heap.size) (by simp;try omega) (λb hb e=>absurd e (by omega))));(try have E1:=aa (show af w1 u.heap.size 46 #[.int .u64 en.key,.int .u64 en.val,.int .u64 en.hash] from af.grown (by first|exact af.new _ _ _|exact (af.new _ _ _).alloc _|exact af.aF (by simp)) hg1 (λe=>absurd (Option.some.inj (show some (u.heap.size+1)=some u.heap.size from e)) (by omega))));(try have E1:=aa (show af w1 (u.heap.size+1) 46 #[.int .u64 en.key,.int .u64 en.val,.int .u64 en.hash] from af.grown (by exact af.aF (by simp)) hg1 (λe=>absurd (Option.some.inj (show some u.heap.size=some (u.heap.size+1) from e)) (by omega))));clear hr1 hg1)|(refine aK _ _ rfl u.heap.size _ ([] ++ out.take k) (0+k) (by rw [List.nil_append,List.length_take];omega) rfl (by first|exact R1.out|exact aB R1.out ((aM _ _).alloc (aL _) _)) ⟨_,0,none⟩ 1 1 [en] rfl rfl (by first|exact iO w1 _ _ _ _|exact iH E1.out) (by omega) (by have:=B1.out.size;simp;try omega) ?_;intro v2 w2' hr2 hc2 hg2;have MC:=aa hr2;have nk:=aa (Below.trans (show Below u.heap.size u _ by first|exact B1.out|exact B1.out.alloc B1.out.size _) (hc2.below (n:=u.heap.size) (by have:=B1.out.size;simp;try omega) (λb hb e=>absurd e (by omega))));clear hr2 hg2)|(refine aK _ _ rfl u.heap.size _ ([] ++ out.take k ++ [en]) (0+k+1) (by simp [List.length_take];omega) rfl MC.out ad (j-k) (cap-k) (out.drop k) (by rw [List.length_drop];omega) rfl (HC2.out _ nk.out) (by omega) nk.out.size ?_;intro v3 w3 hr3 hc3 hg3;have R3:=aa hr3;have B3:=aa (nk.out.trans (hc3.below (n:=u.heap.size) nk.out.size (λb hb e=>absurd e (by omega))));clear hr3 hg3));refine eQ hK (h:=?_);clear hK K
       try refine bF ?_
       refine iC λK hK=>?_;(first|(refine aK _ _ rfl u.heap.size _ [] 0 rfl rfl ⟨rfl,.inr ⟨_,0,#[],rfl,(by exact aL _),(by first|exact af.new _ _ _|exact (af.new _ _ _).alloc _|exact af.aF (by simp)),by simp,by decide,rfl,rfl⟩⟩ ⟨g,0,none⟩ k cap (out.take k) (by rw [List.length_take];omega) rfl (ru.out _ (by go_grown)) (by omega) (by simp;try omega) ?_;intro v1 w1 hr1 hc1 hg1;have R1:=aa hr1;have B1:=aa (Below.trans (show Below u.heap.size u _ from by go_grown) (hc1.below (n:=u.heap.size) (by simp;try omega) (λb hb e=>absurd e (by omega))));(try have E1:=aa (show af w1 u.heap.size 46 #[.int .u64 en.key,.int .u64 en.val,.int .u64 en.hash] from af.grown (by first|exact af.new _ _ _|exact (af.new _ _ _).alloc _|exact af.aF (by simp)) hg1 (λe=>absurd (Option.some.inj (show some (u.heap.size+1)=some u.heap.size from e)) (by omega))));(try have E1:=aa (show af w1 (u.heap.size+1) 46 #[.int .u64 en.key,.int .u64 en.val,.int .u64 en.hash] from af.grown (by first|exact af.new _ _ _|exact (af.new _ _ _).alloc _|exact af.aF (by simp)) hg1 (λe=>absurd (Option.some.inj (show some u.heap.size=some (u.heap.size+1) from e)) (by omega))));clear hr1 hg1)|(refine aK _ _ rfl u.heap.size _ ([] ++ out.take k) (0+k) (by rw [List.nil_append,List.length_take];omega) rfl (by exact R1.out) ⟨_,0,none⟩ 1 1 [en] rfl rfl (by exact iH E1.out) (by omega) (by have:=B1.out.size;simp;try omega) ?_;intro v2 w2' hr2 hc2 hg2;have MC:=aa hr2;have nk:=aa (Below.trans (show Below u.heap.size u _ by exact B1.out) (hc2.below (n:=u.heap.size) (by have:=B1.out.size;simp;try omega) (λb hb e=>absurd e (by omega))));clear hr2 hg2)|(refine aK _ _ rfl u.heap.size _ ([] ++ out.take k ++ [en]) (0+k+1) (by simp [List.length_take];omega) rfl MC.out ad (j-k) (cap-k) (out.drop k) (by rw [List.length_drop];omega) rfl (HC2.out _ nk.out) (by omega) nk.out.size ?_;intro v3 w3 hr3 hc3 hg3;have R3:=aa hr3;have B3:=aa (nk.out.trans (hc3.below (n:=u.heap.size) nk.out.size (λb hb e=>absurd e (by omega))));clear hr3 hg3));refine hK.out _ _ ?_;clear hK K
       try refine bF ?_
       refine iC λK hK=>?_;(first|(refine aK _ _ rfl u.heap.size _ [] 0 rfl rfl ⟨rfl,.inr ⟨_,0,#[],rfl,(by exact aL _),(by first|exact af.new _ _ _|exact (af.new _ _ _).alloc _|exact af.aF (by simp)),by simp,by decide,rfl,rfl⟩⟩ ⟨g,0,none⟩ k cap (out.take k) (by rw [List.length_take];omega) rfl (ru.out _ (by go_grown)) (by omega) (by simp;try omega) ?_;intro v1 w1 hr1 hc1 hg1;have R1:=aa hr1;have B1:=aa (Below.trans (show Below u.heap.size u _ from by go_grown) (hc1.below (n:=u.heap.size) (by simp;try omega) (λb hb e=>absurd e (by omega))));(try have E1:=aa (show af w1 u.heap.size 46 #[.int .u64 en.key,.int .u64 en.val,.int .u64 en.hash] from af.grown (by first|exact af.new _ _ _|exact (af.new _ _ _).alloc _|exact af.aF (by simp)) hg1 (λe=>absurd (Option.some.inj (show some (u.heap.size+1)=some u.heap.size from e)) (by omega))));(try have E1:=aa (show af w1 (u.heap.size+1) 46 #[.int .u64 en.key,.int .u64 en.val,.int .u64 en.hash] from af.grown (by first|exact af.new _ _ _|exact (af.new _ _ _).alloc _|exact af.aF (by simp)) hg1 (λe=>absurd (Option.some.inj (show some u.heap.size=some (u.heap.size+1) from e)) (by omega))));clear hr1 hg1)|(refine aK _ _ rfl u.heap.size _ ([] ++ out.take k) (0+k) (by rw [List.nil_append,List.length_take];omega) rfl (by first|exact R1.out|exact aB R1.out ((aM _ _).alloc (aL _) _)) ⟨_,0,none⟩ 1 1 [en] rfl rfl (by first|exact iO w1 _ _ _ _|exact iH E1.out) (by omega) (by have:=B1.out.size;simp;try omega) ?_;intro v2 w2' hr2 hc2 hg2;have MC:=aa hr2;have nk:=aa (Below.trans (show Below u.heap.size u _ by first|exact B1.out|exact B1.out.alloc B1.out.size _) (hc2.below (n:=u.heap.size) (by have:=B1.out.size;simp;try omega) (λb hb e=>absurd e (by omega))));clear hr2 hg2)|(refine aK _ _ rfl u.heap.size _ ([] ++ out.take k ++ [en]) (0+k+1) (by simp [List.length_take];omega) rfl MC.out ad (j-k) (cap-k) (out.drop k) (by rw [List.length_drop];omega) rfl (HC2.out _ nk.out) (by omega) nk.out.size ?_;intro v3 w3 hr3 hc3 hg3;have R3:=aa hr3;have B3:=aa (nk.out.trans (hc3.below (n:=u.heap.size) nk.out.size (λb hb e=>absurd e (by omega))));clear hr3 hg3));refine hK.out _ _ ?_;clear hK K
       try refine bF ?_;refine cO ?_
       refine bP ?_
       rotate_left 1
       rotate_right 2
       rotate_left 2
       (go_wp2_with (fail);refine eQ hK (h:=?_);clear hK K)
       try refine bF ?_
       refine qU λK hK=>?_;go_wp2_with (fail);refine eQ hK (h:=?_);clear hK K
       try refine bF ?_
       refine qU λK hK=>?_;(first|(refine aK _ _ rfl u.heap.size _ [] 0 rfl rfl ⟨rfl,.inr ⟨_,0,#[],rfl,(by simp),(by exact af.aF (by simp)),by simp,by decide,rfl,rfl⟩⟩ ⟨g,0,none⟩ k cap (out.take k) (by rw [List.length_take];omega) rfl (ru.out _ (by go_grown)) (by omega) (by simp;try omega) ?_;intro v1 w1 hr1 hc1 hg1;have R1:=aa hr1;have B1:=aa (Below.trans (show Below u.heap.size u _ from by go_grown) (hc1.below (n:=u.heap.size) (by simp;try omega) (λb hb e=>absurd e (by omega))));(try have E1:=aa (show af w1 u.heap.size 46 #[.int .u64 en.key,.int .u64 en.val,.int .u64 en.hash] from af.grown (by exact (af.new _ _ _).alloc _) hg1 (λe=>absurd (Option.some.inj (show some (u.heap.size+1)=some u.heap.size from e)) (by omega))));(try have E1:=aa (show af w1 (u.heap.size+1) 46 #[.int .u64 en.key,.int .u64 en.val,.int .u64 en.hash] from af.grown (by first|exact af.new _ _ _|exact (af.new _ _ _).alloc _|exact af.aF (by simp)) hg1 (λe=>absurd (Option.some.inj (show some u.heap.size=some (u.heap.size+1) from e)) (by omega))));clear hr1 hg1)|(refine aK _ _ rfl u.heap.size _ ([] ++ out.take k) (0+k) (by rw [List.nil_append,List.length_take];omega) rfl (by first|exact R1.out|exact aB R1.out ((aM _ _).alloc (aL _) _)) ⟨_,0,none⟩ 1 1 [en] rfl rfl (by first|exact iO w1 _ _ _ _|exact iH E1.out) (by omega) (by have:=B1.out.size;simp;try omega) ?_;intro v2 w2' hr2 hc2 hg2;have MC:=aa hr2;have nk:=aa (Below.trans (show Below u.heap.size u _ by first|exact B1.out|exact B1.out.alloc B1.out.size _) (hc2.below (n:=u.heap.size) (by have:=B1.out.size;simp;try omega) (λb hb e=>absurd e (by omega))));clear hr2 hg2)|(refine aK _ _ rfl u.heap.size _ ([] ++ out.take k ++ [en]) (0+k+1) (by simp [List.length_take];omega) rfl MC.out ad (j-k) (cap-k) (out.drop k) (by rw [List.length_drop];omega) rfl (HC2.out _ nk.out) (by omega) nk.out.size ?_;intro v3 w3 hr3 hc3 hg3;have R3:=aa hr3;have B3:=aa (nk.out.trans (hc3.below (n:=u.heap.size) nk.out.size (λb hb e=>absurd e (by omega))));clear hr3 hg3));refine eQ hK (h:=?_);clear hK K
       try refine bF ?_
       refine iC λK hK=>?_;(first|(refine aK _ _ rfl u.heap.size _ [] 0 rfl rfl ⟨rfl,.inr ⟨_,0,#[],rfl,(by exact aL _),(by first|exact af.new _ _ _|exact (af.new _ _ _).alloc _|exact af.aF (by simp)),by simp,by decide,rfl,rfl⟩⟩ ⟨g,0,none⟩ k cap (out.take k) (by rw [List.length_take];omega) rfl (ru.out _ (by go_grown)) (by omega) (by simp;try omega) ?_;intro v1 w1 hr1 hc1 hg1;have R1:=aa hr1;have B1:=aa (Below.trans (show Below u.heap.size u _ from by go_grown) (hc1.below (n:=u.heap.size) (by simp;try omega) (λb hb e=>absurd e (by omega))));(try have E1:=aa (show af w1 u.heap.size 46 #[.int .u64 en.key,.int .u64 en.val,.int .u64 en.hash] from af.grown (by first|exact af.new _ _ _|exact (af.new _ _ _).alloc _|exact af.aF (by simp)) hg1 (λe=>absurd (Option.some.inj (show some (u.heap.size+1)=some u.heap.size from e)) (by omega))));(try have E1:=aa (show af w1 (u.heap.size+1) 46 #[.int .u64 en.key,.int .u64 en.val,.int .u64 en.hash] from af.grown (by first|exact af.new _ _ _|exact (af.new _ _ _).alloc _|exact af.aF (by simp)) hg1 (λe=>absurd (Option.some.inj (show some u.heap.size=some (u.heap.size+1) from e)) (by omega))));clear hr1 hg1)|(refine aK _ _ rfl u.heap.size _ ([] ++ out.take k) (0+k) (by rw [List.nil_append,List.length_take];omega) rfl (by exact R1.out) ⟨_,0,none⟩ 1 1 [en] rfl rfl (by exact iH E1.out) (by omega) (by have:=B1.out.size;simp;try omega) ?_;intro v2 w2' hr2 hc2 hg2;have MC:=aa hr2;have nk:=aa (Below.trans (show Below u.heap.size u _ by exact B1.out) (hc2.below (n:=u.heap.size) (by have:=B1.out.size;simp;try omega) (λb hb e=>absurd e (by omega))));clear hr2 hg2)|(refine aK _ _ rfl u.heap.size _ ([] ++ out.take k ++ [en]) (0+k+1) (by simp [List.length_take];omega) rfl MC.out ad (j-k) (cap-k) (out.drop k) (by rw [List.length_drop];omega) rfl (HC2.out _ nk.out) (by omega) nk.out.size ?_;intro v3 w3 hr3 hc3 hg3;have R3:=aa hr3;have B3:=aa (nk.out.trans (hc3.below (n:=u.heap.size) nk.out.size (λb hb e=>absurd e (by omega))));clear hr3 hg3));refine hK.out _ _ ?_;clear hK K
       try refine bF ?_
       refine iC λK hK=>?_;(first|(refine aK _ _ rfl u.heap.size _ [] 0 rfl rfl ⟨rfl,.inr ⟨_,0,#[],rfl,(by exact aL _),(by first|exact af.new _ _ _|exact (af.new _ _ _).alloc _|exact af.aF (by simp)),by simp,by decide,rfl,rfl⟩⟩ ⟨g,0,none⟩ k cap (out.take k) (by rw [List.length_take];omega) rfl (ru.out _ (by go_grown)) (by omega) (by simp;try omega) ?_;intro v1 w1 hr1 hc1 hg1;have R1:=aa hr1;have B1:=aa (Below.trans (show Below u.heap.size u _ from by go_grown) (hc1.below (n:=u.heap.size) (by simp;try omega) (λb hb e=>absurd e (by omega))));(try have E1:=aa (show af w1 u.heap.size 46 #[.int .u64 en.key,.int .u64 en.val,.int .u64 en.hash] from af.grown (by first|exact af.new _ _ _|exact (af.new _ _ _).alloc _|exact af.aF (by simp)) hg1 (λe=>absurd (Option.some.inj (show some (u.heap.size+1)=some u.heap.size from e)) (by omega))));(try have E1:=aa (show af w1 (u.heap.size+1) 46 #[.int .u64 en.key,.int .u64 en.val,.int .u64 en.hash] from af.grown (by first|exact af.new _ _ _|exact (af.new _ _ _).alloc _|exact af.aF (by simp)) hg1 (λe=>absurd (Option.some.inj (show some u.heap.size=some (u.heap.size+1) from e)) (by omega))));clear hr1 hg1)|(refine aK _ _ rfl u.heap.size _ ([] ++ out.take k) (0+k) (by rw [List.nil_append,List.length_take];omega) rfl (by first|exact R1.out|exact aB R1.out ((aM _ _).alloc (aL _) _)) ⟨_,0,none⟩ 1 1 [en] rfl rfl (by first|exact iO w1 _ _ _ _|exact iH E1.out) (by omega) (by have:=B1.out.size;simp;try omega) ?_;intro v2 w2' hr2 hc2 hg2;have MC:=aa hr2;have nk:=aa (Below.trans (show Below u.heap.size u _ by first|exact B1.out|exact B1.out.alloc B1.out.size _) (hc2.below (n:=u.heap.size) (by have:=B1.out.size;simp;try omega) (λb hb e=>absurd e (by omega))));clear hr2 hg2)|(refine aK _ _ rfl u.heap.size _ ([] ++ out.take k ++ [en]) (0+k+1) (by simp [List.length_take];omega) rfl MC.out ad (j-k) (cap-k) (out.drop k) (by rw [List.length_drop];omega) rfl (HC2.out _ nk.out) (by omega) nk.out.size ?_;intro v3 w3 hr3 hc3 hg3;have R3:=aa hr3;have B3:=aa (nk.out.trans (hc3.below (n:=u.heap.size) nk.out.size (λb hb e=>absurd e (by omega))));clear hr3 hg3));refine hK.out _ _ ?_;clear hK K
       try refine bF ?_;refine cO ?_
       refine bP ?_
       rotate_left 1
       rotate_right 3
       all_goals go_wp2
       all_goals go_roundw
       all_goals first|exact FIN.out _ _ R3.out B3.out|(simp [intOf];omega)
  . obtain rfl:j=l.length:=by omega
    go_wp2;go_ret;refine ⟨_,rfl,?_,KB.out⟩;have:=KR.out;rw [List.take_length] at this;rw [oo];exact this
theorem SQ {l:List ai} {f:ai} {k:Nat} (hk:k<l.length) (hm:∀i (hi:i<l.length),i<k->bO l[i] f=true) (hs:bO l[k] f=false):kR l f=some l[k]:=by
 unfold kR;rw [List.find?_eq_some_iff_getElem];refine ⟨by simp [hs],k,hk,rfl,λj hj=>?_⟩;simp [hm j (by omega) hj]
theorem L6 {l:List ai} {f:ai} (hm:∀i (hi:i<l.length),bO l[i] f=true):kR l f=none:=by
 unfold kR;rw [List.find?_eq_none];intro x hx;obtain ⟨i,hi,rfl⟩:=List.getElem_of_mem hx;simp [hm i hi]
theorem NQ {l:List ai} {f e:ai} (h:kR (jW l) f=some e):ae.dU l f=(e,true):=by
 obtain ⟨h1,h2⟩:=pK l f;rw [h] at h1;generalize ae.dU l f=r at h1 h2;obtain ⟨x,b⟩:=r;cases b with
 | true=>simp at h1;rw [h1]
 | false=>simp at h1
theorem Sk {l:List ai} {f:ai} (h:kR (jW l) f=none):ae.dU l f=(ai.zero,false):=by
 obtain ⟨h1,h2⟩:=pK l f;rw [h] at h1;generalize ae.dU l f=r at h1 h2;obtain ⟨x,b⟩:=r;cases b with
 | true=>simp at h1
 | false=>rw [show x=ai.zero from h2 rfl]
theorem Nr (v:Value) (l:List ai) (base:Nat) (hs ky:Int) (w:World) (h:w.ownsRow base 46 3 v l.length (cB l)) (hl:l.length<=1000) :
 Calls Tryz.prog 26 #[v,.int .u64 hs,.int .u64 ky] w λe w'=>e = .returned (.tuple #[.agg #[.int .u64 (ae.dU l ⟨ky,0,hs⟩).1.key,.int .u64 (ae.dU l ⟨ky,0,hs⟩).1.val,.int .u64 (ae.dU l ⟨ky,0,hs⟩).1.hash],.bool (ae.dU l ⟨ky,0,hs⟩).2])/\Below w.heap.size w w':=by
 have SO:=aa (λ(w':World) (h':w'.ownsRow base 46 3 v l.length (cB l))=>Nh v l base w' h' hl);have HL:=aa h;have LY:=aa (λe=>NQ (l:=l) (f:=⟨ky,0,hs⟩) (e:=e));have LN:=aa (Sk (l:=l) (f:=⟨ky,0,hs⟩));have HSL:=aa (oo l);generalize ae.dU l ⟨ky,0,hs⟩=res at *
 generalize jW l=s at *
 have hsl:s.length<=1000:=by rw [HSL.out];exact hl
 clear h;go_enter Tryz.func26,Tryz.ntmps26
 go_upto_region 2 with (fail)
 refine bG (λw2 hw2=>?_);obtain ⟨z,hz⟩:=dC w.heap.size;have R2:=aa (show af w2 z 46 #[.int .u64 0,.int .u64 0,.int .u64 0] by rw [hw2,hz];exact (af.new _ _ _).alloc _);have F2:=aa (show af w2 (z+1) 46 #[.int .u64 ky,.int .u64 0,.int .u64 hs] by rw [hw2,hz];exact af.aF (by simp));have B2:=aa (show Below w.heap.size w w2 by rw [hw2];go_grown);rw [<-hz];have HZ:=aa hz;replace hw2:=aa hw2;clear hz
 go_wp2_with (go_at_call 72;(with_reducible refine (SO.out _ (aB HL.out (B2.out.mono (aL _)))).mono ?_);rintro e w3 ⟨sv,rfl,hr3,hb3⟩;obtain ⟨sa,ame,rfl⟩:=bZ hr3;have S3:=aa hr3;have R3:=aa (R2.out.below hb3 R2.out.lt);have F3:=aa (F2.out.below hb3 F2.out.lt);have B3:=aa (B2.out.trans (hb3.mono B2.out.size));clear hr3)
 go_loopw [17] (λv17 wr => ∃k:Nat,k<=s.length/\v17 = .int .i64 (k:Int)/\Below w3.heap.size w3 wr/\∀i (hi:i<s.length),i<k->bO s[i] ⟨ky,0,hs⟩=true) (λv17 _=>s.length-(intOf v17).toNat)
 case atStart=>exact ⟨0,o7 _,rfl,aM _ _,λi hi h=>by omega⟩
 case round =>
  obtain ⟨k,hk,rfl,hB,hcl⟩:=hrel;have KC:=aa hcl;have KB:=aa hB;have KS:=aa (aB S3.out hB);have KR:=aa (R3.out.below hB R3.out.lt);have KF:=aa (F3.out.below hB F3.out.lt);have KW:=aa (B3.out.trans (hB.mono B3.out.size));clear hcl hB;by_cases hlt:k<s.length
  . have kJ:(k:Int)<(s.length:Int):=by omega
    obtain ⟨ea',agP,e,-,hrow⟩:=kL KS.out;cases e
    obtain ⟨b,rfl,hbb,hbz,hcl⟩:=hrow (λe=>by rw [e] at hlt;exact absurd hlt (by simp));obtain ⟨g0,g1,g2⟩:=hcl k hlt;obtain ⟨en,hen⟩:=dC (s[k]);rw [<-hen] at g0 g1 g2;have HEN:=aa hen;clear hcl hrow hen;have BF:=aa (λ(w':World)=>show Calls Tryz.prog 73 #[.agg #[.int .u64 en.key,.int .u64 en.val,.int .u64 en.hash],.agg #[.int .u64 ky,.int .u64 0,.int .u64 hs]] w' λe w''=>e = .returned (.bool (bO en ⟨ky,0,hs⟩))/\Below w'.heap.size w' w'' from Gs en ⟨ky,0,hs⟩ w');go_upto_region 5 with (fail)
    refine bG (λw4 hw4=>?_);have hb4:Below wr.heap.size wr w4:=by rw [hw4];go_grown
    have B4:=aa (KB.out.trans (hb4.mono KB.out.size));have R4:=aa (KR.out.below hb4 KR.out.lt);have F4:=aa (KF.out.below hb4 KF.out.lt);have P4:=aa (show af w4 wr.heap.size 46 #[.int .u64 en.key,.int .u64 en.val,.int .u64 en.hash] by rw [hw4];exact af.new _ _ _);obtain ⟨eb,Vj⟩:=dC wr.heap.size;rw [<-Vj] at P4 ⊢;replace hw4:=aa hw4;replace Vj:=aa Vj;obtain ⟨p0,p1,p2⟩:=cells3 P4.out;have zP:=P4.out.lt;obtain ⟨f0,f1,f2⟩:=cells3 F4.out;have zF:=F4.out.lt;clear g0 g1 g2 hbz hb4;cases hle:bO en ⟨ky,0,hs⟩ with
    | true =>
     rw [hle] at BF
     have Qs:=aa (show ∀i (hi:i<s.length),i<k+1->bO s[i] ⟨ky,0,hs⟩=true from λi hi h=>by
      by_cases e:i=k
      . subst e;rw [<-HEN.out];exact hle
      . exact KC.out i hi (by omega))
     clear hle
     go_wp2_with (go_at_call 73;(with_reducible refine (BF.out _).mono ?_);rintro e w5 ⟨rfl,hb5⟩;have B5:=aa (B4.out.trans (hb5.mono B4.out.size)))
     go_roundw
     case rel=>exact ⟨k+1,by omega,by go_num,B5.out,Qs.out⟩
     case measure=>simp [intOf];omega
    | false =>
     rw [hle] at BF;have HR:=aa (LY.out en (by rw [HEN.out];exact SQ hlt KC.out (by rw [<-HEN.out];exact hle)));clear hle;go_upto_region 6 with (go_at_call 73;(with_reducible refine (BF.out _).mono ?_);rintro e w5 ⟨rfl,hb5⟩;have B5:=aa (B4.out.trans (hb5.mono B4.out.size));have P5:=aa (P4.out.below hb5 P4.out.lt);have R5:=aa (R4.out.below hb5 R4.out.lt);have q5:=cells3 P5.out;have q50:=q5.1;have q51:=q5.2.1;have q52:=q5.2.2;have zP5:=P5.out.lt;clear q5 p0 p1 p2 zP)
     obtain ⟨r0,r1,r2⟩:=cells3 R5.out;have zR:=R5.out.lt;have fR:=λj=>R5.out.frozen j;go_wp2;refine aJ (λWf hWf=>?_);have hR:af Wf z 46 #[.int .u64 en.key,.int .u64 en.val,.int .u64 en.hash]:=by rw [hWf];exact ((R5.out.set 0 _).set 1 _).set 2 _
     have hC:ah (λb=>b=z) w5 Wf:=by rw [hWf];exact (((ah.refl _ _).set1 _ _).set1 _ _).set1 _ _
     obtain ⟨x0,x1,x2⟩:=cells3 hR;have hres:=HR.out;subst hres;exact bodyPost_ret (v := .tuple #[.agg #[.int .u64 en.key,.int .u64 en.val,.int .u64 en.hash],.bool true]) (by simp [results,Tryz.results26,go_sem,x0,x1,x2]) rfl ⟨rfl,(B3.out.trans (B5.out.mono B3.out.size)).trans (hC.below (n:=w.heap.size) (by have h1:=B3.out.size;have h2:=B5.out.size;omega) (λb hb e=>by have:=HZ.out;omega))⟩
  . obtain rfl:k=s.length:=by omega
    have HR:=aa (LN.out (L6 λi hi=>KC.out i hi hi));obtain ⟨r0,r1,r2⟩:=cells3 KR.out;have zR:=KR.out.lt;have fR:=λj=>KR.out.frozen j;go_wp2;refine aJ (λWf hWf=>?_);have hR:af Wf z 46 #[.int .u64 0,.int .u64 0,.int .u64 0]:=by rw [hWf];exact ((KR.out.set 0 _).set 1 _).set 2 _
    have hC:ah (λb=>b=z) wr Wf:=by rw [hWf];exact (((ah.refl _ _).set1 _ _).set1 _ _).set1 _ _
    obtain ⟨x0,x1,x2⟩:=cells3 hR;have hres:=HR.out;subst hres;exact bodyPost_ret (v := .tuple #[.agg #[.int .u64 0,.int .u64 0,.int .u64 0],.bool false]) (by simp [results,Tryz.results26,go_sem,x0,x1,x2]) rfl ⟨rfl,KW.out.trans (hC.below (n:=w.heap.size) KW.out.size (λb hb e=>by have:=HZ.out;omega))⟩
end Go.Proofs.YtolhmibejhldkaaGreatDoor
