/- Joined texts; conditions within. -/
import Derived.Test.YtolhmibejhldkaaGreatDoorPkTab
set_option linter.unusedVariables false
set_option linter.unusedSimpArgs false
set_option maxRecDepth 100000
set_option maxHeartbeats 200000
namespace Go.Proofs.YtolhmibejhldkaaGreatDoor
open Go.RowKit Go.Proofs
def U5 (a:Int) (n:Nat):Nat:=(IntKind.u64.wrap a % (n:Int)).toNat
theorem Ke (a:Int):0<=IntKind.u64.wrap a/\IntKind.u64.wrap a<18446744073709551616:=by
 rw [IntKind.wrap_u64];omega
theorem abF (a:Int) (n:Nat) (hn:1<=n):U5 a n<n:=by
 unfold U5;have h1:=Int.emod_lt_of_pos (IntKind.u64.wrap a) (show (0:Int)<n by omega);have h2:=Int.emod_nonneg (IntKind.u64.wrap a) (show (n:Int)≠0 by omega);omega
theorem adk:∀g:Fin 7,∀t:Fin 64,t.val<2 ^ g.val->∃j:Fin 64,j.val<2 ^ g.val/\(j.val*(j.val+1) / 2) % 2 ^ g.val=t.val:=by decide +kernel
theorem Rp {h g t:Nat} (hr:aN (g:Int)=true) (ht:t<g):∃j,j<g/\bE h g j=t:=by
 obtain ⟨p,hp,rfl⟩:=BU hr;have h64:(2:Nat) ^ p<=64:=by have:=Nat.pow_le_pow_right (show 0<2 by decide) hp;simpa using this
 have hpos:0<2 ^ p:=Nat.pos_of_ne_zero (by simp);have hlt:(t+2 ^ p-h % 2 ^ p) % 2 ^ p<2 ^ p:=Nat.mod_lt _ hpos;obtain ⟨j,hj,hjt⟩:=adk ⟨p,by omega⟩ ⟨(t+2 ^ p-h % 2 ^ p) % 2 ^ p,by omega⟩ hlt;refine ⟨j.val,hj,?_⟩;dsimp only at hjt;unfold bE;have hm:h % 2 ^ p<2 ^ p:=Nat.mod_lt _ hpos;rw [Nat.add_mod,hjt];generalize 2 ^ p=G at *
 generalize h % G=r at *
 by_cases c:r<=t
 . have e1:(t+G-r) % G=t-r:=by rw [show t+G-r=(t-r)+G by omega,Nat.add_mod_right,Nat.mod_eq_of_lt (by omega)]
   rw [e1,show r+(t-r)=t by omega,Nat.mod_eq_of_lt ht]
 . have e1:(t+G-r) % G=t+G-r:=Nat.mod_eq_of_lt (by omega);rw [e1,show r+(t+G-r)=t+G by omega,Nat.add_mod_right,Nat.mod_eq_of_lt ht]
structure ae.At (T:ae) (i:Int) (g k:Nat):Prop where
 hg:g<T.n
 hk:k<8
 full:bC (T.M g) k=true
 key:(T.S g k).key=i
structure bU (T:ae) (H:Int->Nat):Prop where
 good:bq T
 hash:∀i g k,T.At i g k->(T.S g k).hash=(H i:Int)
 one:∀i g k g' k',T.At i g k->T.At i g' k'->g=g'/\k=k'
 path:∀i g k,T.At i g k->∃j,j<T.n/\T.wk (H i) j=g/\∀j',j'<j->bR (T.M (T.wk (H i) j'))=false
 load:T.lv+T.tb<=7*T.n
theorem bU.hit {T:ae} {H:Int->Nat} (hT:bU T H) {i:Int} {g k:Nat} (ha:T.At i g k):0<=T.hit i (H i) g:=by
 unfold ae.hit;rcases Fg (T.S g) i (aU (T.M g) (H i % 128)) with ⟨e,h⟩ | ⟨q,e,-⟩
 . refine absurd ha.key (h k ha.hk ?_);obtain ⟨hc,q,hq,hq2,hl⟩:=(hT.good.good g ha.hg).2 k ha.hk;have h1:=hT.hash i g k ha;have h2:=hl ((eO _ _).1 ha.full);unfold aU;have:q=H i:=by omega
   subst this;simpa using h2
 . omega
theorem bU.iZ {T:ae} {H:Int->Nat} (hT:bU T H) {i:Int} {g k:Nat} (ha:T.At i g k):T.has i (H i)=true:=by
 obtain ⟨j,hj,hg,hb⟩:=hT.path i g k ha;have hh:=hT.hit ha;rw [<-hg] at hh;obtain ⟨l1,l2,l3,l4,l5⟩:=jk (λj=>T.stop i (H i) (T.wk (H i) j)) T.n 0;have hn:=hT.good.bounds;replace l3:=l3 (by omega);have hlk:T.looks i (H i)=kU (λj=>T.stop i (H i) (T.wk (H i) j)) T.n 0:=rfl;rw [<-hlk] at l2 l3 l4 l5;unfold ae.has ae.iQ ae.bn;rw [decide_eq_true_iff];rcases Nat.lt_trichotomy (T.looks i (H i)-1) j with c|c|c
 . have a:=l5 (by omega);unfold ae.stop at a;simp only [Bool.or_eq_true,decide_eq_true_eq] at a;rcases a with a|a
   . exact a
   . rw [hb _ c] at a;cases a
 . rw [c];exact hh
 . have a:=l4 j (by omega) (by omega);unfold ae.stop at a;simp only [Bool.or_eq_false_iff,decide_eq_false_iff_not] at a;exact absurd hh a.1
theorem bq.BA {T:ae} (hT:bq T) {i:Int} {h:Nat} (hh:T.has i h=true):T.At i (T.bn i h) (T.iQ i h).toNat/\T.bA i h=T.S (T.bn i h) (T.iQ i h).toNat:=by
 obtain ⟨k,e1,hk,hg,hf,hkey,-⟩:=hT.at' hh;refine ⟨⟨hg,by rw [e1];exact hk,by rw [e1];exact mo hk hf,by rw [e1];exact hkey⟩,?_⟩;unfold ae.bA;rw [if_pos (by omega)]
theorem bU.iN {T:ae} {H:Int->Nat} (hT:bU T H) {i:Int}:T.has i (H i)=true↔∃g k,T.At i g k :=
 ⟨λh=>⟨_,_,(hT.good.BA h).1⟩,λ⟨_,_,h⟩=>hT.iZ h⟩
theorem bU.kS {T:ae} {H:Int->Nat} (hT:bU T H) {i:Int} {g k:Nat} (ha:T.At i g k):T.bA i (H i)=T.S g k:=by
 obtain ⟨h1,h2⟩:=hT.good.BA (hT.iZ ha);obtain ⟨e1,e2⟩:=hT.one i _ _ _ _ h1 ha;rw [h2,e1,e2]
theorem bU.eu {T:ae} {i:Int} {h:Nat} (hh:T.has i h=false):T.bA i h=ai.zero:=by
 unfold ae.bA;rw [if_neg];unfold ae.has at hh;simpa using hh
theorem bU.open' {T:ae} {H:Int->Nat} (hT:bU T H):∃g,g<T.n/\bR (T.M g)=true:=by
 apply Classical.byContradiction
 intro hn
 have h8:∀g,g<T.n->aV (T.M g) 3+aV (T.M g) 2=8:=λg hg=>by
  have h1:aV (T.M g) 1=0:=by
   have:bR (T.M g)=false:=by
    cases c:bR (T.M g) with
    | false=>rfl
    | true=>exact (hn ⟨g,hg,c⟩).elim
   rw [ko] at this;simpa using this
  have:=Tq (T.M g) (hT.good.good g hg);omega
 have e:gp (λi=>aV (T.M i) 3+aV (T.M i) 2) T.n=gp (λ_=>8) T.n:=rT h8;rw [Kl,DK] at e;have:=hT.load;have:=hT.good.lv;have:=hT.good.tb;have hb:=hT.good.bounds;unfold ae.cnt at *
 omega
where
 DK:∀ {c n:Nat},gp (λ_=>c) n=c*n
  | c,0=>rfl
  | c,n+1=>by unfold gp;rw [DK,Nat.mul_succ]
 Tq (m:Nat) {s:Nat->ai} (hg:jC m s):aV m 1+aV m 2+aV m 3=8:=by
  unfold aV
  have:∀l:List Nat,(∀i∈l,i<8)->(l.filter (λi=>decide (dD (ln m i)=1))).length+(l.filter (λi=>decide (dD (ln m i)=2))).length+(l.filter (λi=>decide (dD (ln m i)=3))).length=l.length:=by
   intro l
   induction l with
   | nil=>intro _;rfl
   | cons a l ih =>
    intro h;have ih:=ih (λi hi=>h i (List.mem_cons_of_mem _ hi));have ha:=(hg.2 a (h a (List.mem_cons_self ..))).1
    have hk:dD (ln m a)=1\/dD (ln m a)=2\/dD (ln m a)=3:=by
     have h1:=U4 (ln m a);have h2:dD (ln m a)≠0:=λe=>by rw [NS] at e;rw [e] at ha;cases ha
     omega
    rw [List.filter_cons,List.filter_cons,List.filter_cons];rcases hk with e|e|e <;> rw [e] <;> simp <;> omega
  have:=this (List.range 8) (λi hi=>by simpa using hi);simpa using this
theorem bU.free {T:ae} {H:Int->Nat} (hT:bU T H) {i:Int} {h:Nat} (hh:T.has i h=false):0<=T.jU i h:=by
 obtain ⟨g,hg,ho⟩:=hT.open';obtain ⟨j,hj,hw⟩:=Rp (h:=h / 128) hT.good.right hg;obtain ⟨l1,l2,l3,l4,l5⟩:=jk (λj=>T.stop i h (T.wk h j)) T.n 0;have hn:=hT.good.bounds;replace l3:=l3 (by omega);have hlk:T.looks i h=kU (λj=>T.stop i h (T.wk h j)) T.n 0:=rfl;rw [<-hlk] at l2 l3 l4 l5;have hat:¬0<=T.hit i h (T.wk h (T.looks i h-1)):=by unfold ae.has ae.iQ ae.bn at hh;simpa using hh
 have hlast:bR (T.M (T.wk h (T.looks i h-1)))=true:=by
  by_cases c:T.looks i h<0+T.n
  . have a:=l5 c;unfold ae.stop at a;simp only [Bool.or_eq_true,decide_eq_true_eq] at a;rcases a with a|a
    . exact absurd a hat
    . exact a
  . by_cases c2:j+1<T.looks i h
    . have a:=l4 j (by omega) c2;unfold ae.stop at a;simp only [Bool.or_eq_false_iff] at a;have hw':T.wk h j=g:=hw;rw [hw',ho] at a;cases a.2
    . have:j=T.looks i h-1:=by omega
      rw [<-this];have hw':T.wk h j=g:=hw;rw [hw'];exact ho
 unfold ae.jU ae.gU;cases c:ja (λj=>dQ (T.M (T.wk h j))) (T.looks i h) with
 | some q=>exact (iF c).2.1
 | none =>
  have a:dQ (T.M (T.wk h (T.looks i h-1)))<0:=jy c (T.looks i h-1) (by omega);obtain ⟨q,hq,h128⟩:=(Eh _).1 hlast;rw [Ci] at a;rcases rW (λs => !bC (T.M (T.wk h (T.looks i h-1))) s) with ⟨e,h2⟩ | ⟨k,e,-⟩
  . have b:(!bC (T.M (T.wk h (T.looks i h-1))) q)=false:=h2 q hq;have:bC (T.M (T.wk h (T.looks i h-1))) q=false:=(mi _ _).2 (by omega);rw [this] at b;cases b
  . rw [e] at a;omega
theorem sK {T:ae} {g k:Nat} (hg:g<T.n) (hk:k<8) (e:ai) (h:Nat) (i:Int) (g' k':Nat) :
 (T.ins g k e h).At i g' k'↔if g'=g/\k'=k then e.key=i else T.At i g' k':=by
 have hq:h % 128<128:=Nat.mod_lt _ (by decide);by_cases eg:g'=g
 . subst eg;have hM:(T.ins g' k e h).M g'=fB (T.M g') k (h % 128):=upd_same _ _ _;have hS:(T.ins g' k e h).S g'=eY (T.S g') k e:=upd_same _ _ _;by_cases ek:k'=k
   . subst ek;rw [if_pos ⟨rfl,rfl⟩]
     constructor
     . intro a;have:=a.key;rw [hS] at this;unfold eY at this;rwa [if_pos rfl] at this
     . intro a;exact ⟨hg,hk,by rw [hM,pU _ _ _ _ hq hk,if_pos rfl],by rw [hS];unfold eY;rw [if_pos rfl];exact a⟩
   . rw [if_neg (λc=>ek c.2)]
     constructor
     . intro a;refine ⟨hg,a.hk,?_,?_⟩
       . have:=a.full;rwa [hM,pU _ _ _ _ hq a.hk,if_neg ek] at this
       . have:=a.key;rw [hS] at this;unfold eY at this;rwa [if_neg ek] at this
     . intro a;exact ⟨hg,a.hk,by rw [hM,pU _ _ _ _ hq a.hk,if_neg ek];exact a.full,by rw [hS];unfold eY;rw [if_neg ek];exact a.key⟩
 . have hM:(T.ins g k e h).M g'=T.M g':=ay _ _ eg;have hS:(T.ins g k e h).S g'=T.S g':=ay _ _ eg;rw [if_neg (λc=>eg c.1)]
   constructor
   . intro a;exact ⟨a.hg,a.hk,by have:=a.full;rwa [hM] at this,by have:=a.key;rwa [hS] at this⟩
   . intro a;exact ⟨a.hg,a.hk,by rw [hM];exact a.full,by rw [hS];exact a.key⟩
theorem qp {T:ae} {g k:Nat} (hg:g<T.n) (hk:k<8) (i:Int) (g' k':Nat) :
 (T.era g k).At i g' k'↔¬ (g'=g/\k'=k)/\T.At i g' k':=by
 by_cases eg:g'=g
 . subst eg;have hM:(T.era g' k).M g'=fB (T.M g') k (dB (T.M g')):=upd_same _ _ _;have hS:(T.era g' k).S g'=eY (T.S g') k ai.zero:=upd_same _ _ _;by_cases ek:k'=k
   . subst ek
     constructor
     . intro a;have:=a.full;rw [hM,lJ _ _ _ hk,if_pos rfl] at this;cases this
     . rintro ⟨a,-⟩;exact (a ⟨rfl,rfl⟩).elim
   . constructor
     . intro a;refine ⟨λc=>ek c.2,hg,a.hk,?_,?_⟩
       . have:=a.full;rwa [hM,lJ _ _ _ a.hk,if_neg ek] at this
       . have:=a.key;rw [hS] at this;unfold eY at this;rwa [if_neg ek] at this
     . rintro ⟨-,a⟩
       exact ⟨hg,a.hk,by rw [hM,lJ _ _ _ a.hk,if_neg ek];exact a.full,by rw [hS];unfold eY;rw [if_neg ek];exact a.key⟩
 . have hM:(T.era g k).M g'=T.M g':=ay _ _ eg;have hS:(T.era g k).S g'=T.S g':=ay _ _ eg
   constructor
   . intro a;exact ⟨λc=>eg c.1,a.hg,a.hk,by have:=a.full;rwa [hM] at this,by have:=a.key;rwa [hS] at this⟩
   . rintro ⟨-,a⟩;exact ⟨a.hg,a.hk,by rw [hM];exact a.full,by rw [hS];exact a.key⟩
theorem Jm (T:ae) (g k:Nat) (v:Int) (g' k':Nat):(T.pq g k v).S g' k'=if g'=g/\k'=k then { T.S g k with val:=v} else T.S g' k':=by
 show upd T.S g _ g' k'=_
 unfold upd eY;by_cases eg:g'=g
 . subst eg;by_cases ek:k'=k
   . subst ek;simp
   . simp [ek]
 . simp [eg]
theorem lD (T:ae) (g k:Nat) (v:Int) (i:Int) (g' k':Nat):(T.pq g k v).At i g' k'↔T.At i g' k':=by
 have h:((T.pq g k v).S g' k').key=(T.S g' k').key:=by
  rw [Jm];split
  . rename_i c;rw [c.1,c.2]
  . rfl
 constructor
 . intro a;exact ⟨a.hg,a.hk,a.full,by rw [<-h];exact a.key⟩
 . intro a;exact ⟨a.hg,a.hk,a.full,by rw [h];exact a.key⟩
theorem Va (T:ae) (g k:Nat) (e:ai) (h g' k':Nat):(T.ins g k e h).S g' k'=if g'=g/\k'=k then e else T.S g' k':=by
 show upd T.S g _ g' k'=_
 unfold upd eY;by_cases eg:g'=g
 . subst eg;by_cases ek:k'=k
   . subst ek;simp
   . simp [ek]
 . simp [eg]
theorem acV (T:ae) (g k g' k':Nat) (hne:¬ (g'=g/\k'=k)):(T.era g k).S g' k'=T.S g' k':=by
 show upd T.S g _ g' k'=_
 unfold upd eY;by_cases eg:g'=g
 . subst eg;by_cases ek:k'=k
   . subst ek;exact (hne ⟨rfl,rfl⟩).elim
   . simp [ek]
 . simp [eg]
theorem Lm {T:ae} (g k:Nat) (e:ai) (h:Nat) {x:Nat} (ho:bR (T.M x)=false):bR ((T.ins g k e h).M x)=false:=by
 by_cases c:x=g
 . subst c;rw [show (T.ins x k e h).M x=fB (T.M x) k (h % 128) from upd_same _ _ _];exact UG _ (Nat.mod_lt _ (by decide)) ho
 . rw [show (T.ins g k e h).M x=T.M x from ay _ _ c];exact ho
theorem VB {T:ae} (g k:Nat) {x:Nat} (ho:bR (T.M x)=false):bR ((T.era g k).M x)=false:=by
 by_cases c:x=g
 . subst c;rw [show (T.era x k).M x=fB (T.M x) k (dB (T.M x)) from upd_same _ _ _];exact RQ ho
 . rw [show (T.era g k).M x=T.M x from ay _ _ c];exact ho
theorem bU.pq {T:ae} {H:Int->Nat} (hT:bU T H) {g k:Nat} (hg:g<T.n) (v:Int):bU (T.pq g k v) H :=
 ⟨hT.good.pq hg v,λi g' k' a=>by
  rw [Jm];split
  . rename_i c;rw [<-c.1,<-c.2];exact hT.hash i g' k' ((lD ..).1 a)
  . exact hT.hash i g' k' ((lD ..).1 a),λi g1 k1 g2 k2 a b=>hT.one i _ _ _ _ ((lD ..).1 a) ((lD ..).1 b),λi g' k' a=>hT.path i g' k' ((lD ..).1 a),hT.load⟩
theorem bU.era {T:ae} {H:Int->Nat} (hT:bU T H) {g k:Nat} (hg:g<T.n) (hk:k<8) (hf:cK (T.M g) (k:Int) true=0):bU (T.era g k) H :=
 ⟨hT.good.era hg hk hf,λi g' k' a=>by
  obtain ⟨h1,h2⟩:=(qp hg hk i g' k').1 a;rw [acV T g k g' k' h1];exact hT.hash i g' k' h2,λi g1 k1 g2 k2 a b=>hT.one i _ _ _ _ ((qp hg hk ..).1 a).2 ((qp hg hk ..).1 b).2,λi g' k' a=>by
  obtain ⟨j,h1,h2,h3⟩:=hT.path i g' k' ((qp hg hk ..).1 a).2;exact ⟨j,h1,h2,λj' hj'=>VB g k (h3 j' hj')⟩,by
  show (T.lv-1)+(if bR (T.M g)=true then T.tb else T.tb+1)<=7*T.n
  have:=hT.load
  split <;> omega⟩
theorem bU.ins {T:ae} {H:Int->Nat} (hT:bU T H) {i:Int} (v:Int) (hh:H i<18446744073709551616) (hno:T.has i (H i)=false) {k:Nat} (hz:T.jU i (H i)=(k:Int)) (hl:1<=T.left):bU (T.ins (T.dM i (H i)) k ⟨i,v,H i⟩ (H i)) H:=by
 obtain ⟨k',e1,hk,hg,hf⟩:=hT.good.free' (key:=i) (h:=H i) (by omega);obtain rfl:k=k':=by omega
 have hnone:∀g' k',¬T.At i g' k':=λg' k' a=>by rw [hT.iZ a] at hno;cases hno
 refine ⟨hT.good.ins hg hk hf _ _ hh,λi' g' k' a=>?_,λi' g1 k1 g2 k2 a b=>?_,λi' g' k' a=>?_,?_⟩
 . have:=(sK hg hk _ _ i' g' k').1 a;rw [Va];split at this
   . rename_i c;rw [if_pos c];dsimp only at this ⊢;rw [this]
   . rename_i c;rw [if_neg c];exact hT.hash i' g' k' this
 . have h1:=(sK hg hk _ _ i' g1 k1).1 a;have h2:=(sK hg hk _ _ i' g2 k2).1 b;by_cases c1:g1=T.dM i (H i)/\k1=k
   . rw [if_pos c1] at h1;by_cases c2:g2=T.dM i (H i)/\k2=k
     . exact ⟨c1.1.trans c2.1.symm,c1.2.trans c2.2.symm⟩
     . rw [if_neg c2] at h2;dsimp only at h1;subst h1;exact (hnone _ _ h2).elim
   . rw [if_neg c1] at h1;by_cases c2:g2=T.dM i (H i)/\k2=k
     . rw [if_pos c2] at h2;dsimp only at h2;subst h2;exact (hnone _ _ h1).elim
     . rw [if_neg c2] at h2;exact hT.one i' _ _ _ _ h1 h2
 . have h1:=(sK hg hk _ _ i' g' k').1 a;by_cases c1:g'=T.dM i (H i)/\k'=k
   . rw [if_pos c1] at h1;dsimp only at h1;subst h1;obtain ⟨l1,l2,l3,l4,l5⟩:=jk (λj=>T.stop i (H i) (T.wk (H i) j)) T.n 0;have hlk:T.looks i (H i)=kU (λj=>T.stop i (H i) (T.wk (H i) j)) T.n 0:=rfl;rw [<-hlk] at l2 l4;rw [c1.1];unfold ae.jU at hz;unfold ae.dM;cases c:T.gU i (H i) with
     | none=>rw [c] at hz;dsimp only at hz;omega
     | some j =>
      obtain ⟨f1,f2,f3⟩:=iF c;refine ⟨j,show j<T.n by omega,rfl,λj' hj'=>Lm _ _ _ _ ?_⟩;have b:=l4 j' (by omega) (by omega);unfold ae.stop at b;simp only [Bool.or_eq_false_iff] at b;exact b.2
   . rw [if_neg c1] at h1;obtain ⟨j,p1,p2,p3⟩:=hT.path i' g' k' h1;exact ⟨j,p1,p2,λj' hj'=>Lm _ _ _ _ (p3 j' hj')⟩
 . show (T.lv+1)+(if ln (T.M (T.dM i (H i))) k=254 then T.tb-1 else T.tb)<=7*T.n
   unfold ae.left at hl;split <;> omega
theorem bU.new {n:Nat} (hr:aN (n:Int)=true) (H:Int->Nat):bU (ae.new n) H:=by
 have hno:∀i g k,¬ (ae.new n).At i g k:=λi g k a=>by
  have h1:=a.full;rw [show (ae.new n).M g=rep 128 from rfl,eO,oG 128 k (by decide) a.hk] at h1;omega
 exact ⟨bq.new hr,λi g k a=>(hno i g k a).elim,λi g k _ _ a _=>(hno i g k a).elim,λi g k a=>(hno i g k a).elim,by show (0:Int)+0<=_;omega⟩
def ae.ok (T:ae) (i:Int) (h:Nat):Bool:=T.has i h || decide (1<=T.left)
theorem bU.room {T:ae} {H:Int->Nat} (hT:bU T H) {i:Int} (hno:T.has i (H i)=false):T.room i (H i)=decide (1<=T.left):=by
 unfold ae.room;rw [show decide (0<=T.jU i (H i))=true by simpa using hT.free hno,Bool.and_true]
theorem bU.bB {T:ae} {H:Int->Nat} (hT:bU T H) (i:Int):T.bB i (H i)=(!T.has i (H i) && decide (1<=T.left)):=by
 unfold ae.bB;cases c:T.has i (H i) with
 | true=>rfl
 | false=>rw [hT.room c]
theorem bU.bN {T:ae} {H:Int->Nat} (hT:bU T H) (i:Int):T.bN i (H i)=if T.ok i (H i)=true then 0 else 2:=by
 unfold ae.bN ae.ok;cases c:T.has i (H i) with
 | true=>simp
 | false=>rw [hT.room c];simp
theorem bU.aR {T:ae} {H:Int->Nat} (hT:bU T H) (i v:Int) (hh:H i<18446744073709551616):bU (T.aR i v (H i)) H:=by
 unfold ae.aR;split
 . rename_i c;exact hT.pq ((hT.good.BA c).1.hg) v
 . rename_i c
   have c':T.has i (H i)=false:=by simpa using c
   split
   . rename_i d
     rw [hT.room c'] at d;have hz:=hT.free c';exact hT.ins v hh c' (k:=(T.jU i (H i)).toNat) (by omega) (by simpa using d)
   . exact hT
theorem bU.eB {T:ae} {H:Int->Nat} (hT:bU T H) (i:Int) (h:Nat):bU (T.eB i h) H:=by
 unfold ae.eB;split
 . rename_i c
   obtain ⟨k,h1,h2,h3,h4,-⟩:=hT.good.at' c;rw [h1,Int.toNat_natCast];exact hT.era h3 h2 h4
 . exact hT
theorem bU.nz {T:ae} {H:Int->Nat} (hT:bU T H) (i v:Int) (hh:H i<18446744073709551616) (j:Int) :
 (T.aR i v (H i)).has j (H j)=(if j=i then T.ok i (H i) else T.has j (H j))/\(T.aR i v (H i)).bA j (H j)=(if j=i then (if T.ok i (H i)=true then ⟨i,v,H i⟩ else ai.zero) else T.bA j (H j)):=by
 have hT':=hT.aR i v hh
 have key:∀g k,(T.aR i v (H i)).At j g k->(j≠i->T.At j g k/\(T.aR i v (H i)).S g k=T.S g k)/\(j=i->(T.aR i v (H i)).S g k=⟨i,v,H i⟩):=by
  intro g k a;unfold ae.aR at a ⊢;split at a
  . rename_i c
    rw [if_pos c];have a':=(lD ..).1 a;refine ⟨λhne=>⟨a',?_⟩,λhe=>?_⟩
    . rw [Jm,if_neg];rintro ⟨rfl,rfl⟩
      exact hne (a'.key.symm.trans (hT.good.BA c).1.key)
    . subst he;obtain ⟨e1,e2⟩:=hT.one j _ _ _ _ a' (hT.good.BA c).1;rw [Jm,if_pos ⟨e1,e2⟩];have h1:=(hT.good.BA c).1.key;have h2:=hT.hash j _ _ (hT.good.BA c).1;generalize T.S (T.bn j (H j)) (T.iQ j (H j)).toNat=e at *
      obtain ⟨x,y,z⟩:=e;dsimp only at h1 h2 ⊢;rw [h1,h2]
  . rename_i c
    rw [if_neg c];have c':T.has i (H i)=false:=by simpa using c
    split at a
    . rename_i d
      rw [if_pos d];have hz:=hT.free c';obtain ⟨k0,f1,f2,f3,f4⟩:=hT.good.free' hz;rw [f1,Int.toNat_natCast] at a ⊢;have a':=(sK f3 f2 _ _ j g k).1 a;by_cases e:g=T.dM i (H i)/\k=k0
      . rw [if_pos e] at a';dsimp only at a';subst a';exact ⟨λh=>(h rfl).elim,λ_=>by rw [Va,if_pos e]⟩
      . rw [if_neg e] at a';refine ⟨λ_=>⟨a',by rw [Va,if_neg e]⟩,λhe=>?_⟩;subst he;rw [hT.iZ a'] at c';cases c'
    . rename_i d
      rw [if_neg d];exact ⟨λ_=>⟨a,rfl⟩,λhe=>by subst he;rw [hT.iZ a] at c';cases c'⟩
 have back:∀g k,j≠i->T.At j g k->(T.aR i v (H i)).At j g k:=by
  intro g k hne a;unfold ae.aR;split
  . exact (lD ..).2 a
  . rename_i c
    have c':T.has i (H i)=false:=by simpa using c
    split
    . have hz:=hT.free c';obtain ⟨k0,f1,f2,f3,f4⟩:=hT.good.free' hz;rw [f1,Int.toNat_natCast];refine (sK f3 f2 _ _ j g k).2 ?_;rw [if_neg]
      . exact a
      . rintro ⟨rfl,rfl⟩
        have:=a.full;rw [Dc f2 f4] at this;cases this
    . exact a
 have self:T.ok i (H i)=true->∃g k,(T.aR i v (H i)).At i g k:=by
  intro hok;unfold ae.aR;split
  . rename_i c;exact ⟨_,_,(lD ..).2 (hT.good.BA c).1⟩
  . rename_i c
    have c':T.has i (H i)=false:=by simpa using c
    have d:T.room i (H i)=true:=by rw [hT.room c'];unfold ae.ok at hok;rw [c'] at hok;simpa using hok
    rw [if_pos d];obtain ⟨k0,f1,f2,f3,f4⟩:=hT.good.free' (hT.free c');rw [f1,Int.toNat_natCast];exact ⟨_,_,(sK f3 f2 _ _ i _ _).2 (by rw [if_pos ⟨rfl,rfl⟩])⟩
 have af2:T.ok i (H i)=false->T.aR i v (H i)=T/\T.has i (H i)=false:=by
  intro hok;unfold ae.ok at hok;simp only [Bool.or_eq_false_iff] at hok;unfold ae.aR;rw [hok.1,if_neg Bool.false_ne_true,hT.room hok.1,hok.2,if_neg Bool.false_ne_true];exact ⟨rfl,rfl⟩
 by_cases hji:j=i
 . subst hji;rw [if_pos rfl,if_pos rfl];cases hok:T.ok j (H j) with
   | true =>
    obtain ⟨g,k,a⟩:=self hok;exact ⟨hT'.iZ a,by rw [hT'.kS a,(key g k a).2 rfl,if_pos rfl]⟩
   | false =>
    obtain ⟨e1,e2⟩:=af2 hok;rw [e1];exact ⟨e2,by rw [if_neg Bool.false_ne_true];exact bU.eu e2⟩
 . rw [if_neg hji,if_neg hji];cases hb:T.has j (H j) with
   | true =>
    obtain ⟨g,k,a⟩:=hT.iN.1 hb;have a':=back g k hji a;exact ⟨hT'.iZ a',by rw [hT'.kS a',hT.kS a,((key g k a').1 hji).2]⟩
   | false =>
    have:(T.aR i v (H i)).has j (H j)=false:=by
     cases hc:(T.aR i v (H i)).has j (H j) with
     | false=>rfl
     | true =>
      obtain ⟨g,k,a⟩:=hT'.iN.1 hc;rw [hT.iZ ((key g k a).1 hji).1] at hb;cases hb
    exact ⟨this,by rw [bU.eu this,bU.eu hb]⟩
theorem bU.OG {T:ae} {H:Int->Nat} (hT:bU T H) (i j:Int) :
 (T.eB i (H i)).has j (H j)=(if j=i then false else T.has j (H j))/\(T.eB i (H i)).bA j (H j)=(if j=i then ai.zero else T.bA j (H j)):=by
 have hT':=hT.eB i (H i);cases c:T.has i (H i) with
 | false =>
  have e:T.eB i (H i)=T:=by unfold ae.eB;rw [c,if_neg Bool.false_ne_true]
  rw [e];by_cases hji:j=i
  . subst hji;rw [if_pos rfl,if_pos rfl];exact ⟨c,bU.eu c⟩
  . rw [if_neg hji,if_neg hji];exact ⟨rfl,rfl⟩
 | true =>
  obtain ⟨k0,h1,h2,h3,h4,h5,-⟩:=hT.good.at' c;have e:T.eB i (H i)=T.era (T.bn i (H i)) k0:=by unfold ae.eB;rw [c,if_pos rfl,h1,Int.toNat_natCast]
  have hAt:T.At i (T.bn i (H i)) k0:=⟨h3,h2,mo h2 h4,h5⟩
  rw [e] at hT' ⊢;by_cases hji:j=i
  . subst hji;rw [if_pos rfl,if_pos rfl]
    have:(T.era (T.bn j (H j)) k0).has j (H j)=false:=by
     cases hc:(T.era (T.bn j (H j)) k0).has j (H j) with
     | false=>rfl
     | true =>
      obtain ⟨g,k,a⟩:=hT'.iN.1 hc;obtain ⟨a1,a2⟩:=(qp h3 h2 j g k).1 a;exact (a1 (hT.one j _ _ _ _ a2 hAt)).elim
    exact ⟨this,bU.eu this⟩
  . rw [if_neg hji,if_neg hji];cases hb:T.has j (H j) with
    | true =>
     obtain ⟨g,k,a⟩:=hT.iN.1 hb
     have hne:¬ (g=T.bn i (H i)/\k=k0):=by
      rintro ⟨rfl,rfl⟩;exact hji (a.key.symm.trans h5)
     have a':=(qp h3 h2 j g k).2 ⟨hne,a⟩;exact ⟨hT'.iZ a',by rw [hT'.kS a',hT.kS a,acV _ _ _ _ _ hne]⟩
    | false =>
     have:(T.era (T.bn i (H i)) k0).has j (H j)=false:=by
      cases hc:(T.era (T.bn i (H i)) k0).has j (H j) with
      | false=>rfl
      | true =>
       obtain ⟨g,k,a⟩:=hT'.iN.1 hc;rw [hT.iZ ((qp h3 h2 j g k).1 a).2] at hb;cases hb
     exact ⟨this,by rw [bU.eu this,bU.eu hb]⟩
theorem bU.j6 {T:ae} {H:Int->Nat} (hT:bU T H) (i v:Int):(T.aR i v (H i)).lv=T.lv+(if T.bB i (H i)=true then 1 else 0)/\(T.aR i v (H i)).left<=T.left+1:=by
 unfold ae.aR ae.bB;cases c:T.has i (H i) with
 | true=>rw [if_pos rfl];exact ⟨by show T.lv=_;simp,by show T.left<=_;omega⟩
 | false =>
  rw [if_neg Bool.false_ne_true];cases d:T.room i (H i) with
  | true =>
   rw [if_pos rfl];refine ⟨by show T.lv+1=_;simp,?_⟩;show 7*(T.n:Int)-(T.lv+1)-(if ln _ _=254 then T.tb-1 else T.tb)<=7*(T.n:Int)-T.lv-T.tb+1
   split <;> omega
  | false=>rw [if_neg Bool.false_ne_true];exact ⟨by simp,by omega⟩
theorem VH (T:ae) (i:Int) (h:Nat):(T.eB i h).lv=T.lv-(if T.has i h=true then 1 else 0):=by
 unfold ae.eB;split
 . rfl
 . simp
abbrev TN (w:World) (B Q:Nat) (T:ae) (E:Nat->Addr) (w0:World):Prop:=eT w B Q none T aG.zero E w0
section
variable {w w' w0:World} {B Q C R:Nat} {T T':ae} {E:Nat->Addr}
theorem TN.put (hS:TN w B Q T E w0) (key v:Int) (h:Nat) (hh:h<18446744073709551616) :
 Calls Tryz.prog 154 #[.pointer (some ⟨B,0,none⟩),.agg #[.pointer none,.int .i64 0,.int .i64 0,.int .i64 0],.agg #[.int .u64 key,.int .u64 v,.int .u64 (h:Int)]] w λe w' =>
  e = .returned (.tuple #[.bool (T.bB key h),jF E (T.bN key h)])/\TN w' B Q (T.aR key v h) E w0/\ah (λb=>b=B\/b=Q) w w':=by
 refine (eT.put hS key v h hh none di.n 0 0 0).mono ?_;rintro e w' ⟨rfl,h1,h2⟩
 exact ⟨rfl,h1.Ay,h2.mono (λi _ e=>by
  rcases e with e|e
  . cases e
  . exact e)⟩
end
def Ih (n:Nat) (G:Nat->Nat) (i:Int):Nat:=if 0<=i/\i<n then G i.toNat else G 0
theorem Vo {n:Nat} {G:Nat->Nat} {x:Nat} (hx:x<n):Ih n G (x:Int)=G x:=by unfold Ih;rw [if_pos ⟨by omega,by omega⟩,Int.toNat_natCast]
theorem Vn {n:Nat} {G:Nat->Nat} (h1:1<=n) (hG:∀i,i<n->G i<18446744073709551616) (i:Int):Ih n G i<18446744073709551616:=by
 unfold Ih;split
 . exact hG _ (by omega)
 . exact hG _ (by omega)
def aaG (T:ae) (H:Int->Nat) (n:Nat):Prop := ∀j:Int,¬ (0<=j/\j<n)->T.has j (H j)=false
theorem aaG.put {T:ae} {H:Int->Nat} {n x:Nat} (h:aaG T H n) (hT:bU T H) (hx:x<n) (v:Int) (hh:H x<18446744073709551616):aaG (T.aR x v (H x)) H n:=λj hj=>by
 rw [(hT.nz x v hh j).1,if_neg (by omega)];exact h j hj
theorem Sw {w0:World} {v:Value} {n:Nat} {f:Nat->Nat->Int} (h:mE w0 v n 1 .u64 f) (hn:1<=n):∃ (b off cap:Nat) (G:Nat->Nat),v = .slice (some ⟨b,off,none⟩) n cap/\b<w0.heap.size/\(∀i,i<n->G i<18446744073709551616)/\
 ∀w',Below w0.heap.size w0 w'->∀i,i<n->w'.cell? ⟨b,off+i,none⟩=some (.int .u64 (G i:Int)):=by
 obtain ⟨a,cap,rfl,hx⟩:=h.cellAt (by decide);obtain ⟨b,off,rfl,hb,hc⟩:=hx (by omega);refine ⟨b,off,cap,λi=>(f i 0).toNat,rfl,hb,λi hi=>?_,λw' hw i hi=>?_⟩
 . obtain ⟨m,hm,e⟩:=Uc (h.2.1 i hi 0 (by decide));dsimp only;rw [e,Int.toNat_natCast];exact hm
 . obtain ⟨m,hm,e⟩:=Uc (h.2.1 i hi 0 (by decide));have:=hc w' hw i hi 0 (by decide);simp only [Nat.mul_one,Nat.add_zero] at this;dsimp only;rw [this,e,Int.toNat_natCast]
end Go.Proofs.YtolhmibejhldkaaGreatDoor
