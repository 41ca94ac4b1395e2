/- Joined texts; conditions within. -/
import Derived.Deep.DeepMakePanics
import Derived.Test.YtolhmibejhldkaaGreatDoorPkRef09
set_option linter.unusedVariables false
set_option linter.unusedSimpArgs false
set_option maxRecDepth 100000
set_option maxHeartbeats 2000000
namespace Go.Proofs.YtolhmibejhldkaaGreatDoor
open Go.RowKit Go.Proofs
def DX (w:World) (lo hi D:Nat) (T:ae) (L:Int):Prop := ∃P cap GB,DT w lo hi D P cap GB T L
section
variable {w w' w0:World} {lo hi D:Nat} {T:ae} {L:Int}
theorem DX.later (h:DX w lo hi D T L) (hb:Below w.heap.size w w'):DX w' lo hi D T L:=by obtain ⟨P,cap,GB,h⟩:=h;exact ⟨P,cap,GB,h.later hb⟩
theorem DX.aA {X:Nat->Prop} (h:DX w lo hi D T L) (hc:ah X w w') (hX:∀b,lo<=b->b<hi->¬X b):DX w' lo hi D T L:=by obtain ⟨P,cap,GB,h⟩:=h;exact ⟨P,cap,GB,h.aA hc hX⟩
theorem DX.id (h:DX w lo hi D T L):lo<=D/\D<hi:=by obtain ⟨P,cap,GB,h⟩:=h;exact h.id
theorem DX.lt (h:DX w lo hi D T L):D<w.heap.size:=by obtain ⟨P,cap,GB,h⟩:=h;exact h.head.lt
theorem DX.hz (h:DX w lo hi D T L):hi<=w.heap.size:=by obtain ⟨P,cap,GB,h⟩:=h;exact h.hz
theorem DX.cells (h:DX w lo hi D T L):w.cell? ⟨D,1,none⟩=some (.int .i64 L)/\(∀j,w.frozen? ⟨D,j,none⟩=false):=by obtain ⟨P,cap,GB,h⟩:=h;exact ⟨h.head.cell 1,λj=>h.head.frozen j⟩
theorem DX.looks (h:DX w lo hi D T L) (L':Int):DX (w.setCell ⟨D,1,none⟩ (.int .i64 L')) lo hi D T L':=by obtain ⟨P,cap,GB,h⟩:=h;exact ⟨P,cap,GB,h.looks L'⟩
theorem DX.find (h:DX w lo hi D T L) (hL:0<=L/\L<=1000000000) (key:Int) (hs:Nat) (hh:hs<18446744073709551616) :
 Calls Tryz.prog 64 #[.pointer (some ⟨D,0,none⟩),.int .u64 key,.int .u64 (hs:Int)] w λe w' =>
  e = .returned (.tuple #[.agg #[.int .u64 (T.bA key hs).key,.int .u64 (T.bA key hs).val,.int .u64 (T.bA key hs).hash],.bool (T.has key hs)])/\DX w' lo hi D T (L+T.looks key hs)/\ah (λb=>b=D) w w':=by
 obtain ⟨P,cap,GB,h⟩:=h;refine (Oz h hL key hs hh).mono ?_;rintro e w' ⟨rfl,h1,h2⟩
 exact ⟨rfl,⟨P,cap,GB,h1⟩,h2⟩
theorem DX.put (h:DX w lo hi D T L) (hL:0<=L/\L<=1000000000) (key v:Int) (hs:Nat) (hh:hs<18446744073709551616) :
 Calls Tryz.prog 65 #[.pointer (some ⟨D,0,none⟩),.agg #[.int .u64 key,.int .u64 v,.int .u64 (hs:Int)]] w λe w' =>
  e = .returned (.tuple #[.bool (T.bB key hs),.int .i64 ((T.bN key hs:Nat):Int)])/\DX w' lo hi D (T.aR key v hs) (L+T.looks key hs)/\ah (λb=>lo<=b/\b<hi) w w':=by
 obtain ⟨P,cap,GB,h⟩:=h;refine (Tm h hL key v hs hh).mono ?_;rintro e w' ⟨rfl,h1,h2⟩
 exact ⟨rfl,⟨P,cap,GB,h1⟩,h2⟩
end
structure PB where
 lo:Nat
 mid:Nat
 hi:Nat
 B:Nat
 Q:Nat
 D:Nat
structure PR (w:World) (p:PB) (T T2:ae) (L:Int) (E:Nat->Addr) (w0:World):Prop where
 t:TN w p.B p.Q T E w0
 d:DX w p.mid p.hi p.D T2 L
 b:p.lo<=p.B/\p.B<p.mid/\p.lo<=p.Q/\p.Q<p.mid
 o:w0.heap.size<=p.lo/\p.mid<=p.hi
section
variable {w w' w0:World} {p:PB} {T T2:ae} {L:Int} {E:Nat->Addr}
theorem PR.later (h:PR w p T T2 L E w0) (hb:Below w.heap.size w w'):PR w' p T T2 L E w0:=⟨h.t.later hb,h.d.later hb,h.b,h.o⟩
theorem PR.aA {X:Nat->Prop} (h:PR w p T T2 L E w0) (hc:ah X w w') (hX:∀b,p.lo<=b->b<p.hi->¬X b) (hX0:∀b,X b->w0.heap.size<=b):PR w' p T T2 L E w0 :=
 have hb:=h.b;have ho:=h.o
 ⟨eT.aA h.t hc hX0 (hX _ hb.1 (by omega)) (hX _ hb.2.2.1 (by omega)) (λb e=>by cases e),h.d.aA hc (λb h1 h2=>hX b (by omega) h2),h.b,h.o⟩
theorem PR.put (h:PR w p T T2 L E w0) (key v:Int) (hs:Nat) (hh:hs<18446744073709551616) :
 Calls Tryz.prog 154 #[.pointer (some ⟨p.B,0,none⟩),.agg #[.pointer none,.int .i64 0,.int .i64 0,.int .i64 0],.agg #[.int .u64 key,.int .u64 v,.int .u64 (hs:Int)]] w λe w' =>
  e = .returned (.tuple #[.bool (T.bB key hs),jF E (T.bN key hs)])/\PR w' p (T.aR key v hs) T2 L E w0/\ah (λb=>p.lo<=b/\b<p.hi) w w':=by
 have hb:=h.b;have ho:=h.o;refine (TN.put h.t key v hs hh).mono ?_;rintro e w' ⟨rfl,h1,h2⟩
 exact ⟨rfl,⟨h1,h.d.aA h2 (λb h3 h4=>by rintro (e|e) <;> omega),h.b,h.o⟩,h2.mono (λb _ e=>by rcases e with e|e <;> subst e <;> omega)⟩
end
structure MS (w:World) (p0:PB) (pt:Nat->PB) (k:Nat) (T T2:ae) (U U2:Nat->ae) (L0:Int) (Lc:Nat->Int) (E:Nat->Addr) (w0:World):Prop where
 o:PR w p0 T T2 L0 E w0
 t:∀i,i<k->PR w (pt i) (U i) (U2 i) (Lc i) E w0
 s0:∀i,i<k->p0.hi<=(pt i).lo
 s1:∀i j,i<j->j<k->(pt i).hi<=(pt j).lo
def MIn (p0:PB) (pt:Nat->PB) (k:Nat) (b:Nat):Prop:=(p0.lo<=b/\b<p0.hi)\/∃i,i<k/\(pt i).lo<=b/\b<(pt i).hi
section
variable {w w' w0:World} {p0:PB} {pt:Nat->PB} {k:Nat} {T T2:ae} {U U2:Nat->ae} {L0:Int} {Lc:Nat->Int} {E:Nat->Addr}
theorem MS.later (h:MS w p0 pt k T T2 U U2 L0 Lc E w0) (hb:Below w.heap.size w w'):MS w' p0 pt k T T2 U U2 L0 Lc E w0:=⟨h.o.later hb,λi hi=>(h.t i hi).later hb,h.s0,h.s1⟩
theorem MS.aA {X:Nat->Prop} (h:MS w p0 pt k T T2 U U2 L0 Lc E w0) (hc:ah X w w') (hX:∀b,MIn p0 pt k b->¬X b) (hX0:∀b,X b->w0.heap.size<=b):MS w' p0 pt k T T2 U U2 L0 Lc E w0 :=
 ⟨h.o.aA hc (λb h1 h2=>hX b (.inl ⟨h1,h2⟩)) hX0,λi hi=>(h.t i hi).aA hc (λb h1 h2=>hX b (.inr ⟨i,hi,h1,h2⟩)) hX0,h.s0,h.s1⟩
end
theorem adB {T:ae} (hT:bq T) (ht:T.tb=0) (key v:Int) {h:Nat} (hh:h<18446744073709551616):(T.aR key v h).tb=0:=by
 have hg:=hT.aR (key:=key) v hh;unfold ae.aR;split
 . exact ht
 . split
   . rename_i hr
     unfold ae.room at hr;simp only [Bool.and_eq_true,decide_eq_true_eq] at hr;obtain ⟨k,hz,hk,hfg,hfl⟩:=hT.free' hr.2;rw [hz,Int.toNat_natCast];show (if ln (T.M (T.dM key h)) k=254 then T.tb-1 else T.tb)=0
     have h2:=(hT.ins hfg hk hfl key v hh).bounds.2.2.2.2.1;have h3:(T.ins (T.dM key h) k ⟨key,v,h⟩ h).tb=(if ln (T.M (T.dM key h)) k=254 then T.tb-1 else T.tb):=rfl;rw [h3] at h2;split
     . rename_i e;rw [if_pos e] at h2;omega
     . exact ht
   . exact ht
def dS (U:Nat->ae) (k:Nat):Int:=((List.range k).map λi=>(U i).lv).sum
theorem lG (U:Nat->ae):dS U 1=(U 0).lv:=by simp [dS]
theorem lF (U:Nat->ae):dS U 2=(U 0).lv+(U 1).lv:=by simp [dS,List.range_succ]
theorem kr {U:Nat->ae} {k i:Nat} (hk:k=1\/k=2) (hi:i<k) (T':ae):dS (upd U i T') k=dS U k-(U i).lv+T'.lv:=by
 rcases hk with rfl|rfl
 . obtain rfl:i=0:=by omega
   rw [lG,lG,upd_same];omega
 . rw [lF,lF];obtain rfl|rfl:i=0\/i=1:=by omega
   . rw [upd_same,ay _ _ (by decide:(1:Nat)≠0)];omega
   . rw [upd_same,ay _ _ (by decide:(0:Nat)≠1)];omega
theorem UU {U:Nat->ae} {k i:Nat} (hk:k=1\/k=2) (hi:i<k) (h0:∀j,j<k->0<=(U j).lv):(U i).lv<=dS U k:=by
 rcases hk with rfl|rfl
 . obtain rfl:i=0:=by omega
   rw [lG];omega
 . rw [lF];have h1:=h0 0 (by decide);have h2:=h0 1 (by decide);have hi':i=0\/i=1:=by omega
   rcases hi' with rfl|rfl
   . omega
   . omega
structure UI (U:Nat->ae) (k d:Nat) (H:Int->Nat) (gn:Nat):Prop where
 f:∀i,i<k->bU (U i) H
 tb:∀i,i<k->(U i).tb=0
 n:∀i,i<k->(U i).n=gn
 side:∀i,i<k->∀q,(U i).has q (H q)=true->fO k d (H q)=i
theorem UI.put {U:Nat->ae} {k d gn:Nat} {H:Int->Nat} (h:UI U k d H gn) (hk:k=1\/(k=2/\d<=15)) (q v:Int) (hh:H q<18446744073709551616) (hno:(U (fO k d (H q))).has q (H q)=false) (hroom:dS U k<7*(gn:Int)) :
 (U (fO k d (H q))).bB q (H q)=true/\UI (upd U (fO k d (H q)) ((U (fO k d (H q))).aR q v (H q))) k d H gn/\dS (upd U (fO k d (H q)) ((U (fO k d (H q))).aR q v (H q))) k=dS U k+1/\
 ∀i,i<k->∀q',(upd U (fO k d (H q)) ((U (fO k d (H q))).aR q v (H q)) i).has q' (H q')=((U i).has q' (H q') || (decide (q'=q) && decide (fO k d (H q)=i)))/\
  (upd U (fO k d (H q)) ((U (fO k d (H q))).aR q v (H q)) i).bA q' (H q')=if q'=q/\fO k d (H q)=i then ⟨q,v,H q⟩ else (U i).bA q' (H q'):=by
 have hi:=gm (h:=H q) hk;have hk':k=1\/k=2:=by omega
 generalize hix:fO k d (H q)=x at *
 have hle:=UU hk' hi (λj hj=>(h.f j hj).good.bounds.2.2.1);have hl1:1<=(U x).left:=by unfold ae.left;rw [h.tb x hi,h.n x hi];omega
 have hok:(U x).ok q (H q)=true:=by unfold ae.ok;simp [hl1]
 have Vd:(U x).bB q (H q)=true:=by rw [(h.f x hi).bB,hno];simpa using hl1
 have hat:∀i,i<k->∀q',(upd U x ((U x).aR q v (H q)) i).has q' (H q')=((U i).has q' (H q') || (decide (q'=q) && decide (x=i)))/\
  (upd U x ((U x).aR q v (H q)) i).bA q' (H q')=if q'=q/\x=i then ⟨q,v,H q⟩ else (U i).bA q' (H q'):=λi hik q'=>by
  by_cases e:i=x
  . subst e;rw [upd_same];have h1:=(h.f i hi).nz q v hh q';rw [h1.1,h1.2,hok];by_cases e2:q'=q
    . subst e2;simp
    . simp [e2]
  . rw [ay _ _ e];have e3:¬x=i:=λe'=>e e'.symm;simp [e3]
 refine ⟨Vd,⟨λi hik=>?_,λi hik=>?_,λi hik=>?_,λi hik q' hq'=>?_⟩,?_,hat⟩
 . by_cases e:i=x
   . subst e;rw [upd_same];exact (h.f i hi).aR q v hh
   . rw [ay _ _ e];exact h.f i hik
 . by_cases e:i=x
   . subst e;rw [upd_same];exact adB (h.f i hi).good (h.tb i hi) q v hh
   . rw [ay _ _ e];exact h.tb i hik
 . by_cases e:i=x
   . subst e;rw [upd_same,Uw];exact h.n i hi
   . rw [ay _ _ e];exact h.n i hik
 . rw [(hat i hik q').1] at hq';simp only [Bool.or_eq_true,Bool.and_eq_true,decide_eq_true_eq] at hq';rcases hq' with hq' | ⟨rfl,e⟩
   . exact h.side i hik q' hq'
   . rw [hix,e]
 . rw [kr hk' hi,((h.f x hi).j6 q v).1,Vd];simp;omega
theorem JU {U:Nat->ae} {k d gn:Nat} {H:Int->Nat} (h:UI U k d H gn) (hk:k=1\/(k=2/\d<=15)) (l:List ai) (hH:∀e∈l,e.hash=(H e.key:Int)/\H e.key<18446744073709551616)
 (hnew:∀e∈l,(U (fO k d (H e.key))).has e.key (H e.key)=false) (hdup:∀i j (hi:i<l.length) (hj:j<l.length),l[i].key=l[j].key->i=j) (hroom:dS U k+l.length<=7*(gn:Int)) :
 ∀j,j<=l.length->UI (jN k d (l.take j) (U,0)).1 k d H gn/\dS (jN k d (l.take j) (U,0)).1 k=dS U k+j/\
  (∀i,i<k->∀q,((jN k d (l.take j) (U,0)).1 i).has q (H q)=true↔(U i).has q (H q)=true\/∃p,∃hp:p<l.length,p<j/\l[p].key=q/\fO k d (H q)=i)/\
  (∀i,i<k->∀q,(∀p (hp:p<l.length),p<j->l[p].key=q->fO k d (H q)≠i)->((jN k d (l.take j) (U,0)).1 i).bA q (H q)=(U i).bA q (H q))/\
  (∀p (hp:p<l.length),p<j->((jN k d (l.take j) (U,0)).1 (fO k d (H l[p].key))).bA l[p].key (H l[p].key)=l[p])/\
  (∀p (hp:p<l.length),p<j->((jN k d (l.take p) (U,0)).1 (fO k d l[p].hash.toNat)).bB l[p].key l[p].hash.toNat=true)
 | 0,_=>⟨h,by rw [List.take_zero];simp [jN],λi hi q=>⟨λe => .inl e,λe=>by rcases e with e | ⟨p,hp,h0,-⟩;exact e;omega⟩,λi hi q _=>rfl,λp hp h0=>by omega,λp hp h0=>by omega⟩
 | j+1,hj=>by
  obtain ⟨h1,h2,h3,h4,h5,h6⟩:=JU h hk l hH hnew hdup hroom j (by omega);have hjl:j<l.length:=by omega
  rw [mq hjl];generalize hs:jN k d (l.take j) (U,0)=s at *
  obtain ⟨GU,LH⟩:=hH l[j] (List.getElem_mem hjl);have hcv:l[j].hash.toNat=H l[j].key:=by rw [GU];simp
  have hi:=gm (h:=H l[j].key) hk
  have hno:(s.1 (fO k d (H l[j].key))).has l[j].key (H l[j].key)=false:=by
   rw [<-Bool.not_eq_true,h3 _ hi];rintro (e | ⟨p,hp,LA,hkey,-⟩)
   . rw [hnew _ (List.getElem_mem hjl)] at e;cases e
   . have:=hdup p j hp hjl hkey;omega
  obtain ⟨p1,p2,p3,p4⟩:=h1.put hk l[j].key l[j].val LH hno (by omega);unfold TT;rw [hcv];refine ⟨p2,by rw [p3,h2];omega,λi hi' q=>?_,λi hi' q hq=>?_,λp hp LA=>?_,λp hp LA=>?_⟩
  . rw [(p4 i hi' q).1];simp only [Bool.or_eq_true,Bool.and_eq_true,decide_eq_true_eq];rw [h3 i hi' q]
    constructor
    . rintro ((e | ⟨p,hp,LA,e1,e2⟩) | ⟨e1,e2⟩)
      . exact .inl e
      . exact .inr ⟨p,hp,by omega,e1,e2⟩
      . exact .inr ⟨j,hjl,by omega,e1.symm,by rw [e1];exact e2⟩
    . rintro (e | ⟨p,hp,LA,e1,e2⟩)
      . exact .inl (.inl e)
      . by_cases e:p=j
        . subst e;exact .inr ⟨e1.symm,by rw [<-e1] at e2;exact e2⟩
        . exact .inl (.inr ⟨p,hp,by omega,e1,e2⟩)
  . rw [(p4 i hi' q).2,if_neg (λe=>hq j hjl (by omega) e.1.symm (by rw [e.1];exact e.2))];exact h4 i hi' q (λp hp LA=>hq p hp (by omega))
  . by_cases e:p=j
    . subst e;rw [(p4 _ hi l[p].key).2,if_pos ⟨rfl,rfl⟩,<-GU]
    . have hi2:=gm (h:=H l[p].key) hk;rw [(p4 _ hi2 l[p].key).2,if_neg (λe'=>e (hdup p j hp hjl e'.1))];exact h5 p hp (by omega)
  . by_cases e:p=j
    . subst e;rw [hs,hcv];exact p1
    . exact h6 p hp (by omega)
theorem mg {T:ae} {H:Int->Nat} (hT:bU T H) (sw:∀q,H q<18446744073709551616) {g:Nat} (hg:g<T.n) :
 (∀e∈aS (T.M g) (T.S g),e.hash=(H e.key:Int)/\H e.key<18446744073709551616)/\
 (∀i j (hi:i<(aS (T.M g) (T.S g)).length) (hj:j<(aS (T.M g) (T.S g)).length),(aS (T.M g) (T.S g))[i].key=(aS (T.M g) (T.S g))[j].key->i=j)/\
 (∀q,(∃e∈aS (T.M g) (T.S g),e.key=q)↔∃k,T.At q g k):=by
 have hat:∀k,k∈aI (bC (T.M g))->T.At (T.S g k).key g k:=λk hk=>by
  unfold aI at hk;simp only [List.mem_filter,List.mem_range] at hk;exact ⟨hg,hk.1,hk.2,rfl⟩
 refine ⟨λe he=>?_,λi j hi hj hij=>?_,λq=>⟨?_,?_⟩⟩
 . unfold aS at he;obtain ⟨k,hk,rfl⟩:=List.mem_map.1 he;exact ⟨hT.hash _ _ _ (hat k hk),sw _⟩
 . have hnd:(aI (bC (T.M g))).Nodup:=by unfold aI;exact List.nodup_range.filter _
   unfold aS at hij hi hj;simp only [List.getElem_map,List.length_map] at hij hi hj;have h1:=hat _ (List.getElem_mem hi);have h2:=hat _ (List.getElem_mem hj);rw [hij] at h1;have h3:=(hT.one _ _ _ _ _ h1 h2).2;exact (List.getElem_inj hnd).1 h3
 . rintro ⟨e,he,rfl⟩
   unfold aS at he;obtain ⟨k,hk,rfl⟩:=List.mem_map.1 he;exact ⟨k,hat k hk⟩
 . rintro ⟨k,ha⟩
   refine ⟨T.S g k,?_,ha.key⟩;unfold aS;refine List.mem_map.2 ⟨k,?_,rfl⟩;unfold aI;simp only [List.mem_filter,List.mem_range];exact ⟨ha.hk,ha.full⟩
structure EI (T:ae) (U:Nat->ae) (k d:Nat) (H:Int->Nat) (g gn:Nat) (m:Int):Prop where
 t:bU T H
 tn:T.n=g
 u:UI U k d H gn
 apart:∀q,T.has q (H q)=true->(U (fO k d (H q))).has q (H q)=false
 cnt:T.lv+dS U k<=m
theorem EI.step {T:ae} {U:Nat->ae} {k d g gn:Nat} {H:Int->Nat} {m:Int} (h:EI T U k d H g gn m) (hk:k=1\/(k=2/\d<=15)) (sw:∀q,H q<18446744073709551616) (hm:m<=7*(gn:Int)) {x:Nat} (hx:x<g) :
 nH k d (aS (T.M x) (T.S x)) U/\EI (T.dw x) (jN k d (aS (T.M x) (T.S x)) (U,0)).1 k d H g gn m:=by
 have hx':x<T.n:=by rw [h.tn];exact hx
 obtain ⟨g1,g2,g3⟩:=mg h.t sw hx';have hT':=h.t.dw hx';have hlv:=AB T x;have agm:=hT'.good.bounds.2.2.1;have hcnt:=h.cnt;obtain ⟨l,hl⟩:=dC (aS (T.M x) (T.S x));rw [<-hl] at g1 g2 g3 hlv ⊢
 have hnew:∀e∈l,(U (fO k d (H e.key))).has e.key (H e.key)=false:=λe he=>by
  obtain ⟨q,hq⟩:=(g3 e.key).1 ⟨e,he,rfl⟩;exact h.apart _ (h.t.iZ hq)
 obtain ⟨i1,i2,i3,i4,i5,i6⟩:=JU h.u hk l g1 hnew g2 (by omega) l.length (aL _);rw [List.take_length] at i1 i2 i3 i4 i5;refine ⟨λj hj=>i6 j hj hj,⟨hT',by rw [Az];exact h.tn,i1,λq hq=>?_,by rw [i2,hlv];omega⟩⟩;obtain ⟨g',k',ha⟩:=hT'.iN.1 hq;rw [jP hx'] at ha;rw [<-Bool.not_eq_true,i3 _ (gm hk)];rintro (e | ⟨p,hp,-,hkey,-⟩)
 . rw [h.apart q (h.t.iZ ha.2)] at e;cases e
 . obtain ⟨k2,ha2⟩:=(g3 q).1 ⟨l[p],List.getElem_mem hp,hkey⟩;exact ha.1 (h.t.one _ _ _ _ _ ha.2 ha2).1
theorem EI.aR {T:ae} {U:Nat->ae} {k d g gn:Nat} {H:Int->Nat} {m:Int} (h:EI T U k d H g gn m) (hk:k=1\/(k=2/\d<=15)) (hU:∀i,i<k->∀q,(U i).has q (H q)=false) (q v:Int) (hh:H q<18446744073709551616):EI (T.aR q v (H q)) U k d H g gn (m+1) :=
 ⟨h.t.aR q v hh,by rw [Uw];exact h.tn,h.u,λq' _=>hU _ (gm hk) q',by
  have h1:=h.cnt
  rw [(h.t.j6 q v).1];split <;> omega⟩
theorem NJ {n:Nat} (hr:aN (n:Int)=true) (H:Int->Nat) (q:Int):(ae.new n).has q (H q)=false:=by
 cases e:(ae.new n).has q (H q) with
 | false=>rfl
 | true =>
  obtain ⟨a,-⟩:=(bq.new hr).BA e;have h1:=a.full;rw [show (ae.new n).M ((ae.new n).bn q (H q))=rep 128 from rfl,eO,oG 128 _ (by decide) a.hk] at h1;omega
def JW (H:Int->Nat) (q:Int):ai:=⟨q,q+5,H q⟩
structure EK (T:ae) (U:Nat->ae) (k:Nat) (H:Int->Nat) (n:Nat):Prop where
 o:∀q,T.has q (H q)=true->(∃x:Nat,x<n/\q=x)/\T.bA q (H q)=JW H q
 u:∀i,i<k->∀q,(U i).has q (H q)=true->(∃x:Nat,x<n/\q=x)/\(U i).bA q (H q)=JW H q
 co:Tx T H n
 cu:∀i,i<k->Tx (U i) H n
theorem aeo {T:ae} {H:Int->Nat} {n x:Nat} (hT:bU T H) (h:∀q,T.has q (H q)=true->(∃x:Nat,x<n/\q=x)/\T.bA q (H q)=JW H q) (hx:x<n) (hh:H x<18446744073709551616) :
 ∀q,(T.aR x ((x:Int)+5) (H x)).has q (H q)=true->(∃x:Nat,x<n/\q=x)/\(T.aR x ((x:Int)+5) (H x)).bA q (H q)=JW H q:=λq hq=>by
 obtain ⟨h1,h2⟩:=hT.nz x ((x:Int)+5) hh q;rw [h1] at hq;rw [h2];by_cases e:q=(x:Int)
 . subst e;rw [if_pos rfl] at hq;rw [if_pos rfl,if_pos hq];exact ⟨⟨x,hx,rfl⟩,rfl⟩
 . rw [if_neg e] at hq ⊢;exact h q hq
theorem EK.aR {T:ae} {U:Nat->ae} {k n x:Nat} {H:Int->Nat} (h:EK T U k H n) (hT:bU T H) (hx:x<n) (hh:H x<18446744073709551616):EK (T.aR x ((x:Int)+5) (H x)) U k H n :=
 ⟨aeo hT h.o hx hh,h.u,h.co.put hT hx _ hh,h.cu⟩
structure EJ (T:ae) (U:Nat->ae) (k d:Nat) (H:Int->Nat) (g gn:Nat) (m:Int) (n:Nat):Prop where
 e:EI T U k d H g gn m
 k:EK T U k H n
theorem EI.more {T:ae} {U:Nat->ae} {k d g gn:Nat} {H:Int->Nat} {m m':Int} (h:EI T U k d H g gn m) (hm:m<=m'):EI T U k d H g gn m':=⟨h.t,h.tn,h.u,h.apart,Int.le_trans h.cnt hm⟩
section
variable {T:ae} {U:Nat->ae} {k d g gn n:Nat} {H:Int->Nat} {m m':Int}
theorem EJ.more (h:EJ T U k d H g gn m n) (hm:m<=m'):EJ T U k d H g gn m' n:=⟨h.e.more hm,h.k⟩
theorem EJ.aR {x:Nat} (h:EJ T U k d H g gn m n) (hk:k=1\/(k=2/\d<=15)) (hU:∀i,i<k->∀q,(U i).has q (H q)=false) (hx:x<n) (hh:H x<18446744073709551616):EJ (T.aR x ((x:Int)+5) (H x)) U k d H g gn (m+1) n :=
 ⟨h.e.aR hk hU _ _ hh,h.k.aR h.e.t hx hh⟩
end
def Ux (T:ae) (U:Nat->ae) (k d:Nat) (H:Int->Nat) (x:Nat):Bool:=T.has x (H x) || (U (fO k d (H x))).has x (H x)
structure EL (T:ae) (U:Nat->ae) (k d:Nat) (H:Int->Nat) (g gn:Nat) (m:Int) (n nx c:Nat) (P:Nat->Bool):Prop where
 e:EI T U k d H g gn m
 o:∀q,T.has q (H q)=true->(∃x:Nat,x<n/\q=x)/\T.bA q (H q)=JW H q
 u:∀i,i<k->∀q,(U i).has q (H q)=true->(∃x:Nat,x<n/\q=x)/\(U i).bA q (H q)=JW H q
 c:T.lv+dS U k=(c:Int)
 p:∀x,x<n->Ux T U k d H x=P x
 z:∀q g' k',T.At q g' k'->nx<=g'
section
variable {T:ae} {U:Nat->ae} {k d g gn n nx c:Nat} {H:Int->Nat} {m:Int} {P:Nat->Bool}
theorem EL.step (h:EL T U k d H g gn m n nx c P) (hk:k=1\/(k=2/\d<=15)) (sw:∀q,H q<18446744073709551616) (hm:m<=7*(gn:Int)) (hx:nx<g) :
 nH k d (aS (T.M nx) (T.S nx)) U/\EL (T.dw nx) (jN k d (aS (T.M nx) (T.S nx)) (U,0)).1 k d H g gn m n (nx+1) c P:=by
 obtain ⟨hok,he⟩:=h.e.step hk sw hm hx;refine ⟨hok,?_⟩;have hx':nx<T.n:=by rw [h.e.tn];exact hx
 obtain ⟨g1,g2,g3⟩:=mg h.e.t sw hx';have hT':=h.e.t.dw hx';have hlv:=AB T nx;have agm:=hT'.good.bounds.2.2.1;have hcnt:=h.e.cnt
 have hent:∀e∈aS (T.M nx) (T.S nx),T.has e.key (H e.key)=true/\e=JW H e.key:=λe he=>by
  unfold aS at he;obtain ⟨k',hk',rfl⟩:=List.mem_map.1 he
  have ha:T.At (T.S nx k').key nx k':=by
   unfold aI at hk';simp only [List.mem_filter,List.mem_range] at hk';exact ⟨hx',hk'.1,hk'.2,rfl⟩
  have hh:=h.e.t.iZ ha;exact ⟨hh,(h.e.t.kS ha).symm.trans (h.o _ hh).2⟩
 obtain ⟨l,hl⟩:=dC (aS (T.M nx) (T.S nx));rw [<-hl] at g1 g2 g3 hlv hent he ⊢;have hnew:∀e∈l,(U (fO k d (H e.key))).has e.key (H e.key)=false:=λe he=>h.e.apart _ (hent e he).1;obtain ⟨i1,i2,i3,i4,i5,i6⟩:=JU h.e.u hk l g1 hnew g2 (by omega) l.length (aL _);rw [List.take_length] at i1 i2 i3 i4 i5
 have hold:∀q,(T.dw nx).has q (H q)=true↔T.has q (H q)=true/\¬∃p,∃hp:p<l.length,l[p].key=q:=λq=>by
  rw [hT'.iN,h.e.t.iN]
  constructor
  . rintro ⟨g',k',ha⟩
    rw [jP hx'] at ha;refine ⟨⟨g',k',ha.2⟩,?_⟩;rintro ⟨p,hp,hq⟩
    obtain ⟨k2,ha2⟩:=(g3 q).1 ⟨l[p],List.getElem_mem hp,hq⟩;exact ha.1 (h.e.t.one _ _ _ _ _ ha.2 ha2).1
  . rintro ⟨⟨g',k',ha⟩,hno⟩
    refine ⟨g',k',(jP hx' q g' k').2 ⟨λe=>?_,ha⟩⟩;subst e;obtain ⟨e,he,hq⟩:=(g3 q).2 ⟨k',ha⟩;obtain ⟨p,hp,rfl⟩:=List.getElem_of_mem he;exact hno ⟨p,hp,hq⟩
 refine ⟨he,λq hq=>?_,λi hi q hq=>?_,?_,λx hxn=>?_,λq g' k' ha=>?_⟩
 . obtain ⟨g',k',ha⟩:=hT'.iN.1 hq;have hq0:=((hold q).1 hq).1;have ha2:=(jP hx' q g' k').1 ha;refine ⟨(h.o q hq0).1,?_⟩;rw [hT'.kS ha,(Cz T ha2.1).2,<-h.e.t.kS ha2.2];exact (h.o q hq0).2
 . by_cases e:∃p,∃hp:p<l.length,l[p].key=q/\fO k d (H q)=i
   . obtain ⟨p,hp,rfl,rfl⟩:=e;have h5:=i5 p hp hp;obtain ⟨e1,e2⟩:=hent _ (List.getElem_mem hp);exact ⟨(h.o _ e1).1,h5.trans e2⟩
   . rw [i3 i hi q] at hq;rcases hq with hq | ⟨p,hp,-,h1,h2⟩
     . have h4:=i4 i hi q (λp hp _ h1 h2=>e ⟨p,hp,h1,h2⟩);rw [h4];exact h.u i hi q hq
     . exact absurd ⟨p,hp,h1,h2⟩ e
 . rw [i2,hlv];have:=h.c;omega
 . rw [<-h.p x hxn,Bool.eq_iff_iff];unfold Ux;rw [Bool.or_eq_true,Bool.or_eq_true,hold,i3 _ (gm hk)]
   constructor
   . rintro (⟨e,-⟩|e | ⟨p,hp,-,hq,-⟩)
     . exact .inl e
     . exact .inr e
     . refine .inl ?_;have:=(hent _ (List.getElem_mem hp)).1;rw [hq] at this;exact this
   . rintro (e|e)
     . by_cases e2:∃p,∃hp:p<l.length,l[p].key=(x:Int)
       . obtain ⟨p,hp,hq⟩:=e2;exact .inr (.inr ⟨p,hp,hp,hq,rfl⟩)
       . exact .inl ⟨e,e2⟩
     . exact .inr (.inl e)
 . obtain ⟨h1,h2⟩:=(jP hx' q g' k').1 ha;have:=h.z q g' k' h2;omega
theorem EL.at (h:EL T U k d H g gn m n nx c P) {x:Nat} (hk:k=1\/(k=2/\d<=15)) (hx:x<n) (hp:P x=true) :
 (T.has x (H x)=true/\T.bA x (H x)=JW H x/\(U (fO k d (H x))).has x (H x)=false)\/(T.has x (H x)=false/\(U (fO k d (H x))).has x (H x)=true/\(U (fO k d (H x))).bA x (H x)=JW H x):=by
 have hpx:=h.p x hx;rw [hp] at hpx;unfold Ux at hpx;cases c1:T.has (x:Int) (H x) with
 | true=>exact .inl ⟨rfl,(h.o _ c1).2,h.e.apart _ c1⟩
 | false =>
  rw [c1,Bool.false_or] at hpx;exact .inr ⟨rfl,hpx,(h.u _ (gm hk) _ hpx).2⟩
end
def qo (h i:Nat):Nat:=h / 2 ^ (63-i) % 2
theorem acg (h i:Nat):qo h i<=1:=by unfold qo;omega
def o8 (l:List Nat):Nat:=l.foldl (λn b=>n*2+b) 0
theorem qG (l:List Nat) (b:Nat):o8 (l ++ [b])=o8 l*2+b:=by simp [o8]
theorem RZ (l:List Nat) (h:∀b∈l,b<=1) (n:Nat):l.foldl (λn b=>n*2+b) n<(n+1)*2 ^ l.length:=by
 induction l generalizing n with
 | nil=>simp
 | cons b l ih =>
  have h1:=ih (λx hx=>h x (by simp [hx])) (n*2+b);have h2:=h b (by simp);rw [List.foldl_cons,List.length_cons,Nat.pow_succ];refine bM h1 ?_;rw [Nat.mul_comm (2 ^ l.length) 2,<-Nat.mul_assoc];exact Nat.mul_le_mul_right _ (by omega)
theorem abt (l:List Nat) (h:∀b∈l,b<=1):o8 l<2 ^ l.length:=by
 simpa [o8] using RZ l h 0
set_option maxRecDepth 100000
theorem abu (E:Nat->Addr) (w:World) (h:w.cell? ⟨4,0,none⟩=some (aO E 10)):Calls Tryz.prog 155 #[.bool false] w λe w'=>e = .panicked [{ v:=iA (aO E 10),recovered:=false}]/\w=w':=by
 go_enter Tryz.func155,Tryz.ntmps155
 go_wp2_with (go_at_call 180;refine (RH E 10 _).mono ?_;rintro e w' ⟨rfl,rfl⟩)
 exact ⟨rfl,rfl,rfl⟩
theorem RY (l:List Nat) (k:Nat) (hk:k<l.length):o8 (l.take (k+1))=o8 (l.take k)*2+l[k]:=by
 rw [List.take_succ_eq_append_getElem hk,qG]
theorem Ei (v:Value) (l:List Nat) (hl:l.length<=64) (hb:∀b∈l,b<=1) (w:World) (h:jB w v (l.map λn:Nat=>(n:Int))) :
 Calls Tryz.prog 112 #[v] w λe w'=>e = .returned (.int .u64 ((o8 l:Nat):Int))/\w=w':=by
 obtain ⟨a,cap,rfl,hx⟩:=h;have HX:=aa hx;have HB:=aa hb;clear hx hb;rw [List.length_map];go_enter Tryz.func112,Tryz.ntmps112
 go_wp2
 go_loop [3,8] (λv3 v8 => ∃k:Nat,k<=l.length/\v8 = .int .i64 (k:Int)/\v3 = .int .u64 ((o8 (l.take k):Nat):Int)) (λ_ v8=>l.length-(intOf v8).toNat)
 case atStart=>exact ⟨0,o7 _,rfl,rfl⟩
 case round =>
  obtain ⟨k,hk,rfl,rfl⟩:=hrel;by_cases hlt:k<l.length
  . obtain ⟨b,off,rfl,hc⟩:=HX.out (by intro e;have:=congrArg List.length e;simp at this;subst this;simp at hlt);have hck:w.cell? ⟨b,off+k,none⟩=some (.int .i64 (l[k]:Int)):=(hc k (by simpa using hlt)).trans (congrArg (λz=>some (Value.int .i64 z)) (List.getElem_map ..));have h1:=HB.out l[k] (List.getElem_mem hlt);have h2:=abt (l.take k) (λb hb=>HB.out b (List.mem_of_mem_take hb))
    have h3:2 ^ (l.take k).length<=9223372036854775808:=by
     rw [List.length_take,Nat.min_eq_left (by omega)];exact Nat.pow_le_pow_right (n:=2) (by decide) (show k<=63 by omega)
    have hn:=aa (RY l k hlt);have h4:o8 (l.take k)<9223372036854775808:=bM h2 h3;clear hc h2 h3;generalize l[k]=c at *
    generalize o8 (l.take k)=m at *
    go_wp2
    go_round
    case rel=>exact ⟨k+1,by omega,by go_num,by rw [hn.out];go_num⟩
    case measure=>simp [intOf];omega
  . obtain rfl:k=l.length:=by omega
    rw [List.take_length];go_wp2;go_ret;exact ⟨rfl,rfl⟩
def eD (f:Nat->Nat):Array Value:=((List.range 64).map λi=>Value.int .i64 (f i:Int)).toArray
theorem gI (f:Nat->Nat):(eD f).size=64:=by simp [eD]
theorem iE (f:Nat->Nat) (j:Nat) (hj:j<64):(eD f)[j]?=some (.int .i64 (f j:Int)):=by simp [eD,hj]
theorem si (f:Nat->Nat) (k b:Nat) (hk:k<64):(eD f).setIfInBounds k (.int .i64 (b:Int))=eD (λj=>if j=k then b else f j):=by
 apply Array.ext_getElem?
 intro j;by_cases hj:j<64
 . rw [iE _ _ hj,Array.getElem?_setIfInBounds];by_cases e:k=j
   . subst e;simp [gI,hj]
   . rw [if_neg e,iE _ _ hj,if_neg (Ne.symm e)]
 . rw [Array.getElem?_eq_none (by rw [Array.size_setIfInBounds,gI];omega),Array.getElem?_eq_none (by rw [gI];omega)]
theorem su (f:Nat->Nat):∀v∈(eD f).toList,v.oneCell'=true:=by
 intro v hv;simp only [eD,List.mem_map] at hv;obtain ⟨i,-,rfl⟩:=hv;rfl
theorem gL {f g:Nat->Nat} (h:∀i,i<64->f i=g i):eD f=eD g:=by
 unfold eD
 congr 1
 refine List.map_congr_left λi hi=>?_;rw [h i (List.mem_range.1 hi)]
def bD:Array Value:=Array.replicate 64 (Value.int .i64 0)
theorem kX:bD=eD λ_=>0:=by
 apply Array.ext_getElem?
 intro j;by_cases hj:j<64
 . rw [iE _ _ hj];simp [bD,hj]
 . rw [Array.getElem?_eq_none (by simp [bD];omega),Array.getElem?_eq_none (by rw [gI];omega)]
theorem Qu (w:World):(zeroValue 169).run Tryz.prog w = .ok (.agg bD) w:=by kernel_rfl
theorem Tu (h n:Nat):(λj=>if j=n then qo h n else if n+1<=j then qo h j else 0)=λj=>if n<=j then qo h j else 0:=by
 funext j
 by_cases e:j=n
 . subst e;simp
 . by_cases e2:n<=j
   . rw [if_neg e,if_pos e2,if_pos (by omega)]
   . rw [if_neg e,if_neg e2,if_neg (by omega)]
theorem aaA (h:Nat) (hh:h<18446744073709551616) (w0:World) :
 Calls Tryz.prog 168 #[.int .u64 (h:Int)] w0 λe w'=>e = .returned (.agg (eD (qo h)))/\Below w0.heap.size w0 w':=by
 go_enter Tryz.func168,Tryz.ntmps168
 go_wp2_with (first
  | (refine eU rfl (Im (t:=169) rfl Tryz.underlying169 rfl Qu (λw=>⟨_,Tryz.sizeOf3 w⟩)) ?_)
  | (refine eU rfl (Fj (t:=169) rfl Qu) ?_)
  | (refine gH rfl (fq (t:=169) rfl rfl rfl (af.new _ _ _) rfl (by rw [show (Value.agg bD).cells=bD from rfl,show bD.size=64 from by simp [bD]];exact Tryz.sizeOf169 _) (by rw [kX];exact su _)) ?_;rw [Nl rfl]))
 have q1:af ((w0.alloc (.cells bD 169)).alloc (.cells bD 169)) (w0.heap.size+1) 169 bD:=af.aF (by simp);have q0:af ((w0.alloc (.cells bD 169)).alloc (.cells bD 169)) w0.heap.size 169 bD:=(af.new _ _ _).alloc _;have hB1:Below w0.heap.size w0 ((w0.alloc (.cells bD 169)).alloc (.cells bD 169)):=by go_grown
 go_loopw [0,4] (λv0 v4 wr => ∃k:Nat,k<=64/\v4 = .int .i64 ((k:Int)-1)/\v0 = .int .u64 ((h / 2 ^ (64-k):Nat):Int)/\af wr (w0.heap.size+1) 169 (eD (λj=>if k<=j then qo h j else 0))/\af wr w0.heap.size 169 bD/\Below w0.heap.size w0 wr) (λ_ v4 _=>(intOf v4+1).toNat)
 case atStart =>
  refine ⟨64,by omega,rfl,by simp,?_,q0,hB1⟩;rw [<-gL (f:=λ_=>0) (λi hi=>by simp [show ¬64<=i by omega]),<-kX];exact q1
 case round =>
  obtain ⟨k,hk,rfl,rfl,h1,h2,h3⟩:=hrel;by_cases hlt:1<=k
  . obtain ⟨n,rfl⟩:∃n,k=n+1:=⟨k-1,by omega⟩
    rw [show (((n+1:Nat):Int)-1)=(n:Int) by omega,show 64-(n+1)=63-n by omega];have c1:=h1.cell n;rw [iE _ n (by omega)] at c1;have f1:=h1.frozen n;have hv:h / 2 ^ (63-n) % 2=qo h n:=rfl;have hq0:h / 2 ^ (63-n) / 2=h / 2 ^ (64-n):=(by rw [Nat.div_div_eq_div_mul,<-Nat.pow_succ,show (63-n).succ=64-n by omega])
    have hlow:h / 2 ^ (63-n)<=h:=Nat.div_le_self _ _;generalize h / 2 ^ (63-n)=t at *
    have hq:=aa hq0;clear hq0;have H1:=aa h1;have H2:=aa h2;clear h1 h2;go_wp2
    go_roundw
    case rel =>
     refine ⟨n,by omega,by go_num,by rw [<-hq.out];simp,?_,H2.out.other (by omega) _ _,h3.setCell (by simp) _⟩;have:=H1.out.set n (.int .i64 (qo h n:Int));rw [si _ _ _ (by omega)] at this;rw [Tu] at this;rw [show (t:Int) % 2=((qo h n:Nat):Int) by omega];exact this
    case measure=>simp only [intOf];omega
  . obtain rfl:k=0:=by omega
    rw [gL (g:=qo h) (λi hi=>by simp)] at h1;have H1:=aa h1;have H2:=aa h2;clear h1 h2;have HSZ:(eD (qo h)).size=bD.size:=by rw [gI];simp [bD]
    go_wp2_with (first|(refine eU rfl (jM (t:=169) rfl rfl Tryz.underlying169 rfl H1.out (by rw [gI];exact Tryz.sizeOf169 _)) ?_)|(refine gH rfl (fq (t:=169) rfl rfl rfl H2.out HSZ (by rw [gI];exact Tryz.sizeOf169 _) (su _)) ?_))
    trace_state
    refine bodyPost_ret (v := .agg (eD (qo h))) ?_ rfl ⟨rfl,Below.setRow h3 (aL _) _⟩;exact pE rfl rfl Tryz.underlying169 rfl (H2.out.setRow _) (by rw [gI];exact Tryz.sizeOf169 _)
theorem aiH (f:Nat->Nat) (k:Nat) (hk:k<64) (w:World):(Instr.index 169 (.agg (eD f)) (.int .i64 (k:Int))).run Tryz.prog w = .ok (.int .i64 ((f k:Nat):Int)) w:=by
 have hag:(isAgg 3).run Tryz.prog w = .ok false w:=Tryz.isAgg3 w;have hsz:=Tryz.sizeOf3 w;have hg:=iE f k hk
 have hp:(part 3 (eD f) ((k:Int).toNat*1)).run Tryz.prog w = .ok (.int .i64 ((f k:Nat):Int)) w:=by
  simp only [part,Sem.run_bind,hag,Result.andThen,Bool.false_eq_true,if_false,Int.toNat_natCast,Nat.mul_one,hg];rfl
 have h1:0<=(k:Int)/\(k:Int)<((64:Nat):Int):=by omega
 simp only [Instr.index,asIntOf,Sem.run_bind,Sem.run_pure,Result.andThen,run_underlying Tryz.underlying169,if_pos h1,hsz,hp]
structure VM (w:World) (X O G cap k:Nat) (TB:Nat->Nat) (d next:Nat):Prop where
 b:∃dI:Int,(k=2->dI=(d:Int))/\af w X 135 #[.pointer (some ⟨O,0,none⟩),.slice (some ⟨G,0,none⟩) k cap,.int .i64 dI,.int .i64 (next:Int)]
 l:∀i,i<k->w.cell? ⟨G,i,none⟩=some (.pointer (some ⟨TB i,0,none⟩))
 lt:G<w.heap.size
 hk:k=1\/(k=2/\d<=15)
theorem VM.blt {w:World} {V O G cap k:Nat} {TB:Nat->Nat} {d next:Nat} (h:VM w V O G cap k TB d next):V<w.heap.size:=by obtain ⟨_,-,h⟩:=h.b;exact h.lt
theorem VM.later {w w':World} {V O G cap k:Nat} {TB:Nat->Nat} {d next:Nat} (h:VM w V O G cap k TB d next) (hb:Below w.heap.size w w'):VM w' V O G cap k TB d next :=
 ⟨(by obtain ⟨q,e,b⟩:=h.b;exact ⟨q,e,b.below hb b.lt⟩),λi hi=>(hb.cell (p:=⟨G,i,none⟩) h.lt).trans (h.l i hi),bM h.lt hb.size,h.hk⟩
theorem VM.aA {X:Nat->Prop} {w w':World} {V O G cap k:Nat} {TB:Nat->Nat} {d next:Nat} (h:VM w V O G cap k TB d next) (hc:ah X w w') (h1:¬X V) (h2:¬X G):VM w' V O G cap k TB d next :=
 ⟨(by obtain ⟨q,e,b⟩:=h.b;exact ⟨q,e,b.aA hc h1⟩),λi hi=>(hc.cell (p:=⟨G,i,none⟩) h.lt h2).trans (h.l i hi),bM h.lt hc.size,h.hk⟩
theorem eX {w:World} {V O G cap k:Nat} {TB:Nat->Nat} {d next:Nat} (h:VM w V O G cap k TB d next):w.cell? ⟨V,0,none⟩=some (.pointer (some ⟨O,0,none⟩))/\w.cell? ⟨V,1,none⟩=some (.slice (some ⟨G,0,none⟩) k cap)/\(∃dI:Int,(k=2->dI=(d:Int))/\w.cell? ⟨V,2,none⟩=some (.int .i64 dI))/\w.cell? ⟨V,3,none⟩=some (.int .i64 (next:Int))/\V<w.heap.size/\(∀j,w.frozen? ⟨V,j,none⟩=false) :=
 by obtain ⟨q,e,b⟩:=h.b;exact ⟨b.cell 0,b.cell 1,⟨q,e,b.cell 2⟩,b.cell 3,b.lt,λj=>b.frozen j⟩
theorem CJ (V O G cap k:Nat) (TB:Nat->Nat) (d next h:Nat) (hh:h<18446744073709551616) (w:World) (he:VM w V O G cap k TB d next) :
 Calls Tryz.prog 133 #[.pointer (some ⟨V,0,none⟩),.int .u64 (h:Int)] w λe w'=>e = .returned (.pointer (some ⟨TB (fO k d h),0,none⟩))/\Below w.heap.size w w':=by
 obtain ⟨c0,c1,c2,c3,hl,hf⟩:=eX he;have hz:=he.lt;have l0:=he.l 0 (by rcases he.hk with e|e <;> omega);rcases he.hk with rfl | ⟨rfl,hd⟩
 . have e1:fO 1 d h=0:=rfl;rw [e1];clear he c0 c2 c3 hf;go_enter Tryz.func133,Tryz.ntmps133
   go_wp2;refine ag (λ_=>False) #[⟨0,0,32,1,0⟩,⟨1,1,64,32,0⟩,⟨2,3,128,64,0⟩,⟨4,7,256,128,1⟩,⟨8,15,512,256,0⟩,⟨16,31,1024,512,0⟩,⟨32,63,2048,1024,0⟩,⟨64,127,4096,2050,0⟩,⟨192,255,8192,6144,2⟩,⟨64,127,2^14,2049,0⟩,⟨576,639,2^15,(2^11+2^14),0⟩,⟨1088,1663,2^16,(2^11+2^15),0⟩,⟨2112,3711,2^17,(2^11+2^16),1⟩,⟨4416,8191,2^18,(2^11+2^13+2^17),0⟩,⟨8256,16383,2^19,(2^11+2^18),0⟩,⟨(2^6+2^14),32767,2^20,(2^11+2^19),0⟩] 4104 [(0,0),(1,0),(2,0),(3,1),(4,0),(5,0),(6,0),(7,0),(9,0),(10,0),(11,0),(12,1),(8,2),(13,0),(14,0),(15,0)] (by kernel_rfl) (by kernel_rfl) (by kernel_rfl) (by kernel_rfl) (by kernel_rfl) (by kernel_rfl) (λc a d v w h=>by cases d <;> exact h) ?_;refine aj ?_;refine aj ?_;refine aj ?_;refine bW Tryz.underlying133 ?_
   try refine aC ?_;refine aj ?_;refine aj ?_;refine aj ?_
   first
    | (refine jD ?_)
   try refine aC ?_
   first
    | (refine jD ?_)
   try refine aC ?_
   first
    | (refine jD ?_)
   try refine aC ?_
   first
    | (refine jD ?_)
   try refine aC ?_
   first
    | (refine jD ?_)
   try refine aC ?_
   first
    | (refine jD ?_)
   try refine aC ?_
   first
    | (refine jD ?_)
   try refine aC ?_
   first
    | (refine jD ?_)
   try refine aC ?_;refine aj ?_
   refine aD ?_;go_wp2;go_ret;exact ⟨rfl,(aM _ _).drew⟩
 . obtain ⟨dI,hdI,c2⟩:=c2;obtain rfl:=hdI rfl;clear hdI;have l1:=he.l 1 (by decide);have BT:=aa (λw'=>aaA h hh w');have IX:=λw=>aiH (qo h) d (by omega) w;have hb:=acg h d;have e1:fO 2 d h=qo h d:=rfl;rw [e1];have HV:=aa he;generalize qo h d=b at *
   generalize eD (qo h)=bs at *
   clear he c0 c3 hf e1;obtain rfl|rfl:b=0\/b=1:=by omega
   . go_enter Tryz.func133,Tryz.ntmps133
     go_wp2;refine ag (λ_=>False) #[⟨0,0,32,1,0⟩,⟨1,1,64,32,0⟩,⟨2,3,128,64,0⟩,⟨4,7,256,128,1⟩,⟨8,15,512,256,0⟩,⟨16,31,1024,512,0⟩,⟨32,63,2048,1024,0⟩,⟨64,127,4096,2050,0⟩,⟨192,255,8192,6144,2⟩,⟨64,127,2^14,2049,0⟩,⟨576,639,2^15,(2^11+2^14),0⟩,⟨1088,1663,2^16,(2^11+2^15),0⟩,⟨2112,3711,2^17,(2^11+2^16),1⟩,⟨4416,8191,2^18,(2^11+2^13+2^17),0⟩,⟨8256,16383,2^19,(2^11+2^18),0⟩,⟨(2^6+2^14),32767,2^20,(2^11+2^19),0⟩] 4104 [(0,0),(1,0),(2,0),(3,1),(4,0),(5,0),(6,0),(7,0),(9,0),(10,0),(11,0),(12,1),(8,2),(13,0),(14,0),(15,0)] (by kernel_rfl) (by kernel_rfl) (by kernel_rfl) (by kernel_rfl) (by kernel_rfl) (by kernel_rfl) (λc a d v w h=>by cases d <;> exact h) ?_;refine aj ?_;refine aj ?_;refine aj ?_;refine bW Tryz.underlying133 ?_
     try refine aC ?_;refine aj ?_;refine aj ?_;refine aj ?_
     first
      | (refine jS ?_)
     try refine aC ?_
     first
      | (refine jS ?_)
     try refine aC ?_
     first
      | (refine jS ?_)
     try refine aC ?_
     first
      | (refine jS ?_)
     try refine aC ?_
     first
      | (refine bW Tryz.underlying3 ?_)
     try refine aC ?_
     first
      | (refine jD ?_)
      | (refine iK λK hK=>?_;go_wp2_with (go_at_call 168;refine (BT.out _).mono ?_;rintro e w1 ⟨rfl,hb1⟩;have V1:=aa (HV.out.later (show Below w.heap.size w w1 from Below.bS hb1));obtain ⟨d0,d1,⟨dI,hdI,d2⟩,d3,zl,-⟩:=eX V1.out;obtain rfl:=hdI rfl;clear hdI;have zg:=V1.out.lt;have t0:=V1.out.l 0 (by decide);have t1:=V1.out.l 1 (by decide));refine iX hK (h:=?_);clear hK K)
     try refine aC ?_
     first
      | (refine jS ?_)
     try refine aC ?_
     first
      | (refine jS ?_)
     try refine aC ?_;refine aj ?_
     refine aD ?_;go_wp2;go_ret;exact ⟨rfl,Below.bS hb1⟩
   . go_enter Tryz.func133,Tryz.ntmps133
     go_wp2;refine ag (λ_=>False) #[⟨0,0,32,1,0⟩,⟨1,1,64,32,0⟩,⟨2,3,128,64,0⟩,⟨4,7,256,128,1⟩,⟨8,15,512,256,0⟩,⟨16,31,1024,512,0⟩,⟨32,63,2048,1024,0⟩,⟨64,127,4096,2050,0⟩,⟨192,255,8192,6144,2⟩,⟨64,127,2^14,2049,0⟩,⟨576,639,2^15,(2^11+2^14),0⟩,⟨1088,1663,2^16,(2^11+2^15),0⟩,⟨2112,3711,2^17,(2^11+2^16),1⟩,⟨4416,8191,2^18,(2^11+2^13+2^17),0⟩,⟨8256,16383,2^19,(2^11+2^18),0⟩,⟨(2^6+2^14),32767,2^20,(2^11+2^19),0⟩] 4104 [(0,0),(1,0),(2,0),(3,1),(4,0),(5,0),(6,0),(7,0),(9,0),(10,0),(11,0),(12,1),(8,2),(13,0),(14,0),(15,0)] (by kernel_rfl) (by kernel_rfl) (by kernel_rfl) (by kernel_rfl) (by kernel_rfl) (by kernel_rfl) (λc a d v w h=>by cases d <;> exact h) ?_;refine aj ?_;refine aj ?_;refine aj ?_;refine bW Tryz.underlying133 ?_
     try refine aC ?_;refine aj ?_;refine aj ?_;refine aj ?_
     first
      | (refine jS ?_)
     try refine aC ?_
     first
      | (refine jS ?_)
     try refine aC ?_
     first
      | (refine jS ?_)
     try refine aC ?_
     first
      | (refine jS ?_)
     try refine aC ?_
     first
      | (refine bW Tryz.underlying3 ?_)
     try refine aC ?_
     first
      | (refine jD ?_)
      | (refine iK λK hK=>?_;go_wp2_with (go_at_call 168;refine (BT.out _).mono ?_;rintro e w1 ⟨rfl,hb1⟩;have V1:=aa (HV.out.later (show Below w.heap.size w w1 from Below.bS hb1));obtain ⟨d0,d1,⟨dI,hdI,d2⟩,d3,zl,-⟩:=eX V1.out;obtain rfl:=hdI rfl;clear hdI;have zg:=V1.out.lt;have t0:=V1.out.l 0 (by decide);have t1:=V1.out.l 1 (by decide));refine iX hK (h:=?_);clear hK K)
     try refine aC ?_
     first
      | (refine jS ?_)
     try refine aC ?_
     first
      | (refine jS ?_)
     try refine aC ?_;refine aj ?_
     refine aD ?_;go_wp2;go_ret;exact ⟨rfl,Below.bS hb1⟩
attribute [local go_sem] neq_nilG eql_nilG
theorem jo {w:World} {base k:Nat} {v:Value} {F:Nat->Nat} {e:TypeId} (h:w.ownsRow base e 1 v k ((List.range k).map (λi=>Value.pointer (some ⟨F i,0,none⟩)))) (hk:1<=k) :
 ∃g cap cur,v = .slice (some ⟨g,0,none⟩) k cap/\base<=g/\af w g e cur/\∀i,i<k->w.cell? ⟨g,i,none⟩=some (.pointer (some ⟨F i,0,none⟩)):=by
 rcases h.2 with ⟨rfl,rfl⟩ | ⟨g,cap,cur,rfl,hb,hg,h1,h2,h3,h4⟩
 . omega
 . refine ⟨g,cap,cur,rfl,hb,hg,λi hi=>?_⟩;have h5:=h.cells (g:=g) rfl i
   have h6:(⟨g,0,none⟩:Addr).add i=⟨g,i,none⟩:=by
    simp only [Addr.add];split
    . rename_i e;rw [e]
    . simp
   rw [h6] at h5;exact h5 _ (by simp [hi])
theorem iW {P:Program} {w:World} {ops:Array Oper} {rest:List Oper} {o:Oper} {a:Act} {Q:Exit->Act->World->Prop} (hgd:o.guard=none) (s x:Operand) (t:TypeId)
 (ho:o.op = .call { callee := .builtin .append,args := #[s,x],argTypes := #[t,t]})
 (base:Nat) (e:TypeId) (i:TypeInfo) (z:Value) (size bytes:Nat) (ht:P.underlying t=some (.slice e)) (hi:P.info? e=some i) (hz:i.zero=some z)
 (hsize:i.size=size) (hby:i.bytes=bytes) (hzs:z.cells.size=size) (hsz:0<size)
 (v:Value) (n:Nat) (xs:List Value) (hs:a.eval s=v) (hown:w.ownsRow base e size v n xs)
 (ad:Addr) (m c:Nat) (news:List Value) (hx:a.eval x = .slice (some ad) m c) (hl:news.length=m*size) (hnews:∀j u,news[j]?=some u->w.cell? (ad.add j)=some u) (h1:∀u∈news,u.oneCell'=true)
 (h63:n+m<=maxLen) (hbytes:(n+m)*bytes<=140737488355328) (hbase:base<=w.heap.size) (hm:0<m)
 (h:∀v' w',w'.ownsRow base e size v' (n+m) (xs ++ news)->w.grownBy w' v.ownBlock->(v'.ownBlock=v.ownBlock\/v'.ownBlock=some w.heap.size)->wpList P ops Q rest (a.put o.dst v') w'):wpList P ops Q (o :: rest) a w :=
 wpList_plain hgd λ_ hK=>aQ s x t ho base e i z size bytes ht hi hz hsize hby hzs hsz v n xs hs hown ad m c news hx hl hnews h1 h63 hbytes hbase hm λv' w' h2 h3 h4=>hK _ _ (h v' w' h2 h3 h4)
theorem gK {T:ae} (hT:bq T) (key:Int) (h:Nat):T.looks key h<=T.n:=by
 have:=(jk (λj=>T.stop key h (T.wk h j)) T.n 0).2.1;unfold ae.looks;omega
theorem ah.fC {w w':World} {row:Option Nat} (hg:w.grownBy w' row):ah (λb=>row=some b) w w':=⟨hg.os,hg.tape,hg.output,hg.size,λk hk hx=>hg.block k hk (λe=>hx e.symm)⟩
theorem gJ {X:Nat->Prop} {w w':World} {base size n:Nat} {e:TypeId} {v:Value} {xs:List Value} (h:w.ownsRow base e size v n xs) (hc:ah X w w') (hne:∀b,v.ownBlock=some b->¬X b):w'.ownsRow base e size v n xs:=by
 refine ⟨h.1,?_⟩;rcases h.2 with h2 | ⟨g,cap,cur,rfl,hb,hh,hr⟩
 . exact .inl h2
 . exact .inr ⟨g,cap,cur,rfl,hb,(hc.block g (Array.getElem?_eq_some_iff.1 hh).1 (hne g rfl)).trans hh,hr⟩
theorem adR:(Tryz.prog.info? 75).map (λi=>(i.zero,i.size,i.bytes))=some (some (.pointer none),1,8):=by kernel_rfl
end Go.Proofs.YtolhmibejhldkaaGreatDoor
